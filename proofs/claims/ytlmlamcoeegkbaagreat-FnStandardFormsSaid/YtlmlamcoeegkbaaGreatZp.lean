import Derived.Test.YtlmlamcoeegkbaaGreatZ0
import Derived.Test.YtlmlamcoeegkbaaGreatZo
import Derived.Laws.ResultCell
/-
  Lemmas for the law FnStandardForms, in short spelling.
-/
open Go.Lib (hid)
set_option linter.unusedVariables false
set_option linter.unusedSimpArgs false
set_option maxRecDepth 100000
set_option maxHeartbeats 40000000
namespace Go.Proofs.YtlmlamcoeegkbaaGreat.Z9
open Go.RowKit Go.Proofs.YtlmlamcoeegkbaaGreat AJ IK DL ah JA LD
def C1 (L:Lv)(T':Tw)(j:Nat):Prop:=npow (mul T') (AJ.one T') (L.c.getD j (AJ.one T')) (T'.getD j default).o=img T' L.c (pad (j+1) (T'.getD j default).w)
def C2 (L:Lv)(T':Tw)(j k:Nat):Prop:=mul T' (L.c.getD k (AJ.one T')) (L.c.getD j (AJ.one T'))=mul T' (L.c.getD j (AJ.one T')) (img T' L.c (pad (j+1) ((T'.getD j default).c.getD (k-j-1) [])))
def C4 (L:Lv)(T':Tw)(j:Nat):Prop:=mul T' L.w (it (img T' L.c) L.o (unit T' j))=mul T' (unit T' j) L.w
def C3 (L:Lv)(T':Tw):Prop:=img T' L.c L.w=L.w
theorem kF {L:Lv}{T':Tw}(h:Wf (L::T'))(hg:AJ.Good T'):GV L T'↔(∀j<T'.length,C1 L T' j)∧(∀j<T'.length,∀k,j<k→k<T'.length→C2 L T' j k)∧C3 L T'∧∀j<T'.length,C4 L T' j:=yj h hg
theorem TS {a b:List Nat}:ints a=ints b↔a=b:=by
 constructor
 ·intro h;exact(List.map_inj_right (fun x y e=>Int.ofNat.inj e)).1 h
 ·intro h;rw[h]
theorem ZX {s:Nat}{a b:List Nat}:pad s a=pad s b↔a=b:=by simp[pad]
theorem JZ (s:Nat)(a b:List Nat):decide (ints (pad s a)=ints (pad s b))=decide (a=b):=by
 apply decide_eq_decide.2;rw[TS,ZX]
def aG (p:Prop)(w:World)(e:Ending)(w':World):Prop:=∃k l a b:Int,e= .returned (.agg #[.int .i64 k,.int .i64 l,.int .i64 a,.int .i64 b])∧(k=0↔p)∧Below w.heap.size w w'
theorem IV {w wr:World}{c0 c1 c2:Value}{t t2:TypeId}{d:Array Value}(hb:Below (w.heap.size+2) ((w.alloc (.cells #[c0,c1,c2] t)).alloc (.cells d t2)) wr):
  (wr.cell? ⟨w.heap.size,0,none⟩=some c0∧wr.cell? ⟨w.heap.size,1,none⟩=some c1∧wr.cell? ⟨w.heap.size,2,none⟩=some c2)∧wr.heap[w.heap.size+1]?=some (.cells d t2)∧AA (fun _=>True) w wr∧Below w.heap.size w wr∧w.heap.size+2≤wr.heap.size:=by
 have hs:=hb.size;simp at hs;have hB:Below (w.heap.size+1) (w.alloc (.cells #[c0,c1,c2] t)) wr:=(AR.alloc (by simp) _).trans (hb.mono (by omega));refine⟨Cc hB,?_,DW hB _,Dx hB,by omega⟩;have:=hb.block (w.heap.size+1) (by omega);rw[this];have:=Av (w.alloc (.cells #[c0,c1,c2] t)) (.cells d t2);simpa using this
theorem AEl (T:Tw)(hT:Wf T)(hs:Small T)(i:Nat)(L:Lv)(hL:T[i]?=some L)(hg:AJ.Good (T.drop (i+1)))(w:World)(vO vP vC:Value)(hP:Aw Any w vO vP vC (AX T)):
  Calls Tryz.prog 193 #[.agg #[vO,vP,vC],.int .i64 (i:Int)] w (aG (GV L (T.drop (i+1))) w):=by
 have hi:i<T.length:=(Ak.1 hL).1;have hs6:=hs.1;have HK:=hid (lvl hT hL);obtain⟨aO,cO,aP,cP,aC,cC,rfl,rfl,rfl,Er,hP1,FP⟩:=hP.open;have hw:=Ex hT i;rw[drop_cons hL]at hw;have Fq:=hid (kF hw hg);obtain⟨bC,oC,a2,c2,rfl,_,hbC,hcC,h21,GJ⟩:=hP.J8 hL;obtain⟨bO,oO,rfl,_,Ch,XH⟩:=hP.ord hL;obtain⟨bP,oP,uW,rfl,_,EK,XI,YK⟩:=hP.pow hL;have hcl:L.c.length=T.length-(i+1):=HK.out.2.1;have AJO:L.o≤7:=hs.2 L (Ar hL);have HP:=hid hP;have HL:=hid hL;have HG:=hid hg;have HT:=hid hT;have HS:=hid hs;have Eg:=hid hcC;have nX:=hid XH;have nY:=hid XI;have U5:=hid YK;have Ij:=hid GJ;have AJ0:=hid (fun K (hK:K≤1000)=>jd T hT hs (i+1) K (by omega) hg hK);have LX:=hid (AGh T hT hs i L hL);have HAT:=hid (MO T hT hs (i+1) (by omega));clear hP hL hg hT hs hw hcC GJ XH XI YK;go_enter Tryz.func193,Tryz.ntmps193;go_wp2_with fail;go_loopw [7] (fun j wr=>∃m:Nat,m≤T.length-(i+1)∧j= .int .i64 ((i:Int)+1+(m:Int))∧Hid (∀t,t<m→C1 L (T.drop (i+1)) t)∧Below (w.heap.size+2) ((w.alloc (.cells #[.slice (some ⟨bO,oO,none⟩) T.length cO,.slice (some ⟨bP,oP,none⟩) T.length cP,.slice (some ⟨bC,oC,none⟩) T.length cC] 28)).alloc (.cells #[.int .i64 0,.int .i64 0,.int .i64 0,.int .i64 0] 147)) wr) (fun j _=>T.length-(intOf j).toNat);case atStart=>exact⟨0,AU _,by go_num,hid (fun t h=>absurd h (DX _)),Ag _ _⟩
 case round=>
  obtain⟨m,hm,rfl,hR,hb⟩:=hrel;have HB:=hid hb;clear hb;by_cases hlt:m<T.length-(i+1)
  ·skip
   obtain⟨⟨e0,e1,e2⟩,hf,hk,hbw,hsz⟩:=IV HB.out;have Gd:=hid hk;have HF:=hid hf;have Au:=hid hbw;have GA:w.heap.size<wr.heap.size:=by omega
   have Bj:=hid (HP.out.keep hk);clear hf hbw;obtain⟨y,hy⟩:∃y,L.c[m]?=some y:=⟨_,AP (by omega)⟩;obtain⟨b2,o2,uy,rfl,_,hb2,hcy,FW⟩:=Ij.out m y hy;obtain⟨Lj,Dt⟩:∃Lj,T[i+1+m]?=some Lj:=⟨_,AP (by omega)⟩;obtain⟨tN,tO,eO,_,_,Bc⟩:=HP.out.ord Dt;obtain⟨rfl,rfl⟩:bO=tN∧oO=tO:=by simpa using eO
   obtain⟨tQ,tT,uP,eP,_,_,hcP,EA⟩:=HP.out.pow Dt;obtain⟨rfl,rfl⟩:bP=tQ∧oP=tT:=by simpa using eP
   have Bz:Lj.o≤7:=HS.out.2 Lj (Ar Dt);have Qd:=hid Bc;have YG:=hid hcP;have NC:=hid hcy;have Ew:=hid EA;have Gf:=hid FW;have ET:=hid (HK.out.2.2.1 y (Ar hy));have FU:=hid (show El (T.drop (i+1)) (pad (m+1) Lj.w) from RD HK.out.1 (m+1) (by rw[FM,show i+1+(m+1)=i+1+m+1 by omega];exact(lvl HT.out Dt).2.2.2.1) (by simp;omega));have Kt:=hid (show(pad (i+1+m+1) Lj.w).length=T.length∧El (T.drop (i+1)) ((pad (i+1+m+1) Lj.w).drop (i+1))∧(pad (i+1+m+1) Lj.w).drop (i+1)=pad (m+1) Lj.w from by
    have e:pad (i+1+m+1) Lj.w=pad (i+1) (pad (m+1) Lj.w):=by rw[Pq];congr 1
    rw[e,BG];exact⟨by rw[BZ,Af FU.out];simp;omega,FU.out,rfl⟩)
   have KA:=hid (show C1 L (T.drop (i+1)) m↔npow (mul (T.drop (i+1))) (AJ.one (T.drop (i+1))) y Lj.o=img (T.drop (i+1)) L.c (pad (m+1) Lj.w) from by
    unfold C1;rw[Bg,hy,Bg,Gj,Dt];rfl)
   clear eO eP Bc hcP hcy EA FW Dt hy;have hcC:wr.cell? ⟨bC,oC+i,none⟩=some (.slice (some ⟨b2,o2,none⟩) L.c.length c2):=by rw[hk.cell trivial hbC];exact Eg.out
   have Nt:bC<wr.heap.size:=by omega
   have hcy:wr.cell? ⟨b2,o2+m,none⟩=some (uy):=by rw[hk.cell trivial hb2];exact NC.out
   have UY:b2<wr.heap.size:=by omega
   have Bc:wr.cell? ⟨bO,oO+(i+1+m),none⟩=some (.int .i64 (Lj.o:Int)):=by rw[hk.cell trivial Ch];exact Qd.out
   have QG:bO<wr.heap.size:=by omega
   have w3:IntKind.i64.wrap ((i:Int)+1)=(i:Int)+1:=AY _ (by omega);have w6:(i:Int)<(T.length:Int):=by omega
   have w7:(0:Int)≤(i:Int):=by omega
   have w1:IntKind.i64.wrap (((i:Int)+1+(m:Int))-(i:Int))=(m:Int)+1:=by rw[AY _ (by omega)];omega
   have w2:IntKind.i64.wrap (((m:Int)+1)-1)=(m:Int):=by rw[AY _ (by omega)];omega
   have w8:IntKind.i64.wrap (m:Int)=(m:Int):=AY _ (by omega);have w4:(m:Int)<(L.c.length:Int):=by omega
   have w5:(0:Int)≤(m:Int):=by omega
   have w9:(i:Int)+1+(m:Int)<(T.length:Int):=by omega
   have Co:(0:Int)≤(i:Int)+1+(m:Int):=by omega
   have gG:((i:Int)+1+(m:Int)).toNat=i+1+m:=by omega
   have Nu:=hid (Gf.out.keep hk);clear hk;go_wp2_with fail;go_region_held3 (fun w'=>(∀b o,b<wr.heap.size→w'.cell? ⟨b,o,none⟩=wr.cell? ⟨b,o,none⟩)∧AA (fun _=>True) wr w')
    (first|exact Aj (AB.drew)|exact Aj (AA.trans (AB.drew) (AA.of_below (by assumption)))|exact Aj (AA.drewN (AA.trans (AB.drew) (AA.of_below (by assumption))) _)|exact Aj (AA.trans (AA.trans (AB.drew) (AA.of_below (by assumption))) (AA.of_below (by assumption)))|exact Aj (AA.drewN (AA.trans (AA.trans (AB.drew) (AA.of_below (by assumption))) (AA.of_below (by assumption))) _))
    (first|(go_at_call 144;refine(AJ0.out Lj.o (by omega) _ _ _ _ _ (pad (i+1) y) (Bj.out.keep (AB.drew)) (Nu.out.keep (AB.drew)) (by rw[BZ,Af ET.out];simp;omega) (by rw[BG];exact ET.out)).mono ?_;rintro e w5 ⟨v5,rfl,BF,hb5⟩))
   rw[BG]at BF;have AZ:=hid (HB.out.trans ((AR.drew).trans (hb5.mono (by show w.heap.size+2≤wr.heap.size;omega))));have Dc:=hid BF;clear BF hb5 e0 e1 e2 GA hsz hcC hcy Bc Nt UY QG;obtain⟨⟨e0,e1,e2⟩,hf,hk,hbw,hsz⟩:=IV AZ.out;have Gd:=hid hk;have HF:=hid hf;have Au:=hid hbw;have GA:w.heap.size<w5.heap.size:=by omega
   have Bj:=hid (HP.out.keep hk);clear hf hbw;have hcP:w5.cell? ⟨bP,oP+(i+1+m),none⟩=some (uP):=by rw[hk.cell trivial EK];exact YG.out
   have XJ:bP<w5.heap.size:=by omega
   have XK:=hid (Ew.out.keep hk);clear hk;by_cases hc:C1 L (T.drop (i+1)) m
   ·skip
    have hdec:=hid (show decide (ints (pad (i+1) (npow (mul (T.drop (i+1))) (AJ.one (T.drop (i+1))) y Lj.o))=ints (pad (i+1) (img (T.drop (i+1)) L.c (pad (m+1) Lj.w))))=true by
     rw[JZ];exact En (KA.out.1 hc))
    have HCM:=hid hc;clear hc;go_wp2_with fail;go_region_held3 (fun w'=>(∀b o,b<w5.heap.size→w'.cell? ⟨b,o,none⟩=w5.cell? ⟨b,o,none⟩)∧AA (fun _=>True) w5 w')
     (first|exact Aj (AB.drew)|exact Aj (AA.trans (AB.drew) (AA.of_below (by assumption)))|exact Aj (AA.drewN (AA.trans (AB.drew) (AA.of_below (by assumption))) _)|exact Aj (AA.trans (AA.trans (AB.drew) (AA.of_below (by assumption))) (AA.of_below (by assumption)))|exact Aj (AA.drewN (AA.trans (AA.trans (AB.drew) (AA.of_below (by assumption))) (AA.of_below (by assumption))) _))
     (first|(go_at_call 185;refine(LX.out _ _ _ _ _ (pad (i+1+m+1) Lj.w) (Bj.out.keep (AB.drew)) (XK.out.keep (AB.drew)) Kt.out.1 Kt.out.2.1).mono ?_;rintro e w6 ⟨v6,rfl,Al,hb6⟩;rw[Kt.out.2.2]at Al)|(go_at_call 183;refine(MK _ _ _ _ _ ((Dc.out.sl.mono (fun _ _=>trivial)).keep (AA.trans (AB.drew) (AA.of_below (by assumption)))) (Al.sl.mono (fun _ _=>trivial))).mono ?_;rintro e w7 ⟨rfl,n7,rfl⟩;rw[hdec.out]))
    have BK:=hid (AZ.out.trans ((AR.drew).trans ((Dp hb6 n7).mono (by show w.heap.size+2≤w5.heap.size;omega))));clear Al hb6;go_wp2_with fail;go_roundw;case rel=>exact⟨m+1,by omega,by go_num,hid (fun t ht=>by
     rcases FK.1 ht with h|h
     ·exact hR.out t h
     ·subst h;exact HCM.out),BK.out⟩
    case measure=>simp[intOf];omega
   ·skip
    have hdec:=hid (show decide (ints (pad (i+1) (npow (mul (T.drop (i+1))) (AJ.one (T.drop (i+1))) y Lj.o))=ints (pad (i+1) (img (T.drop (i+1)) L.c (pad (m+1) Lj.w))))=false by
     rw[JZ];exact Dh (fun h=>hc (KA.out.2 h)))
    have Il:=hid (show¬GV L (T.drop (i+1)) from fun h=>hc ((Fq.out.1 h).1 m (by simp;omega)));clear hc;go_wp2_with fail;go_region_held3 (fun w'=>(∀b o,b<w5.heap.size→w'.cell? ⟨b,o,none⟩=w5.cell? ⟨b,o,none⟩)∧AA (fun _=>True) w5 w')
     (first|exact Aj (AB.drew)|exact Aj (AA.trans (AB.drew) (AA.of_below (by assumption)))|exact Aj (AA.drewN (AA.trans (AB.drew) (AA.of_below (by assumption))) _)|exact Aj (AA.trans (AA.trans (AB.drew) (AA.of_below (by assumption))) (AA.of_below (by assumption)))|exact Aj (AA.drewN (AA.trans (AA.trans (AB.drew) (AA.of_below (by assumption))) (AA.of_below (by assumption))) _))
     (first|(go_at_call 185;refine(LX.out _ _ _ _ _ (pad (i+1+m+1) Lj.w) (Bj.out.keep (AB.drew)) (XK.out.keep (AB.drew)) Kt.out.1 Kt.out.2.1).mono ?_;rintro e w6 ⟨v6,rfl,Al,hb6⟩;rw[Kt.out.2.2]at Al)|(go_at_call 183;refine(MK _ _ _ _ _ ((Dc.out.sl.mono (fun _ _=>trivial)).keep (AA.trans (AB.drew) (AA.of_below (by assumption)))) (Al.sl.mono (fun _ _=>trivial))).mono ?_;rintro e w7 ⟨rfl,n7,rfl⟩;rw[hdec.out]))
    have BK:=hid (AZ.out.trans ((AR.drew).trans ((Dp hb6 n7).mono (by show w.heap.size+2≤w5.heap.size;omega))));clear Al hb6;obtain⟨_,Ah,_,D9,Gn⟩:=IV BK.out;have f0:=Aq _ (w.heap.size+1) 0 _ _ (0,0) Ah;have f1:=Aq _ (w.heap.size+1) 1 _ _ (0,0) Ah;have f2:=Aq _ (w.heap.size+1) 2 _ _ (0,0) Ah;have f3:=Aq _ (w.heap.size+1) 3 _ _ (0,0) Ah;have z0:=BP _ (w.heap.size+1) 0 _ _ Ah;have z1:=BP _ (w.heap.size+1) 1 _ _ Ah;have z2:=BP _ (w.heap.size+1) 2 _ _ Ah;have z3:=BP _ (w.heap.size+1) 3 _ _ Ah;have Gp:=hid D9;clear Ah D9 Gn;simp at f0 f1 f2 f3;go_wp2_with fail;exact Am (v:=.agg #[.int .i64 1,.int .i64 (i),.int .i64 ((i:Int)+1+(m:Int)),.int .i64 (0)]) (by simp[results,Tryz.results193,go_sem,f0,f1,f2,f3]) rfl
     ⟨1,_,_,_,rfl,⟨fun h=>absurd h (by decide),fun h=>absurd h Il.out⟩,(((Gp.out.setCell (by simp) _).setCell (by simp) _).setCell (by simp) _).setCell (by simp) _⟩
  ·skip
   obtain rfl:m=T.length-(i+1):=by omega
   have H1:=hid (show∀j<(T.drop (i+1)).length,C1 L (T.drop (i+1)) j from fun j hj=>hR.out j (by simpa using hj));clear hR hlt hm;go_wp2_with fail;go_loopw [9] (fun j wr=>∃m:Nat,m≤T.length-(i+1)∧j= .int .i64 ((i:Int)+1+(m:Int))∧Hid (∀t,t<m→∀k,t<k→k<T.length-(i+1)→C2 L (T.drop (i+1)) t k)∧Below (w.heap.size+2) ((w.alloc (.cells #[.slice (some ⟨bO,oO,none⟩) T.length cO,.slice (some ⟨bP,oP,none⟩) T.length cP,.slice (some ⟨bC,oC,none⟩) T.length cC] 28)).alloc (.cells #[.int .i64 0,.int .i64 0,.int .i64 0,.int .i64 0] 147)) wr) (fun j _=>T.length-(intOf j).toNat);case atStart=>exact⟨0,AU _,by go_num,hid (fun t h=>absurd h (DX _)),HB.out⟩
   case round=>
    clear HB;obtain⟨m,hm,rfl,hR,hb⟩:=hrel;have HB:=hid hb;clear hb;by_cases hlt:m<T.length-(i+1)
    ·skip
     have hd:decide ((i:Int)+1+(m:Int)<(T.length:Int))=true:=by simp;omega
     obtain⟨x,hx⟩:∃x,L.c[m]?=some x:=⟨_,AP (by omega)⟩;obtain⟨b2,o2,ux,rfl,_,hb2,hcx,Kc⟩:=Ij.out m x hx;obtain⟨Lj,Dt⟩:∃Lj,T[i+1+m]?=some Lj:=⟨_,AP (by omega)⟩;obtain⟨tV,tX,aJ,cJ,eC,_,_,hcJ,hJ1,YL⟩:=HP.out.J8 Dt;obtain⟨rfl,rfl⟩:bC=tV∧oC=tX:=by simpa using eC
     have YM:=hid hcx;have U6:=hid Kc;have Xt:=hid hcJ;have tY:=hid YL;have HX:=hid hx;have YN:=hid Dt;have Cw:=hid (HK.out.2.2.1 x (Ar hx));have tZ:=hid (lvl HT.out Dt).2.1;clear hx hcx Kc eC hcJ YL Dt;go_wp2_with fail;go_loopw [10] (fun kv wr=>∃q:Nat,m+1≤q∧q≤T.length-(i+1)∧kv= .int .i64 ((i:Int)+1+(q:Int))∧Hid (∀k,m<k→k<q→C2 L (T.drop (i+1)) m k)∧Below (w.heap.size+2) ((w.alloc (.cells #[.slice (some ⟨bO,oO,none⟩) T.length cO,.slice (some ⟨bP,oP,none⟩) T.length cP,.slice (some ⟨bC,oC,none⟩) T.length cC] 28)).alloc (.cells #[.int .i64 0,.int .i64 0,.int .i64 0,.int .i64 0] 147)) wr) (fun kv _=>T.length-(intOf kv).toNat);case atStart=>exact⟨m+1,Ap _,by omega,by go_num,hid (fun k h1 h2=>absurd h2 (by omega)),HB.out⟩
     case round=>
      clear HB;obtain⟨q,hq1,hq,rfl,hQ,hb⟩:=hrel;have HB:=hid hb;clear hb;by_cases Sb:q<T.length-(i+1)
      ·skip
       obtain⟨⟨e0,e1,e2⟩,hf,hk,hbw,hsz⟩:=IV HB.out;have Gd:=hid hk;have HF:=hid hf;have Au:=hid hbw;have GA:w.heap.size<wr.heap.size:=by omega
       have Bj:=hid (HP.out.keep hk);clear hf hbw;obtain⟨y,hy⟩:∃y,L.c[q]?=some y:=⟨_,AP (by omega)⟩;obtain⟨b2',tq,uy,e2',_,_,hcy,FW⟩:=Ij.out q y hy;obtain⟨rfl,rfl⟩:b2=b2'∧o2=tq:=by simpa using e2'
       obtain⟨d,hd'⟩:∃d,q=m+1+d:=⟨q-(m+1),by omega⟩;have hdl:d<Lj.c.length:=by rw[tZ.out];omega
       obtain⟨z,hz⟩:∃z,Lj.c[d]?=some z:=⟨_,AP hdl⟩;obtain⟨bJ,oJ,uz,rfl,_,tu,hcz,YO⟩:=tY.out d z hz;have NC:=hid hcy;have Gf:=hid FW;have uA:=hid hcz;have uB:=hid YO;have ET:=hid (HK.out.2.2.1 y (Ar hy));have Kq:=hid (show El (T.drop (i+1)) (pad (m+1) z) from RD HK.out.1 (m+1) (by rw[FM,show i+1+(m+1)=i+1+m+1 by omega];exact(lvl HT.out YN.out).2.2.1 z (Ar hz)) (by simp;omega));have GL:=hid (show(pad (i+1+m+1) z).length=T.length∧El (T.drop (i+1)) ((pad (i+1+m+1) z).drop (i+1))∧(pad (i+1+m+1) z).drop (i+1)=pad (m+1) z from by
        have e:pad (i+1+m+1) z=pad (i+1) (pad (m+1) z):=by rw[Pq];congr 1
        rw[e,BG];exact⟨by rw[BZ,Af Kq.out];simp;omega,Kq.out,rfl⟩)
       have Ko:=hid (show C2 L (T.drop (i+1)) m q↔mul (T.drop (i+1)) y x=mul (T.drop (i+1)) x (img (T.drop (i+1)) L.c (pad (m+1) z)) from by
        unfold C2;rw[Bg,hy,Bg,HX.out,Bg (l:=T.drop (i+1)),Gj,YN.out,Bg,show q-m-1=d by omega];simp only[WI];rw[hz];rfl)
       clear e2' hcy FW hcz YO hy hz;have hcC:wr.cell? ⟨bC,oC+i,none⟩=some (.slice (some ⟨b2,o2,none⟩) L.c.length c2):=by rw[hk.cell trivial hbC];exact Eg.out
       have Nt:bC<wr.heap.size:=by omega
       have hcx:wr.cell? ⟨b2,o2+m,none⟩=some (ux):=by rw[hk.cell trivial hb2];exact YM.out
       have UY:b2<wr.heap.size:=by omega
       have hcy:wr.cell? ⟨b2,o2+q,none⟩=some uy:=by rw[hk.cell trivial hb2];exact NC.out
       have w3:IntKind.i64.wrap ((i:Int)+1)=(i:Int)+1:=AY _ (by omega);have w6:(i:Int)<(T.length:Int):=by omega
       have w7:(0:Int)≤(i:Int):=by omega
       have w1:IntKind.i64.wrap (((i:Int)+1+(m:Int))-(i:Int))=(m:Int)+1:=by rw[AY _ (by omega)];omega
       have w2:IntKind.i64.wrap (((m:Int)+1)-1)=(m:Int):=by rw[AY _ (by omega)];omega
       have w8:IntKind.i64.wrap (m:Int)=(m:Int):=AY _ (by omega);have w4:(m:Int)<(L.c.length:Int):=by omega
       have w5:(0:Int)≤(m:Int):=by omega
       have w9:(i:Int)+1+(m:Int)<(T.length:Int):=by omega
       have Co:(0:Int)≤(i:Int)+1+(m:Int):=by omega
       have gG:((i:Int)+1+(m:Int)).toNat=i+1+m:=by omega
       have w1q:IntKind.i64.wrap (((i:Int)+1+(q:Int))-(i:Int))=(q:Int)+1:=by rw[AY _ (by omega)];omega
       have w2q:IntKind.i64.wrap (((q:Int)+1)-1)=(q:Int):=by rw[AY _ (by omega)];omega
       have w8q:IntKind.i64.wrap (q:Int)=(q:Int):=AY _ (by omega);have w4q:(q:Int)<(L.c.length:Int):=by omega
       have w5q:(0:Int)≤(q:Int):=by omega
       have w9q:(i:Int)+1+(q:Int)<(T.length:Int):=by omega
       have AJP:(0:Int)≤(i:Int)+1+(q:Int):=by omega
       have AJQ:((i:Int)+1+(q:Int)).toNat=i+1+q:=by omega
       have ng:=hid (U6.out.keep hk);have Nu:=hid (Gf.out.keep hk);have wA:IntKind.i64.wrap (((i:Int)+1+(q:Int))-((i:Int)+1+(m:Int)))=(d:Int)+1:=by rw[AY _ (by omega)];omega
       have wA':IntKind.i64.wrap ((q:Int)-(m:Int))=(d:Int)+1:=by rw[AY _ (by omega)];omega
       have wB:IntKind.i64.wrap (((d:Int)+1)-1)=(d:Int):=by rw[AY _ (by omega)];omega
       have wD:IntKind.i64.wrap (d:Int)=(d:Int):=AY _ (by omega);have wE:(d:Int)<(Lj.c.length:Int):=by omega
       have wF:(0:Int)≤(d:Int):=by omega
       clear hk hd';go_wp2_with fail;go_region_held3 (fun w'=>(∀b o,b<wr.heap.size→w'.cell? ⟨b,o,none⟩=wr.cell? ⟨b,o,none⟩)∧AA (fun _=>True) wr w')
        (first|exact Aj (AB.drew)|exact Aj (AA.trans (AB.drew) (AA.of_below (by assumption)))|exact Aj (AA.drewN (AA.trans (AB.drew) (AA.of_below (by assumption))) _)|exact Aj (AA.trans (AA.trans (AB.drew) (AA.of_below (by assumption))) (AA.of_below (by assumption)))|exact Aj (AA.drewN (AA.trans (AA.trans (AB.drew) (AA.of_below (by assumption))) (AA.of_below (by assumption))) _))
        (first|(fail))
       obtain⟨w4,hw4⟩:∃w4,w4=wr.drew:=⟨_,rfl⟩;rw[←hw4];have CB:=hid (show Below (w.heap.size+2) ((w.alloc (.cells #[.slice (some ⟨bO,oO,none⟩) T.length cO,.slice (some ⟨bP,oP,none⟩) T.length cP,.slice (some ⟨bC,oC,none⟩) T.length cC] 28)).alloc (.cells #[.int .i64 0,.int .i64 0,.int .i64 0,.int .i64 0] 147)) w4 by rw[hw4];exact HB.out.drew);clear hw4 e0 e1 e2 GA hsz hcC hcx hcy Nt UY;obtain⟨⟨e0,e1,e2⟩,hf,hk,hbw,hsz⟩:=IV CB.out;have Gd:=hid hk;have HF:=hid hf;have Au:=hid hbw;have GA:w.heap.size<w4.heap.size:=by omega
       have Bj:=hid (HP.out.keep hk);clear hf hbw;have hcC:w4.cell? ⟨bC,oC+(i+1+m),none⟩=some (.slice (some ⟨bJ,oJ,none⟩) Lj.c.length cJ):=by rw[hk.cell trivial hbC];exact Xt.out
       have Nt:bC<w4.heap.size:=by omega
       have hcz:w4.cell? ⟨bJ,oJ+d,none⟩=some (uz):=by rw[hk.cell trivial tu];exact uA.out
       have ACR:bJ<w4.heap.size:=by omega
       have dK:=hid (uB.out.keep hk);have AL3:=hid (U6.out.keep hk);have AL4:=hid (Gf.out.keep hk);clear hk;go_wp2_with fail;go_region_held3 (fun w'=>(∀b o,b<w4.heap.size→w'.cell? ⟨b,o,none⟩=w4.cell? ⟨b,o,none⟩)∧AA (fun _=>True) w4 w')
        (first|exact Aj (AB.drew)|exact Aj (AA.trans (AB.drew) (AA.of_below (by assumption)))|exact Aj (AA.drewN (AA.trans (AB.drew) (AA.of_below (by assumption))) _)|exact Aj (AA.trans (AA.trans (AB.drew) (AA.of_below (by assumption))) (AA.of_below (by assumption)))|exact Aj (AA.drewN (AA.trans (AA.trans (AB.drew) (AA.of_below (by assumption))) (AA.of_below (by assumption))) _))
        (first|(go_at_call 185;refine(LX.out _ _ _ _ _ (pad (i+1+m+1) z) (Bj.out.keep (AB.drew)) (dK.out.keep (AB.drew)) GL.out.1 GL.out.2.1).mono ?_;rintro e w5 ⟨v5,rfl,BF,hb5⟩;rw[GL.out.2.2]at BF))
       have AZ:=hid (CB.out.trans ((AR.drew).trans (hb5.mono (by show w.heap.size+2≤w4.heap.size;omega))));have Dc:=hid BF;have AL5:=hid (AA.trans (AB.drew) (AA.of_below (S:=fun _=>True) hb5));clear BF hb5 e0 e1 e2 GA hsz hcC hcz Nt ACR;obtain⟨⟨e0,e1,e2⟩,hf,hk,hbw,hsz⟩:=IV AZ.out;have Gd:=hid hk;have HF:=hid hf;have Au:=hid hbw;have GA:w.heap.size<w5.heap.size:=by omega
       have Bj:=hid (HP.out.keep hk);clear hf hbw;have dX:=hid (U6.out.keep hk);have ACv:=hid (Gf.out.keep hk);have Sc:=hid (show El (T.drop (i+1)) (img (T.drop (i+1)) L.c (pad (m+1) z)) from Oh HK.out.1 HK.out.2.2.1 _);clear hk;by_cases hc:C2 L (T.drop (i+1)) m q
       ·skip
        have hdec:=hid (show decide (ints (pad (i+1) (mul (T.drop (i+1)) y x))=ints (pad (i+1) (mul (T.drop (i+1)) x (img (T.drop (i+1)) L.c (pad (m+1) z)))))=true by
         rw[JZ];exact En (Ko.out.1 hc))
        have HCM:=hid hc;clear hc;go_wp2_with fail;go_region_held3 (fun w'=>(∀b o,b<w5.heap.size→w'.cell? ⟨b,o,none⟩=w5.cell? ⟨b,o,none⟩)∧AA (fun _=>True) w5 w')
         (first|exact Aj (AB.drew)|exact Aj (AA.trans (AB.drew) (AA.of_below (by assumption)))|exact Aj (AA.drewN (AA.trans (AB.drew) (AA.of_below (by assumption))) _)|exact Aj (AA.trans (AA.trans (AB.drew) (AA.of_below (by assumption))) (AA.of_below (by assumption)))|exact Aj (AA.drewN (AA.trans (AA.trans (AB.drew) (AA.of_below (by assumption))) (AA.of_below (by assumption))) _))
         (first|(go_at_call_of 143 uy;refine(HAT.out _ _ _ _ uy ux (pad (i+1) y) (pad (i+1) x) (Bj.out.keep (by first|exact(AB.drew)|exact AA.trans (AB.drew) (AA.of_below (by assumption)))) (ACv.out.keep (by first|exact(AB.drew)|exact AA.trans (AB.drew) (AA.of_below (by assumption)))) (dX.out.keep (by first|exact(AB.drew)|exact AA.trans (AB.drew) (AA.of_below (by assumption)))) (by rw[BZ,Af ET.out];simp;omega) (by rw[BZ,Af Cw.out];simp;omega) (by rw[BG];exact ET.out) (by rw[BG];exact Cw.out)).mono ?_;rintro e wa ⟨va,rfl,hoa,hba⟩;rw[BG,BG]at hoa)|(go_at_call_of 143 v5;refine(HAT.out _ _ _ _ ux v5 (pad (i+1) x) (pad (i+1) (img (T.drop (i+1)) L.c (pad (m+1) z))) (Bj.out.keep (by first|exact(AB.drew)|exact AA.trans (AB.drew) (AA.of_below (by assumption)))) (dX.out.keep (by first|exact(AB.drew)|exact AA.trans (AB.drew) (AA.of_below (by assumption)))) ((Dc.out.sl.mono (fun _ _=>trivial)).keep (by first|exact(AB.drew)|exact AA.trans (AB.drew) (AA.of_below (by assumption)))) (by rw[BZ,Af Cw.out];simp;omega) (by rw[BZ,Af Sc.out];simp;omega) (by rw[BG];exact Cw.out) (by rw[BG];exact Sc.out)).mono ?_;rintro e wb ⟨vb,rfl,CW,hbb⟩;rw[BG,BG]at CW)|(go_at_call 183;refine(MK _ va vb _ _ (by first|exact hoa.sl.mono (fun _ _=>trivial)|exact(hoa.sl.mono (fun _ _=>trivial)).keep (AA.of_below hbb)) (by first|exact CW.sl.mono (fun _ _=>trivial)|exact(CW.sl.mono (fun _ _=>trivial)).keep (AA.of_below hba))).mono ?_;rintro e w7 ⟨rfl,n7,rfl⟩;rw[hdec.out]))
        all_goals
         have hs5:w.heap.size+2≤w5.heap.size:=hsz;have BK:=hid (AZ.out.trans ((AR.drew).trans (Dp (by first|exact(hba.mono hs5).trans (hbb.mono (Ab hs5 hba.size))|exact(hbb.mono hs5).trans (hba.mono (Ab hs5 hbb.size))) n7)));clear hoa hba CW hbb;go_wp2_with fail;go_roundw;case rel=>exact⟨q+1,by omega,by omega,by go_num,hid (fun t h1 ht=>by
          rcases FK.1 ht with h|h
          ·exact hQ.out t h1 h
          ·subst h;exact HCM.out),BK.out⟩
         case measure=>simp[intOf];omega
       ·skip
        have hdec:=hid (show decide (ints (pad (i+1) (mul (T.drop (i+1)) y x))=ints (pad (i+1) (mul (T.drop (i+1)) x (img (T.drop (i+1)) L.c (pad (m+1) z)))))=false by
         rw[JZ];exact Dh (fun h=>hc (Ko.out.2 h)))
        have Il:=hid (show¬GV L (T.drop (i+1)) from fun h=>hc ((Fq.out.1 h).2.1 m (by simp;omega) q (by omega) (by simp;omega)));clear hc;go_wp2_with fail;go_region_held3 (fun w'=>(∀b o,b<w5.heap.size→w'.cell? ⟨b,o,none⟩=w5.cell? ⟨b,o,none⟩)∧AA (fun _=>True) w5 w')
         (first|exact Aj (AB.drew)|exact Aj (AA.trans (AB.drew) (AA.of_below (by assumption)))|exact Aj (AA.drewN (AA.trans (AB.drew) (AA.of_below (by assumption))) _)|exact Aj (AA.trans (AA.trans (AB.drew) (AA.of_below (by assumption))) (AA.of_below (by assumption)))|exact Aj (AA.drewN (AA.trans (AA.trans (AB.drew) (AA.of_below (by assumption))) (AA.of_below (by assumption))) _))
         (first|(go_at_call_of 143 uy;refine(HAT.out _ _ _ _ uy ux (pad (i+1) y) (pad (i+1) x) (Bj.out.keep (by first|exact(AB.drew)|exact AA.trans (AB.drew) (AA.of_below (by assumption)))) (ACv.out.keep (by first|exact(AB.drew)|exact AA.trans (AB.drew) (AA.of_below (by assumption)))) (dX.out.keep (by first|exact(AB.drew)|exact AA.trans (AB.drew) (AA.of_below (by assumption)))) (by rw[BZ,Af ET.out];simp;omega) (by rw[BZ,Af Cw.out];simp;omega) (by rw[BG];exact ET.out) (by rw[BG];exact Cw.out)).mono ?_;rintro e wa ⟨va,rfl,hoa,hba⟩;rw[BG,BG]at hoa)|(go_at_call_of 143 v5;refine(HAT.out _ _ _ _ ux v5 (pad (i+1) x) (pad (i+1) (img (T.drop (i+1)) L.c (pad (m+1) z))) (Bj.out.keep (by first|exact(AB.drew)|exact AA.trans (AB.drew) (AA.of_below (by assumption)))) (dX.out.keep (by first|exact(AB.drew)|exact AA.trans (AB.drew) (AA.of_below (by assumption)))) ((Dc.out.sl.mono (fun _ _=>trivial)).keep (by first|exact(AB.drew)|exact AA.trans (AB.drew) (AA.of_below (by assumption)))) (by rw[BZ,Af Cw.out];simp;omega) (by rw[BZ,Af Sc.out];simp;omega) (by rw[BG];exact Cw.out) (by rw[BG];exact Sc.out)).mono ?_;rintro e wb ⟨vb,rfl,CW,hbb⟩;rw[BG,BG]at CW)|(go_at_call 183;refine(MK _ va vb _ _ (by first|exact hoa.sl.mono (fun _ _=>trivial)|exact(hoa.sl.mono (fun _ _=>trivial)).keep (AA.of_below hbb)) (by first|exact CW.sl.mono (fun _ _=>trivial)|exact(CW.sl.mono (fun _ _=>trivial)).keep (AA.of_below hba))).mono ?_;rintro e w7 ⟨rfl,n7,rfl⟩;rw[hdec.out]))
        all_goals
         have hs5:w.heap.size+2≤w5.heap.size:=hsz;have BK:=hid (AZ.out.trans ((AR.drew).trans (Dp (by first|exact(hba.mono hs5).trans (hbb.mono (Ab hs5 hba.size))|exact(hbb.mono hs5).trans (hba.mono (Ab hs5 hbb.size))) n7)));clear hoa hba CW hbb;obtain⟨_,Ah,_,D9,Gn⟩:=IV BK.out;have f0:=Aq _ (w.heap.size+1) 0 _ _ (0,0) Ah;have f1:=Aq _ (w.heap.size+1) 1 _ _ (0,0) Ah;have f2:=Aq _ (w.heap.size+1) 2 _ _ (0,0) Ah;have f3:=Aq _ (w.heap.size+1) 3 _ _ (0,0) Ah;have z0:=BP _ (w.heap.size+1) 0 _ _ Ah;have z1:=BP _ (w.heap.size+1) 1 _ _ Ah;have z2:=BP _ (w.heap.size+1) 2 _ _ Ah;have z3:=BP _ (w.heap.size+1) 3 _ _ Ah;have Gp:=hid D9;clear Ah D9 Gn;simp at f0 f1 f2 f3;go_wp2_with fail;exact Am (v:=.agg #[.int .i64 2,.int .i64 (i),.int .i64 ((i:Int)+1+(m:Int)),.int .i64 ((i:Int)+1+(q:Int))]) (by simp[results,Tryz.results193,go_sem,f0,f1,f2,f3]) rfl
          ⟨2,_,_,_,rfl,⟨fun h=>absurd h (by decide),fun h=>absurd h Il.out⟩,(((Gp.out.setCell (by simp) _).setCell (by simp) _).setCell (by simp) _).setCell (by simp) _⟩
      ·skip
       obtain rfl:q=T.length-(i+1):=by omega
       clear Sb hq hq1;go_wp2_with fail;go_roundw;case rel=>exact⟨m+1,by omega,by go_num,hid (fun t ht=>by
        rcases FK.1 ht with h|h
        ·exact hR.out t h
        ·subst h;exact hQ.out),HB.out⟩
       case measure=>simp[intOf];omega
    ·skip
     obtain rfl:m=T.length-(i+1):=by omega
     have H2:=hid (show∀j<(T.drop (i+1)).length,∀k,j<k→k<(T.drop (i+1)).length→C2 L (T.drop (i+1)) j k from fun j hj k h1 h2=>hR.out j (by simpa using hj) k h1 (by simpa using h2));clear hR hlt hm;obtain⟨⟨e0,e1,e2⟩,hf,hk,hbw,hsz⟩:=IV HB.out;have Gd:=hid hk;have HF:=hid hf;have Au:=hid hbw;have GA:w.heap.size<wr.heap.size:=by omega
     have Bj:=hid (HP.out.keep hk);clear hf hbw;have hcW:wr.cell? ⟨bP,oP+i,none⟩=some (uW):=by rw[hk.cell trivial EK];exact nY.out
     have XJ:bP<wr.heap.size:=by omega
     have J5:=hid (U5.out.keep hk);clear hk;go_wp2_with fail;refine(LX.out _ _ _ _ _ (pad (i+1) L.w) Bj.out J5.out (by rw[BZ,Af HK.out.2.2.2.1];simp;omega) (by rw[BG];exact HK.out.2.2.2.1)).mono ?_;rintro e w5 ⟨v5,rfl,BF,hb5⟩;rw[BG]at BF;have Dc:=hid BF;have Rb:=hid (J5.out.keep (AA.of_below hb5));have AZ:=hid (HB.out.trans (hb5.mono hsz));clear BF hb5 e0 e1 e2 GA hsz hcW XJ;by_cases hc:C3 L (T.drop (i+1))
     ·skip
      have hdec:=hid (show decide (ints (pad (i+1) (img (T.drop (i+1)) L.c L.w))=ints (pad (i+1) L.w))=true by
       rw[JZ];exact En hc)
      have H3:=hid hc;clear hc;go_wp2_with fail;refine(MK _ _ _ _ _ (Dc.out.sl.mono (fun _ _=>trivial)) Rb.out).mono ?_;rintro e w7 ⟨rfl,n7,rfl⟩;rw[hdec.out];have BK:=hid (Dp AZ.out n7);go_wp2_with fail;go_loopw [15] (fun j wr=>∃m:Nat,m≤T.length-(i+1)∧j= .int .i64 ((i:Int)+1+(m:Int))∧Hid (∀t,t<m→C4 L (T.drop (i+1)) t)∧Below (w.heap.size+2) ((w.alloc (.cells #[.slice (some ⟨bO,oO,none⟩) T.length cO,.slice (some ⟨bP,oP,none⟩) T.length cP,.slice (some ⟨bC,oC,none⟩) T.length cC] 28)).alloc (.cells #[.int .i64 0,.int .i64 0,.int .i64 0,.int .i64 0] 147)) wr) (fun j _=>T.length-(intOf j).toNat);case atStart=>exact⟨0,AU _,by go_num,hid (fun t h=>absurd h (DX _)),BK.out⟩
      case round=>
       clear HB AZ BK Dc J5 Rb Bj;obtain⟨m,hm,rfl,hR,hb⟩:=hrel;have HB:=hid hb;clear hb;by_cases hlt:m<T.length-(i+1)
       ·skip
        obtain⟨⟨e0,e1,e2⟩,hf,hk,hbw,hsz⟩:=IV HB.out;have Gd:=hid hk;have HF:=hid hf;have Au:=hid hbw;have GA:w.heap.size<wr.heap.size:=by omega
        have Bj:=hid (HP.out.keep hk);clear hf hbw;have hd:decide ((i:Int)+1+(m:Int)<(T.length:Int))=true:=by simp;omega
        have HU:=hid (show(List.replicate T.length 0).set (i+1+m) 1=pad (i+1) (unit (T.drop (i+1)) m) from(ZN T (i+1) m (by omega)).symm);have Iu:=hid (show El (T.drop (i+1)) (unit (T.drop (i+1)) m) from LB HK.out.1 m);have J7:=hid (show∀k,El (T.drop (i+1)) (it (img (T.drop (i+1)) L.c) k (unit (T.drop (i+1)) m)) from fun k=>I8 (El _) _ (fun z _=>Oh HK.out.1 HK.out.2.2.1 z) k _ Iu.out);clear hk;go_wp2_with fail;refine(Vl T.length (i+1+m) hs6 (by omega) _).mono ?_;rintro e w5 ⟨ug,rfl,BF,hb5⟩;rw[HU.out]at BF;have Ls:=hid (BF.sl.mono (S':=fun _=>True) (fun _ _=>trivial));have AZ:=hid (HB.out.trans (hb5.mono hsz));clear BF hb5 e0 e1 e2 GA hsz;go_wp2_with fail;go_loopw [17,18] (fun xv kv wr=>∃κ:Nat,κ≤L.o∧kv= .int .i64 (κ:Int)∧AL (fun _=>True) wr xv (ints (pad (i+1) (it (img (T.drop (i+1)) L.c) κ (unit (T.drop (i+1)) m))))∧AL (fun _=>True) wr ug (ints (pad (i+1) (unit (T.drop (i+1)) m)))∧Below (w.heap.size+2) ((w.alloc (.cells #[.slice (some ⟨bO,oO,none⟩) T.length cO,.slice (some ⟨bP,oP,none⟩) T.length cP,.slice (some ⟨bC,oC,none⟩) T.length cC] 28)).alloc (.cells #[.int .i64 0,.int .i64 0,.int .i64 0,.int .i64 0] 147)) wr) (fun _ kv _=>L.o-(intOf kv).toNat);case atStart=>exact⟨0,AU _,rfl,Ls.out,Ls.out,AZ.out⟩
        case round=>
         clear HB AZ Ls Bj;obtain⟨κ,hκ,rfl,hx,hgv,hb⟩:=hrel;have HB:=hid hb;have HX:=hid hx;have uo:=hid hgv;clear hb hx hgv;obtain⟨⟨e0,e1,e2⟩,hf,hk,hbw,hsz⟩:=IV HB.out;have Gd:=hid hk;have HF:=hid hf;have Au:=hid hbw;have GA:w.heap.size<wr.heap.size:=by omega
         have Bj:=hid (HP.out.keep hk);clear hf hbw;have Bc:wr.cell? ⟨bO,oO+i,none⟩=some (.int .i64 (L.o:Int)):=by rw[hk.cell trivial Ch];exact nX.out
         have QG:bO<wr.heap.size:=by omega
         have J5:=hid (U5.out.keep hk);clear hk;by_cases hκt:κ<L.o
         ·skip
          go_wp2_with fail;refine(LX.out _ _ _ _ _ (pad (i+1) (it (img (T.drop (i+1)) L.c) κ (unit (T.drop (i+1)) m))) Bj.out HX.out (by rw[BZ,Af (J7.out κ)];simp;omega) (by rw[BG];exact J7.out κ)).mono ?_;rintro e w6 ⟨v6,rfl,Al,hb6⟩;rw[BG,←F7 (img (T.drop (i+1)) L.c)]at Al;have Cz:=hid (Al.sl.mono (S':=fun _=>True) (fun _ _=>trivial));have uD:=hid (uo.out.keep (AA.of_below hb6));have Ao:=hid (HB.out.trans (hb6.mono hsz));clear Al hb6 e0 e1 e2 GA hsz Bc QG;go_wp2_with fail;go_roundw;case rel=>exact⟨κ+1,by omega,by go_num,Cz.out,uD.out,Ao.out⟩
          case measure=>simp[intOf];omega
         ·skip
          obtain rfl:κ=L.o:=by omega
          clear hκt hκ;have w3:IntKind.i64.wrap ((i:Int)+1)=(i:Int)+1:=AY _ (by omega);have w6:(i:Int)<(T.length:Int):=by omega
          have w7:(0:Int)≤(i:Int):=by omega
          by_cases hc:C4 L (T.drop (i+1)) m
          ·skip
           have hdec:=hid (show decide (ints (pad (i+1) (mul (T.drop (i+1)) L.w (it (img (T.drop (i+1)) L.c) L.o (unit (T.drop (i+1)) m))))=ints (pad (i+1) (mul (T.drop (i+1)) (unit (T.drop (i+1)) m) L.w)))=true by
            rw[JZ];exact En hc)
           have HCM:=hid hc;clear hc;obtain⟨ux,Kc⟩:∃ux,ux=u17:=⟨_,rfl⟩;rw[←Kc]at HX ⊢;clear Kc;go_wp2_with fail;go_region_held3 (fun w'=>(∀b o,b<wr.heap.size→w'.cell? ⟨b,o,none⟩=wr.cell? ⟨b,o,none⟩)∧AA (fun _=>True) wr w')
            (first|exact Aj (AB.drew)|exact Aj (AA.trans (AB.drew) (AA.of_below (by assumption)))|exact Aj (AA.drewN (AA.trans (AB.drew) (AA.of_below (by assumption))) _)|exact Aj (AA.trans (AA.trans (AB.drew) (AA.of_below (by assumption))) (AA.of_below (by assumption)))|exact Aj (AA.drewN (AA.trans (AA.trans (AB.drew) (AA.of_below (by assumption))) (AA.of_below (by assumption))) _))
            (first|(go_at_call_of 143 ux;refine(HAT.out _ _ _ _ uW ux (pad (i+1) L.w) (pad (i+1) (it (img (T.drop (i+1)) L.c) L.o (unit (T.drop (i+1)) m))) (Bj.out.keep (by first|exact(AB.drew)|exact AA.trans (AB.drew) (AA.of_below (by assumption)))) (J5.out.keep (by first|exact(AB.drew)|exact AA.trans (AB.drew) (AA.of_below (by assumption)))) (HX.out.keep (by first|exact(AB.drew)|exact AA.trans (AB.drew) (AA.of_below (by assumption)))) (by rw[BZ,Af HK.out.2.2.2.1];simp;omega) (by rw[BZ,Af (J7.out L.o)];simp;omega) (by rw[BG];exact HK.out.2.2.2.1) (by rw[BG];exact J7.out L.o)).mono ?_;rintro e wa ⟨va,rfl,hoa,hba⟩;rw[BG,BG]at hoa)|(go_at_call_of 143 ug;refine(HAT.out _ _ _ _ ug uW (pad (i+1) (unit (T.drop (i+1)) m)) (pad (i+1) L.w) (Bj.out.keep (by first|exact(AB.drew)|exact AA.trans (AB.drew) (AA.of_below (by assumption)))) (uo.out.keep (by first|exact(AB.drew)|exact AA.trans (AB.drew) (AA.of_below (by assumption)))) (J5.out.keep (by first|exact(AB.drew)|exact AA.trans (AB.drew) (AA.of_below (by assumption)))) (by rw[BZ,Af Iu.out];simp;omega) (by rw[BZ,Af HK.out.2.2.2.1];simp;omega) (by rw[BG];exact Iu.out) (by rw[BG];exact HK.out.2.2.2.1)).mono ?_;rintro e wb ⟨vb,rfl,CW,hbb⟩;rw[BG,BG]at CW)|(go_at_call 183;refine(MK _ va vb _ _ (by first|exact hoa.sl.mono (fun _ _=>trivial)|exact(hoa.sl.mono (fun _ _=>trivial)).keep (AA.of_below hbb)) (by first|exact CW.sl.mono (fun _ _=>trivial)|exact(CW.sl.mono (fun _ _=>trivial)).keep (AA.of_below hba))).mono ?_;rintro e w7 ⟨rfl,n7,rfl⟩;rw[hdec.out]))
           all_goals
            have hs5:w.heap.size+2≤wr.heap.size:=hsz;have BK:=hid (HB.out.trans ((AR.drew).trans (Dp (by first|exact(hba.mono hs5).trans (hbb.mono (Ab hs5 hba.size))|exact(hbb.mono hs5).trans (hba.mono (Ab hs5 hbb.size))) n7)));clear hoa hba CW hbb;go_wp2_with fail;go_roundw;case rel=>exact⟨m+1,by omega,by go_num,hid (fun t ht=>by
             rcases FK.1 ht with h|h
             ·exact hR.out t h
             ·subst h;exact HCM.out),BK.out⟩
            case measure=>simp[intOf];omega
          ·skip
           have hdec:=hid (show decide (ints (pad (i+1) (mul (T.drop (i+1)) L.w (it (img (T.drop (i+1)) L.c) L.o (unit (T.drop (i+1)) m))))=ints (pad (i+1) (mul (T.drop (i+1)) (unit (T.drop (i+1)) m) L.w)))=false by
            rw[JZ];exact Dh hc)
           have Il:=hid (show¬GV L (T.drop (i+1)) from fun h=>hc ((Fq.out.1 h).2.2.2 m (by simp;omega)));clear hc;obtain⟨ux,Kc⟩:∃ux,ux=u17:=⟨_,rfl⟩;rw[←Kc]at HX ⊢;clear Kc;go_wp2_with fail;go_region_held3 (fun w'=>(∀b o,b<wr.heap.size→w'.cell? ⟨b,o,none⟩=wr.cell? ⟨b,o,none⟩)∧AA (fun _=>True) wr w')
            (first|exact Aj (AB.drew)|exact Aj (AA.trans (AB.drew) (AA.of_below (by assumption)))|exact Aj (AA.drewN (AA.trans (AB.drew) (AA.of_below (by assumption))) _)|exact Aj (AA.trans (AA.trans (AB.drew) (AA.of_below (by assumption))) (AA.of_below (by assumption)))|exact Aj (AA.drewN (AA.trans (AA.trans (AB.drew) (AA.of_below (by assumption))) (AA.of_below (by assumption))) _))
            (first|(go_at_call_of 143 ux;refine(HAT.out _ _ _ _ uW ux (pad (i+1) L.w) (pad (i+1) (it (img (T.drop (i+1)) L.c) L.o (unit (T.drop (i+1)) m))) (Bj.out.keep (by first|exact(AB.drew)|exact AA.trans (AB.drew) (AA.of_below (by assumption)))) (J5.out.keep (by first|exact(AB.drew)|exact AA.trans (AB.drew) (AA.of_below (by assumption)))) (HX.out.keep (by first|exact(AB.drew)|exact AA.trans (AB.drew) (AA.of_below (by assumption)))) (by rw[BZ,Af HK.out.2.2.2.1];simp;omega) (by rw[BZ,Af (J7.out L.o)];simp;omega) (by rw[BG];exact HK.out.2.2.2.1) (by rw[BG];exact J7.out L.o)).mono ?_;rintro e wa ⟨va,rfl,hoa,hba⟩;rw[BG,BG]at hoa)|(go_at_call_of 143 ug;refine(HAT.out _ _ _ _ ug uW (pad (i+1) (unit (T.drop (i+1)) m)) (pad (i+1) L.w) (Bj.out.keep (by first|exact(AB.drew)|exact AA.trans (AB.drew) (AA.of_below (by assumption)))) (uo.out.keep (by first|exact(AB.drew)|exact AA.trans (AB.drew) (AA.of_below (by assumption)))) (J5.out.keep (by first|exact(AB.drew)|exact AA.trans (AB.drew) (AA.of_below (by assumption)))) (by rw[BZ,Af Iu.out];simp;omega) (by rw[BZ,Af HK.out.2.2.2.1];simp;omega) (by rw[BG];exact Iu.out) (by rw[BG];exact HK.out.2.2.2.1)).mono ?_;rintro e wb ⟨vb,rfl,CW,hbb⟩;rw[BG,BG]at CW)|(go_at_call 183;refine(MK _ va vb _ _ (by first|exact hoa.sl.mono (fun _ _=>trivial)|exact(hoa.sl.mono (fun _ _=>trivial)).keep (AA.of_below hbb)) (by first|exact CW.sl.mono (fun _ _=>trivial)|exact(CW.sl.mono (fun _ _=>trivial)).keep (AA.of_below hba))).mono ?_;rintro e w7 ⟨rfl,n7,rfl⟩;rw[hdec.out]))
           all_goals
            have hs5:w.heap.size+2≤wr.heap.size:=hsz;have BK:=hid (HB.out.trans ((AR.drew).trans (Dp (by first|exact(hba.mono hs5).trans (hbb.mono (Ab hs5 hba.size))|exact(hbb.mono hs5).trans (hba.mono (Ab hs5 hbb.size))) n7)));clear hoa hba CW hbb;obtain⟨_,Ah,_,D9,Gn⟩:=IV BK.out;have f0:=Aq _ (w.heap.size+1) 0 _ _ (0,0) Ah;have f1:=Aq _ (w.heap.size+1) 1 _ _ (0,0) Ah;have f2:=Aq _ (w.heap.size+1) 2 _ _ (0,0) Ah;have f3:=Aq _ (w.heap.size+1) 3 _ _ (0,0) Ah;have z0:=BP _ (w.heap.size+1) 0 _ _ Ah;have z1:=BP _ (w.heap.size+1) 1 _ _ Ah;have z2:=BP _ (w.heap.size+1) 2 _ _ Ah;have z3:=BP _ (w.heap.size+1) 3 _ _ Ah;have Gp:=hid D9;clear Ah D9 Gn;simp at f0 f1 f2 f3;go_wp2_with fail;exact Am (v:=.agg #[.int .i64 4,.int .i64 (i),.int .i64 ((i:Int)+1+(m:Int)),.int .i64 (0)]) (by simp[results,Tryz.results193,go_sem,f0,f1,f2,f3]) rfl
             ⟨4,_,_,_,rfl,⟨fun h=>absurd h (by decide),fun h=>absurd h Il.out⟩,(((Gp.out.setCell (by simp) _).setCell (by simp) _).setCell (by simp) _).setCell (by simp) _⟩
       ·skip
        obtain rfl:m=T.length-(i+1):=by omega
        have PD:=hid (show GV L (T.drop (i+1)) from Fq.out.2 ⟨H1.out,H2.out,H3.out,fun j hj=>hR.out j (by simpa using hj)⟩);obtain⟨_,Ah,_,D9,Gn⟩:=IV HB.out;have f0:=Aq _ (w.heap.size+1) 0 _ _ (0,0) Ah;have f1:=Aq _ (w.heap.size+1) 1 _ _ (0,0) Ah;have f2:=Aq _ (w.heap.size+1) 2 _ _ (0,0) Ah;have f3:=Aq _ (w.heap.size+1) 3 _ _ (0,0) Ah;have z0:=BP _ (w.heap.size+1) 0 _ _ Ah;have z1:=BP _ (w.heap.size+1) 1 _ _ Ah;have z2:=BP _ (w.heap.size+1) 2 _ _ Ah;have z3:=BP _ (w.heap.size+1) 3 _ _ Ah;have Gp:=hid D9;clear Ah D9 Gn;simp at f0 f1 f2 f3;go_wp2_with fail;exact Am (v:=.agg #[.int .i64 0,.int .i64 (0),.int .i64 (0),.int .i64 (0)]) (by simp[results,Tryz.results193,go_sem,f0,f1,f2,f3]) rfl
         ⟨0,_,_,_,rfl,⟨fun _=>PD.out,fun _=>rfl⟩,(((Gp.out.setCell (by simp) _).setCell (by simp) _).setCell (by simp) _).setCell (by simp) _⟩
     ·skip
      have hdec:=hid (show decide (ints (pad (i+1) (img (T.drop (i+1)) L.c L.w))=ints (pad (i+1) L.w))=false by
       rw[JZ];exact Dh hc)
      have Il:=hid (show¬GV L (T.drop (i+1)) from fun h=>hc (Fq.out.1 h).2.2.1);clear hc;go_wp2_with fail;refine(MK _ _ _ _ _ (Dc.out.sl.mono (fun _ _=>trivial)) Rb.out).mono ?_;rintro e w7 ⟨rfl,n7,rfl⟩;rw[hdec.out];have BK:=hid (Dp AZ.out n7);obtain⟨_,Ah,_,D9,Gn⟩:=IV BK.out;have f0:=Aq _ (w.heap.size+1) 0 _ _ (0,0) Ah;have f1:=Aq _ (w.heap.size+1) 1 _ _ (0,0) Ah;have f2:=Aq _ (w.heap.size+1) 2 _ _ (0,0) Ah;have f3:=Aq _ (w.heap.size+1) 3 _ _ (0,0) Ah;have z0:=BP _ (w.heap.size+1) 0 _ _ Ah;have z1:=BP _ (w.heap.size+1) 1 _ _ Ah;have z2:=BP _ (w.heap.size+1) 2 _ _ Ah;have z3:=BP _ (w.heap.size+1) 3 _ _ Ah;have Gp:=hid D9;clear Ah D9 Gn;simp at f0 f1 f2 f3;go_wp2_with fail;exact Am (v:=.agg #[.int .i64 3,.int .i64 (i),.int .i64 (0),.int .i64 (0)]) (by simp[results,Tryz.results193,go_sem,f0,f1,f2,f3]) rfl
       ⟨3,_,_,_,rfl,⟨fun h=>absurd h (by decide),fun h=>absurd h Il.out⟩,(((Gp.out.setCell (by simp) _).setCell (by simp) _).setCell (by simp) _).setCell (by simp) _⟩
end Go.Proofs.YtlmlamcoeegkbaaGreat.Z9
