import Derived.Test.YtaadbccidfdniaaGreatZ0
import Derived.Test.YtaadbccidfdniaaGreatZl
import Derived.Laws.ResultCell
/-
  Lemmas for the law FnCopies, in short spelling.
-/
open Go.Lib (hid)
set_option linter.unusedVariables false
set_option linter.unusedSimpArgs false
set_option maxRecDepth 100000
set_option maxHeartbeats 40000000
namespace Go.Proofs.YtaadbccidfdniaaGreat.jB
open Go.RowKit Go.Proofs.YtaadbccidfdniaaGreat AB JU Dr iw Kc Nk
def C1 (L:Lv)(T':Tw)(j:Nat):Prop:=npow (mul T') (AB.one T') (L.c.getD j (AB.one T')) (T'.getD j default).o=img T' L.c (pad (j+1) (T'.getD j default).w)
def C2 (L:Lv)(T':Tw)(j k:Nat):Prop:=mul T' (L.c.getD k (AB.one T')) (L.c.getD j (AB.one T'))=mul T' (L.c.getD j (AB.one T')) (img T' L.c (pad (j+1) ((T'.getD j default).c.getD (k-j-1) [])))
def C4 (L:Lv)(T':Tw)(j:Nat):Prop:=mul T' L.w (it (img T' L.c) L.o (unit T' j))=mul T' (unit T' j) L.w
def C3 (L:Lv)(T':Tw):Prop:=img T' L.c L.w=L.w
theorem pY {L:Lv}{T':Tw}(h:Wf (L::T'))(hg:AB.Good T'):Gq L T'↔(∀j<T'.length,C1 L T' j)∧(∀j<T'.length,∀k,j<k→k<T'.length→C2 L T' j k)∧C3 L T'∧∀j<T'.length,C4 L T' j:=ABK h hg
theorem Sw {a b:List Nat}:ints a=ints b↔a=b:=by
 constructor
 ·intro h;exact(List.map_inj_right (fun x y e=>Int.ofNat.inj e)).1 h
 ·intro h;rw[h]
theorem fo {s:Nat}{a b:List Nat}:pad s a=pad s b↔a=b:=by simp[pad]
theorem Jz (s:Nat)(a b:List Nat):decide (ints (pad s a)=ints (pad s b))=decide (a=b):=by
 apply decide_eq_decide.2;rw[Sw,fo]
def ig (p:Prop)(w:World)(e:Ending)(w':World):Prop:=∃k l a b:Int,e= .returned (.agg #[.int .i64 k,.int .i64 l,.int .i64 a,.int .i64 b])∧(k=0↔p)∧Below w.heap.size w w'
theorem Il {w wr:World}{c0 c1 c2:Value}{t t2:TypeId}{d:Array Value}(hb:Below (w.heap.size+2) ((w.alloc (.cells #[c0,c1,c2] t)).alloc (.cells d t2)) wr):
  (wr.cell? ⟨w.heap.size,0,none⟩=some c0∧wr.cell? ⟨w.heap.size,1,none⟩=some c1∧wr.cell? ⟨w.heap.size,2,none⟩=some c2)∧wr.heap[w.heap.size+1]?=some (.cells d t2)∧AA (fun _=>True) w wr∧Below w.heap.size w wr∧w.heap.size+2≤wr.heap.size:=by
 have hs:=hb.size;simp at hs;have hB:Below (w.heap.size+1) (w.alloc (.cells #[c0,c1,c2] t)) wr:=(AX.alloc (by simp) _).trans (hb.mono (by omega));refine⟨Cq hB,?_,Dc hB _,Dq hB,by omega⟩;have:=hb.block (w.heap.size+1) (by omega);rw[this];have:=BA (w.alloc (.cells #[c0,c1,c2] t)) (.cells d t2);simpa using this
theorem AHx (T:Tw)(hT:Wf T)(hs:Small T)(i:Nat)(L:Lv)(hL:T[i]?=some L)(hg:AB.Good (T.drop (i+1)))(w:World)(vO vP vC:Value)(hP:BC Any w vO vP vC (AQ T)):
  Calls Tryz.prog 158 #[.agg #[vO,vP,vC],.int .i64 (i:Int)] w (ig (Gq L (T.drop (i+1))) w):=by
 have hi:i<T.length:=(Ag.1 hL).1;have hs6:=hs.1;have HK:=hid (lvl hT hL);obtain⟨aO,cO,aP,cP,aC,cC,rfl,rfl,rfl,Eo,hP1,FC⟩:=hP.open;have hw:=FK hT i;rw[drop_cons hL]at hw;have GH:=hid (pY hw hg);obtain⟨bC,oC,a2,c2,rfl,_,hbC,hcC,h21,Ir⟩:=hP.Mt hL;obtain⟨bO,oO,rfl,_,CQ,Yu⟩:=hP.ord hL;obtain⟨bP,oP,uW,rfl,_,FE,Yv,Zo⟩:=hP.pow hL;have hcl:L.c.length=T.length-(i+1):=HK.out.2.1;have AMN:L.o≤7:=hs.2 L (Ak hL);have HP:=hid hP;have HL:=hid hL;have HG:=hid hg;have HT:=hid hT;have HS:=hid hs;have DC:=hid hcC;have tK:=hid Yu;have tL:=hid Yv;have Ws:=hid Zo;have Gg:=hid Ir;have uS:=hid (fun K (hK:K≤1000)=>ou T hT hs (i+1) K (by omega) hg hK);have Mj:=hid (AJj T hT hs i L hL);have HAT:=hid (MZ T hT hs (i+1) (by omega));clear hP hL hg hT hs hw hcC Ir Yu Yv Zo;go_enter Tryz.func158,Tryz.ntmps158;go_wp2_with fail;go_loopw [7] (fun j wr=>∃m:Nat,m≤T.length-(i+1)∧j= .int .i64 ((i:Int)+1+(m:Int))∧Hid (∀t,t<m→C1 L (T.drop (i+1)) t)∧Below (w.heap.size+2) ((w.alloc (.cells #[.slice (some ⟨bO,oO,none⟩) T.length cO,.slice (some ⟨bP,oP,none⟩) T.length cP,.slice (some ⟨bC,oC,none⟩) T.length cC] 28)).alloc (.cells #[.int .i64 0,.int .i64 0,.int .i64 0,.int .i64 0] 112)) wr) (fun j _=>T.length-(intOf j).toNat);case atStart=>exact⟨0,AU _,by go_num,hid (fun t h=>absurd h (CO _)),A7 _ _⟩
 case round=>
  obtain⟨m,hm,rfl,hR,hb⟩:=hrel;have HB:=hid hb;clear hb;by_cases hlt:m<T.length-(i+1)
  ·skip
   obtain⟨⟨e0,e1,e2⟩,hf,hk,hbw,hsz⟩:=Il HB.out;have Jd:=hid hk;have HF:=hid hf;have A9:=hid hbw;have Ga:w.heap.size<wr.heap.size:=by omega
   have Bc:=hid (HP.out.keep hk);clear hf hbw;obtain⟨y,hy⟩:∃y,L.c[m]?=some y:=⟨_,AO (by omega)⟩;obtain⟨b2,o2,uy,rfl,_,hb2,hcy,Fj⟩:=Gg.out m y hy;obtain⟨Lj,Dv⟩:∃Lj,T[i+1+m]?=some Lj:=⟨_,AO (by omega)⟩;obtain⟨xD,xE,eO,_,_,BS⟩:=HP.out.ord Dv;obtain⟨rfl,rfl⟩:bO=xD∧oO=xE:=by simpa using eO
   obtain⟨xG,xH,uP,eP,_,_,hcP,Et⟩:=HP.out.pow Dv;obtain⟨rfl,rfl⟩:bP=xG∧oP=xH:=by simpa using eP
   have Cr:Lj.o≤7:=HS.out.2 Lj (Ak Dv);have M0:=hid BS;have Rj:=hid hcP;have Ny:=hid hcy;have GD:=hid Et;have Gx:=hid Fj;have FN:=hid (HK.out.2.2.1 y (Ak hy));have Iw:=hid (show El (T.drop (i+1)) (pad (m+1) Lj.w) from TD HK.out.1 (m+1) (by rw[Fe,show i+1+(m+1)=i+1+m+1 by omega];exact(lvl HT.out Dv).2.2.2.1) (by simp;omega));have Ls:=hid (show(pad (i+1+m+1) Lj.w).length=T.length∧El (T.drop (i+1)) ((pad (i+1+m+1) Lj.w).drop (i+1))∧(pad (i+1+m+1) Lj.w).drop (i+1)=pad (m+1) Lj.w from by
    have e:pad (i+1+m+1) Lj.w=pad (i+1) (pad (m+1) Lj.w):=by rw[Qz];congr 1
    rw[e,BJ];exact⟨by rw[Bg,AZ Iw.out];simp;omega,Iw.out,rfl⟩)
   have Hy:=hid (show C1 L (T.drop (i+1)) m↔npow (mul (T.drop (i+1))) (AB.one (T.drop (i+1))) y Lj.o=img (T.drop (i+1)) L.c (pad (m+1) Lj.w) from by
    unfold C1;rw[BV,hy,BV,Ho,Dv];rfl)
   clear eO eP BS hcP hcy Et Fj Dv hy;have hcC:wr.cell? ⟨bC,oC+i,none⟩=some (.slice (some ⟨b2,o2,none⟩) L.c.length c2):=by rw[hk.cell trivial hbC];exact DC.out
   have Oj:bC<wr.heap.size:=by omega
   have hcy:wr.cell? ⟨b2,o2+m,none⟩=some (uy):=by rw[hk.cell trivial hb2];exact Ny.out
   have WH:b2<wr.heap.size:=by omega
   have BS:wr.cell? ⟨bO,oO+(i+1+m),none⟩=some (.int .i64 (Lj.o:Int)):=by rw[hk.cell trivial CQ];exact M0.out
   have RP:bO<wr.heap.size:=by omega
   have w3:IntKind.i64.wrap ((i:Int)+1)=(i:Int)+1:=AY _ (by omega);have w6:(i:Int)<(T.length:Int):=by omega
   have w7:(0:Int)≤(i:Int):=by omega
   have w1:IntKind.i64.wrap (((i:Int)+1+(m:Int))-(i:Int))=(m:Int)+1:=by rw[AY _ (by omega)];omega
   have w2:IntKind.i64.wrap (((m:Int)+1)-1)=(m:Int):=by rw[AY _ (by omega)];omega
   have w8:IntKind.i64.wrap (m:Int)=(m:Int):=AY _ (by omega);have w4:(m:Int)<(L.c.length:Int):=by omega
   have w5:(0:Int)≤(m:Int):=by omega
   have w9:(i:Int)+1+(m:Int)<(T.length:Int):=by omega
   have Bj:(0:Int)≤(i:Int)+1+(m:Int):=by omega
   have Hz:((i:Int)+1+(m:Int)).toNat=i+1+m:=by omega
   have Ol:=hid (Gx.out.keep hk);clear hk;go_wp2_with fail;go_region_held3 (fun w'=>(∀b o,b<wr.heap.size→w'.cell? ⟨b,o,none⟩=wr.cell? ⟨b,o,none⟩)∧AA (fun _=>True) wr w')
    (first|exact Au (AJ.drew)|exact Au (AA.trans (AJ.drew) (AA.of_below (by assumption)))|exact Au (AA.drewN (AA.trans (AJ.drew) (AA.of_below (by assumption))) _)|exact Au (AA.trans (AA.trans (AJ.drew) (AA.of_below (by assumption))) (AA.of_below (by assumption)))|exact Au (AA.drewN (AA.trans (AA.trans (AJ.drew) (AA.of_below (by assumption))) (AA.of_below (by assumption))) _))
    (first|(go_at_call 166;refine(uS.out Lj.o (by omega) _ _ _ _ _ (pad (i+1) y) (Bc.out.keep (AJ.drew)) (Ol.out.keep (AJ.drew)) (by rw[Bg,AZ FN.out];simp;omega) (by rw[BJ];exact FN.out)).mono ?_;rintro e w5 ⟨v5,rfl,Aw,hb5⟩))
   rw[BJ]at Aw;have Aa:=hid (HB.out.trans ((AX.drew).trans (hb5.mono (by show w.heap.size+2≤wr.heap.size;omega))));have Ch:=hid Aw;clear Aw hb5 e0 e1 e2 Ga hsz hcC hcy BS Oj WH RP;obtain⟨⟨e0,e1,e2⟩,hf,hk,hbw,hsz⟩:=Il Aa.out;have Jd:=hid hk;have HF:=hid hf;have A9:=hid hbw;have Ga:w.heap.size<w5.heap.size:=by omega
   have Bc:=hid (HP.out.keep hk);clear hf hbw;have hcP:w5.cell? ⟨bP,oP+(i+1+m),none⟩=some (uP):=by rw[hk.cell trivial FE];exact Rj.out
   have Yw:bP<w5.heap.size:=by omega
   have Yx:=hid (GD.out.keep hk);clear hk;by_cases hc:C1 L (T.drop (i+1)) m
   ·skip
    have hdec:=hid (show decide (ints (pad (i+1) (npow (mul (T.drop (i+1))) (AB.one (T.drop (i+1))) y Lj.o))=ints (pad (i+1) (img (T.drop (i+1)) L.c (pad (m+1) Lj.w))))=true by
     rw[Jz];exact IK (Hy.out.1 hc))
    have HCM:=hid hc;clear hc;go_wp2_with fail;go_region_held3 (fun w'=>(∀b o,b<w5.heap.size→w'.cell? ⟨b,o,none⟩=w5.cell? ⟨b,o,none⟩)∧AA (fun _=>True) w5 w')
     (first|exact Au (AJ.drew)|exact Au (AA.trans (AJ.drew) (AA.of_below (by assumption)))|exact Au (AA.drewN (AA.trans (AJ.drew) (AA.of_below (by assumption))) _)|exact Au (AA.trans (AA.trans (AJ.drew) (AA.of_below (by assumption))) (AA.of_below (by assumption)))|exact Au (AA.drewN (AA.trans (AA.trans (AJ.drew) (AA.of_below (by assumption))) (AA.of_below (by assumption))) _))
     (first|(go_at_call 176;refine(Mj.out _ _ _ _ _ (pad (i+1+m+1) Lj.w) (Bc.out.keep (AJ.drew)) (Yx.out.keep (AJ.drew)) Ls.out.1 Ls.out.2.1).mono ?_;rintro e w6 ⟨v6,rfl,A8,hb6⟩;rw[Ls.out.2.2]at A8)|(go_at_call 141;refine(NW _ _ _ _ _ ((Ch.out.sl.mono (fun _ _=>trivial)).keep (AA.trans (AJ.drew) (AA.of_below (by assumption)))) (A8.sl.mono (fun _ _=>trivial))).mono ?_;rintro e w7 ⟨rfl,n7,rfl⟩;rw[hdec.out]))
    have BB:=hid (Aa.out.trans ((AX.drew).trans ((Dk hb6 n7).mono (by show w.heap.size+2≤w5.heap.size;omega))));clear A8 hb6;go_wp2_with fail;go_roundw;case rel=>exact⟨m+1,by omega,by go_num,hid (fun t ht=>by
     rcases EB.1 ht with h|h
     ·exact hR.out t h
     ·subst h;exact HCM.out),BB.out⟩
    case measure=>simp[intOf];omega
   ·skip
    have hdec:=hid (show decide (ints (pad (i+1) (npow (mul (T.drop (i+1))) (AB.one (T.drop (i+1))) y Lj.o))=ints (pad (i+1) (img (T.drop (i+1)) L.c (pad (m+1) Lj.w))))=false by
     rw[Jz];exact GX (fun h=>hc (Hy.out.2 h)))
    have H6:=hid (show¬Gq L (T.drop (i+1)) from fun h=>hc ((GH.out.1 h).1 m (by simp;omega)));clear hc;go_wp2_with fail;go_region_held3 (fun w'=>(∀b o,b<w5.heap.size→w'.cell? ⟨b,o,none⟩=w5.cell? ⟨b,o,none⟩)∧AA (fun _=>True) w5 w')
     (first|exact Au (AJ.drew)|exact Au (AA.trans (AJ.drew) (AA.of_below (by assumption)))|exact Au (AA.drewN (AA.trans (AJ.drew) (AA.of_below (by assumption))) _)|exact Au (AA.trans (AA.trans (AJ.drew) (AA.of_below (by assumption))) (AA.of_below (by assumption)))|exact Au (AA.drewN (AA.trans (AA.trans (AJ.drew) (AA.of_below (by assumption))) (AA.of_below (by assumption))) _))
     (first|(go_at_call 176;refine(Mj.out _ _ _ _ _ (pad (i+1+m+1) Lj.w) (Bc.out.keep (AJ.drew)) (Yx.out.keep (AJ.drew)) Ls.out.1 Ls.out.2.1).mono ?_;rintro e w6 ⟨v6,rfl,A8,hb6⟩;rw[Ls.out.2.2]at A8)|(go_at_call 141;refine(NW _ _ _ _ _ ((Ch.out.sl.mono (fun _ _=>trivial)).keep (AA.trans (AJ.drew) (AA.of_below (by assumption)))) (A8.sl.mono (fun _ _=>trivial))).mono ?_;rintro e w7 ⟨rfl,n7,rfl⟩;rw[hdec.out]))
    have BB:=hid (Aa.out.trans ((AX.drew).trans ((Dk hb6 n7).mono (by show w.heap.size+2≤w5.heap.size;omega))));clear A8 hb6;obtain⟨_,Ao,_,EJ,Hq⟩:=Il BB.out;have f0:=Ah _ (w.heap.size+1) 0 _ _ (0,0) Ao;have f1:=Ah _ (w.heap.size+1) 1 _ _ (0,0) Ao;have f2:=Ah _ (w.heap.size+1) 2 _ _ (0,0) Ao;have f3:=Ah _ (w.heap.size+1) 3 _ _ (0,0) Ao;have z0:=BQ _ (w.heap.size+1) 0 _ _ Ao;have z1:=BQ _ (w.heap.size+1) 1 _ _ Ao;have z2:=BQ _ (w.heap.size+1) 2 _ _ Ao;have z3:=BQ _ (w.heap.size+1) 3 _ _ Ao;have Hr:=hid EJ;clear Ao EJ Hq;simp at f0 f1 f2 f3;go_wp2_with fail;exact Aj (v:=.agg #[.int .i64 1,.int .i64 (i),.int .i64 ((i:Int)+1+(m:Int)),.int .i64 (0)]) (by simp[results,Tryz.results158,go_sem,f0,f1,f2,f3]) rfl
     ⟨1,_,_,_,rfl,⟨fun h=>absurd h (by decide),fun h=>absurd h H6.out⟩,(((Hr.out.setCell (by simp) _).setCell (by simp) _).setCell (by simp) _).setCell (by simp) _⟩
  ·skip
   obtain rfl:m=T.length-(i+1):=by omega
   have H1:=hid (show∀j<(T.drop (i+1)).length,C1 L (T.drop (i+1)) j from fun j hj=>hR.out j (by simpa using hj));clear hR hlt hm;go_wp2_with fail;go_loopw [9] (fun j wr=>∃m:Nat,m≤T.length-(i+1)∧j= .int .i64 ((i:Int)+1+(m:Int))∧Hid (∀t,t<m→∀k,t<k→k<T.length-(i+1)→C2 L (T.drop (i+1)) t k)∧Below (w.heap.size+2) ((w.alloc (.cells #[.slice (some ⟨bO,oO,none⟩) T.length cO,.slice (some ⟨bP,oP,none⟩) T.length cP,.slice (some ⟨bC,oC,none⟩) T.length cC] 28)).alloc (.cells #[.int .i64 0,.int .i64 0,.int .i64 0,.int .i64 0] 112)) wr) (fun j _=>T.length-(intOf j).toNat);case atStart=>exact⟨0,AU _,by go_num,hid (fun t h=>absurd h (CO _)),HB.out⟩
   case round=>
    clear HB;obtain⟨m,hm,rfl,hR,hb⟩:=hrel;have HB:=hid hb;clear hb;by_cases hlt:m<T.length-(i+1)
    ·skip
     have hd:decide ((i:Int)+1+(m:Int)<(T.length:Int))=true:=by simp;omega
     obtain⟨x,hx⟩:∃x,L.c[m]?=some x:=⟨_,AO (by omega)⟩;obtain⟨b2,o2,ux,rfl,_,hb2,hcx,Je⟩:=Gg.out m x hx;obtain⟨Lj,Dv⟩:∃Lj,T[i+1+m]?=some Lj:=⟨_,AO (by omega)⟩;obtain⟨xI,xJ,aJ,cJ,eC,_,_,hcJ,hJ1,Zp⟩:=HP.out.Mt Dv;obtain⟨rfl,rfl⟩:bC=xI∧oC=xJ:=by simpa using eC
     have Rp:=hid hcx;have QM:=hid Je;have Zq:=hid hcJ;have xK:=hid Zp;have HX:=hid hx;have Zr:=hid Dv;have DN:=hid (HK.out.2.2.1 x (Ak hx));have Wt:=hid (lvl HT.out Dv).2.1;clear hx hcx Je eC hcJ Zp Dv;go_wp2_with fail;go_loopw [10] (fun kv wr=>∃q:Nat,m+1≤q∧q≤T.length-(i+1)∧kv= .int .i64 ((i:Int)+1+(q:Int))∧Hid (∀k,m<k→k<q→C2 L (T.drop (i+1)) m k)∧Below (w.heap.size+2) ((w.alloc (.cells #[.slice (some ⟨bO,oO,none⟩) T.length cO,.slice (some ⟨bP,oP,none⟩) T.length cP,.slice (some ⟨bC,oC,none⟩) T.length cC] 28)).alloc (.cells #[.int .i64 0,.int .i64 0,.int .i64 0,.int .i64 0] 112)) wr) (fun kv _=>T.length-(intOf kv).toNat);case atStart=>exact⟨m+1,Av _,by omega,by go_num,hid (fun k h1 h2=>absurd h2 (by omega)),HB.out⟩
     case round=>
      clear HB;obtain⟨q,hq1,hq,rfl,hQ,hb⟩:=hrel;have HB:=hid hb;clear hb;by_cases Kw:q<T.length-(i+1)
      ·skip
       obtain⟨⟨e0,e1,e2⟩,hf,hk,hbw,hsz⟩:=Il HB.out;have Jd:=hid hk;have HF:=hid hf;have A9:=hid hbw;have Ga:w.heap.size<wr.heap.size:=by omega
       have Bc:=hid (HP.out.keep hk);clear hf hbw;obtain⟨y,hy⟩:∃y,L.c[q]?=some y:=⟨_,AO (by omega)⟩;obtain⟨b2',xL,uy,e2',_,_,hcy,Fj⟩:=Gg.out q y hy;obtain⟨rfl,rfl⟩:b2=b2'∧o2=xL:=by simpa using e2'
       obtain⟨d,hd'⟩:∃d,q=m+1+d:=⟨q-(m+1),by omega⟩;have hdl:d<Lj.c.length:=by rw[Wt.out];omega
       obtain⟨z,hz⟩:∃z,Lj.c[d]?=some z:=⟨_,AO hdl⟩;obtain⟨bJ,oJ,uz,rfl,_,xM,hcz,Zt⟩:=xK.out d z hz;have Ny:=hid hcy;have Gx:=hid Fj;have Zu:=hid hcz;have xN:=hid Zt;have FN:=hid (HK.out.2.2.1 y (Ak hy));have Kv:=hid (show El (T.drop (i+1)) (pad (m+1) z) from TD HK.out.1 (m+1) (by rw[Fe,show i+1+(m+1)=i+1+m+1 by omega];exact(lvl HT.out Zr.out).2.2.1 z (Ak hz)) (by simp;omega));have Oz:=hid (show(pad (i+1+m+1) z).length=T.length∧El (T.drop (i+1)) ((pad (i+1+m+1) z).drop (i+1))∧(pad (i+1+m+1) z).drop (i+1)=pad (m+1) z from by
        have e:pad (i+1+m+1) z=pad (i+1) (pad (m+1) z):=by rw[Qz];congr 1
        rw[e,BJ];exact⟨by rw[Bg,AZ Kv.out];simp;omega,Kv.out,rfl⟩)
       have KI:=hid (show C2 L (T.drop (i+1)) m q↔mul (T.drop (i+1)) y x=mul (T.drop (i+1)) x (img (T.drop (i+1)) L.c (pad (m+1) z)) from by
        unfold C2;rw[BV,hy,BV,HX.out,BV (l:=T.drop (i+1)),Ho,Zr.out,BV,show q-m-1=d by omega];simp only[Vn];rw[hz];rfl)
       clear e2' hcy Fj hcz Zt hy hz;have hcC:wr.cell? ⟨bC,oC+i,none⟩=some (.slice (some ⟨b2,o2,none⟩) L.c.length c2):=by rw[hk.cell trivial hbC];exact DC.out
       have Oj:bC<wr.heap.size:=by omega
       have hcx:wr.cell? ⟨b2,o2+m,none⟩=some (ux):=by rw[hk.cell trivial hb2];exact Rp.out
       have WH:b2<wr.heap.size:=by omega
       have hcy:wr.cell? ⟨b2,o2+q,none⟩=some uy:=by rw[hk.cell trivial hb2];exact Ny.out
       have w3:IntKind.i64.wrap ((i:Int)+1)=(i:Int)+1:=AY _ (by omega);have w6:(i:Int)<(T.length:Int):=by omega
       have w7:(0:Int)≤(i:Int):=by omega
       have w1:IntKind.i64.wrap (((i:Int)+1+(m:Int))-(i:Int))=(m:Int)+1:=by rw[AY _ (by omega)];omega
       have w2:IntKind.i64.wrap (((m:Int)+1)-1)=(m:Int):=by rw[AY _ (by omega)];omega
       have w8:IntKind.i64.wrap (m:Int)=(m:Int):=AY _ (by omega);have w4:(m:Int)<(L.c.length:Int):=by omega
       have w5:(0:Int)≤(m:Int):=by omega
       have w9:(i:Int)+1+(m:Int)<(T.length:Int):=by omega
       have Bj:(0:Int)≤(i:Int)+1+(m:Int):=by omega
       have Hz:((i:Int)+1+(m:Int)).toNat=i+1+m:=by omega
       have w1q:IntKind.i64.wrap (((i:Int)+1+(q:Int))-(i:Int))=(q:Int)+1:=by rw[AY _ (by omega)];omega
       have w2q:IntKind.i64.wrap (((q:Int)+1)-1)=(q:Int):=by rw[AY _ (by omega)];omega
       have w8q:IntKind.i64.wrap (q:Int)=(q:Int):=AY _ (by omega);have w4q:(q:Int)<(L.c.length:Int):=by omega
       have w5q:(0:Int)≤(q:Int):=by omega
       have w9q:(i:Int)+1+(q:Int)<(T.length:Int):=by omega
       have AMO:(0:Int)≤(i:Int)+1+(q:Int):=by omega
       have AMP:((i:Int)+1+(q:Int)).toNat=i+1+q:=by omega
       have tO:=hid (QM.out.keep hk);have Ol:=hid (Gx.out.keep hk);have wA:IntKind.i64.wrap (((i:Int)+1+(q:Int))-((i:Int)+1+(m:Int)))=(d:Int)+1:=by rw[AY _ (by omega)];omega
       have wA':IntKind.i64.wrap ((q:Int)-(m:Int))=(d:Int)+1:=by rw[AY _ (by omega)];omega
       have wB:IntKind.i64.wrap (((d:Int)+1)-1)=(d:Int):=by rw[AY _ (by omega)];omega
       have wD:IntKind.i64.wrap (d:Int)=(d:Int):=AY _ (by omega);have wE:(d:Int)<(Lj.c.length:Int):=by omega
       have wF:(0:Int)≤(d:Int):=by omega
       clear hk hd';go_wp2_with fail;go_region_held3 (fun w'=>(∀b o,b<wr.heap.size→w'.cell? ⟨b,o,none⟩=wr.cell? ⟨b,o,none⟩)∧AA (fun _=>True) wr w')
        (first|exact Au (AJ.drew)|exact Au (AA.trans (AJ.drew) (AA.of_below (by assumption)))|exact Au (AA.drewN (AA.trans (AJ.drew) (AA.of_below (by assumption))) _)|exact Au (AA.trans (AA.trans (AJ.drew) (AA.of_below (by assumption))) (AA.of_below (by assumption)))|exact Au (AA.drewN (AA.trans (AA.trans (AJ.drew) (AA.of_below (by assumption))) (AA.of_below (by assumption))) _))
        (first|(fail))
       obtain⟨w4,hw4⟩:∃w4,w4=wr.drew:=⟨_,rfl⟩;rw[←hw4];have Bl:=hid (show Below (w.heap.size+2) ((w.alloc (.cells #[.slice (some ⟨bO,oO,none⟩) T.length cO,.slice (some ⟨bP,oP,none⟩) T.length cP,.slice (some ⟨bC,oC,none⟩) T.length cC] 28)).alloc (.cells #[.int .i64 0,.int .i64 0,.int .i64 0,.int .i64 0] 112)) w4 by rw[hw4];exact HB.out.drew);clear hw4 e0 e1 e2 Ga hsz hcC hcx hcy Oj WH;obtain⟨⟨e0,e1,e2⟩,hf,hk,hbw,hsz⟩:=Il Bl.out;have Jd:=hid hk;have HF:=hid hf;have A9:=hid hbw;have Ga:w.heap.size<w4.heap.size:=by omega
       have Bc:=hid (HP.out.keep hk);clear hf hbw;have hcC:w4.cell? ⟨bC,oC+(i+1+m),none⟩=some (.slice (some ⟨bJ,oJ,none⟩) Lj.c.length cJ):=by rw[hk.cell trivial hbC];exact Zq.out
       have Oj:bC<w4.heap.size:=by omega
       have hcz:w4.cell? ⟨bJ,oJ+d,none⟩=some (uz):=by rw[hk.cell trivial xM];exact Zu.out
       have AEB:bJ<w4.heap.size:=by omega
       have jO:=hid (xN.out.keep hk);have APs:=hid (QM.out.keep hk);have APt:=hid (Gx.out.keep hk);clear hk;go_wp2_with fail;go_region_held3 (fun w'=>(∀b o,b<w4.heap.size→w'.cell? ⟨b,o,none⟩=w4.cell? ⟨b,o,none⟩)∧AA (fun _=>True) w4 w')
        (first|exact Au (AJ.drew)|exact Au (AA.trans (AJ.drew) (AA.of_below (by assumption)))|exact Au (AA.drewN (AA.trans (AJ.drew) (AA.of_below (by assumption))) _)|exact Au (AA.trans (AA.trans (AJ.drew) (AA.of_below (by assumption))) (AA.of_below (by assumption)))|exact Au (AA.drewN (AA.trans (AA.trans (AJ.drew) (AA.of_below (by assumption))) (AA.of_below (by assumption))) _))
        (first|(go_at_call 176;refine(Mj.out _ _ _ _ _ (pad (i+1+m+1) z) (Bc.out.keep (AJ.drew)) (jO.out.keep (AJ.drew)) Oz.out.1 Oz.out.2.1).mono ?_;rintro e w5 ⟨v5,rfl,Aw,hb5⟩;rw[Oz.out.2.2]at Aw))
       have Aa:=hid (Bl.out.trans ((AX.drew).trans (hb5.mono (by show w.heap.size+2≤w4.heap.size;omega))));have Ch:=hid Aw;have APu:=hid (AA.trans (AJ.drew) (AA.of_below (S:=fun _=>True) hb5));clear Aw hb5 e0 e1 e2 Ga hsz hcC hcz Oj AEB;obtain⟨⟨e0,e1,e2⟩,hf,hk,hbw,hsz⟩:=Il Aa.out;have Jd:=hid hk;have HF:=hid hf;have A9:=hid hbw;have Ga:w.heap.size<w5.heap.size:=by omega
       have Bc:=hid (HP.out.keep hk);clear hf hbw;have jd:=hid (QM.out.keep hk);have AEh:=hid (Gx.out.keep hk);have UR:=hid (show El (T.drop (i+1)) (img (T.drop (i+1)) L.c (pad (m+1) z)) from Pk HK.out.1 HK.out.2.2.1 _);clear hk;by_cases hc:C2 L (T.drop (i+1)) m q
       ·skip
        have hdec:=hid (show decide (ints (pad (i+1) (mul (T.drop (i+1)) y x))=ints (pad (i+1) (mul (T.drop (i+1)) x (img (T.drop (i+1)) L.c (pad (m+1) z)))))=true by
         rw[Jz];exact IK (KI.out.1 hc))
        have HCM:=hid hc;clear hc;go_wp2_with fail;go_region_held3 (fun w'=>(∀b o,b<w5.heap.size→w'.cell? ⟨b,o,none⟩=w5.cell? ⟨b,o,none⟩)∧AA (fun _=>True) w5 w')
         (first|exact Au (AJ.drew)|exact Au (AA.trans (AJ.drew) (AA.of_below (by assumption)))|exact Au (AA.drewN (AA.trans (AJ.drew) (AA.of_below (by assumption))) _)|exact Au (AA.trans (AA.trans (AJ.drew) (AA.of_below (by assumption))) (AA.of_below (by assumption)))|exact Au (AA.drewN (AA.trans (AA.trans (AJ.drew) (AA.of_below (by assumption))) (AA.of_below (by assumption))) _))
         (first|(go_at_call_of 168 uy;refine(HAT.out _ _ _ _ uy ux (pad (i+1) y) (pad (i+1) x) (Bc.out.keep (by first|exact(AJ.drew)|exact AA.trans (AJ.drew) (AA.of_below (by assumption)))) (AEh.out.keep (by first|exact(AJ.drew)|exact AA.trans (AJ.drew) (AA.of_below (by assumption)))) (jd.out.keep (by first|exact(AJ.drew)|exact AA.trans (AJ.drew) (AA.of_below (by assumption)))) (by rw[Bg,AZ FN.out];simp;omega) (by rw[Bg,AZ DN.out];simp;omega) (by rw[BJ];exact FN.out) (by rw[BJ];exact DN.out)).mono ?_;rintro e wa ⟨va,rfl,hoa,hba⟩;rw[BJ,BJ]at hoa)|(go_at_call_of 168 v5;refine(HAT.out _ _ _ _ ux v5 (pad (i+1) x) (pad (i+1) (img (T.drop (i+1)) L.c (pad (m+1) z))) (Bc.out.keep (by first|exact(AJ.drew)|exact AA.trans (AJ.drew) (AA.of_below (by assumption)))) (jd.out.keep (by first|exact(AJ.drew)|exact AA.trans (AJ.drew) (AA.of_below (by assumption)))) ((Ch.out.sl.mono (fun _ _=>trivial)).keep (by first|exact(AJ.drew)|exact AA.trans (AJ.drew) (AA.of_below (by assumption)))) (by rw[Bg,AZ DN.out];simp;omega) (by rw[Bg,AZ UR.out];simp;omega) (by rw[BJ];exact DN.out) (by rw[BJ];exact UR.out)).mono ?_;rintro e wb ⟨vb,rfl,Ca,hbb⟩;rw[BJ,BJ]at Ca)|(go_at_call 141;refine(NW _ va vb _ _ (by first|exact hoa.sl.mono (fun _ _=>trivial)|exact(hoa.sl.mono (fun _ _=>trivial)).keep (AA.of_below hbb)) (by first|exact Ca.sl.mono (fun _ _=>trivial)|exact(Ca.sl.mono (fun _ _=>trivial)).keep (AA.of_below hba))).mono ?_;rintro e w7 ⟨rfl,n7,rfl⟩;rw[hdec.out]))
        all_goals
         have hs5:w.heap.size+2≤w5.heap.size:=hsz;have BB:=hid (Aa.out.trans ((AX.drew).trans (Dk (by first|exact(hba.mono hs5).trans (hbb.mono (Ad hs5 hba.size))|exact(hbb.mono hs5).trans (hba.mono (Ad hs5 hbb.size))) n7)));clear hoa hba Ca hbb;go_wp2_with fail;go_roundw;case rel=>exact⟨q+1,by omega,by omega,by go_num,hid (fun t h1 ht=>by
          rcases EB.1 ht with h|h
          ·exact hQ.out t h1 h
          ·subst h;exact HCM.out),BB.out⟩
         case measure=>simp[intOf];omega
       ·skip
        have hdec:=hid (show decide (ints (pad (i+1) (mul (T.drop (i+1)) y x))=ints (pad (i+1) (mul (T.drop (i+1)) x (img (T.drop (i+1)) L.c (pad (m+1) z)))))=false by
         rw[Jz];exact GX (fun h=>hc (KI.out.2 h)))
        have H6:=hid (show¬Gq L (T.drop (i+1)) from fun h=>hc ((GH.out.1 h).2.1 m (by simp;omega) q (by omega) (by simp;omega)));clear hc;go_wp2_with fail;go_region_held3 (fun w'=>(∀b o,b<w5.heap.size→w'.cell? ⟨b,o,none⟩=w5.cell? ⟨b,o,none⟩)∧AA (fun _=>True) w5 w')
         (first|exact Au (AJ.drew)|exact Au (AA.trans (AJ.drew) (AA.of_below (by assumption)))|exact Au (AA.drewN (AA.trans (AJ.drew) (AA.of_below (by assumption))) _)|exact Au (AA.trans (AA.trans (AJ.drew) (AA.of_below (by assumption))) (AA.of_below (by assumption)))|exact Au (AA.drewN (AA.trans (AA.trans (AJ.drew) (AA.of_below (by assumption))) (AA.of_below (by assumption))) _))
         (first|(go_at_call_of 168 uy;refine(HAT.out _ _ _ _ uy ux (pad (i+1) y) (pad (i+1) x) (Bc.out.keep (by first|exact(AJ.drew)|exact AA.trans (AJ.drew) (AA.of_below (by assumption)))) (AEh.out.keep (by first|exact(AJ.drew)|exact AA.trans (AJ.drew) (AA.of_below (by assumption)))) (jd.out.keep (by first|exact(AJ.drew)|exact AA.trans (AJ.drew) (AA.of_below (by assumption)))) (by rw[Bg,AZ FN.out];simp;omega) (by rw[Bg,AZ DN.out];simp;omega) (by rw[BJ];exact FN.out) (by rw[BJ];exact DN.out)).mono ?_;rintro e wa ⟨va,rfl,hoa,hba⟩;rw[BJ,BJ]at hoa)|(go_at_call_of 168 v5;refine(HAT.out _ _ _ _ ux v5 (pad (i+1) x) (pad (i+1) (img (T.drop (i+1)) L.c (pad (m+1) z))) (Bc.out.keep (by first|exact(AJ.drew)|exact AA.trans (AJ.drew) (AA.of_below (by assumption)))) (jd.out.keep (by first|exact(AJ.drew)|exact AA.trans (AJ.drew) (AA.of_below (by assumption)))) ((Ch.out.sl.mono (fun _ _=>trivial)).keep (by first|exact(AJ.drew)|exact AA.trans (AJ.drew) (AA.of_below (by assumption)))) (by rw[Bg,AZ DN.out];simp;omega) (by rw[Bg,AZ UR.out];simp;omega) (by rw[BJ];exact DN.out) (by rw[BJ];exact UR.out)).mono ?_;rintro e wb ⟨vb,rfl,Ca,hbb⟩;rw[BJ,BJ]at Ca)|(go_at_call 141;refine(NW _ va vb _ _ (by first|exact hoa.sl.mono (fun _ _=>trivial)|exact(hoa.sl.mono (fun _ _=>trivial)).keep (AA.of_below hbb)) (by first|exact Ca.sl.mono (fun _ _=>trivial)|exact(Ca.sl.mono (fun _ _=>trivial)).keep (AA.of_below hba))).mono ?_;rintro e w7 ⟨rfl,n7,rfl⟩;rw[hdec.out]))
        all_goals
         have hs5:w.heap.size+2≤w5.heap.size:=hsz;have BB:=hid (Aa.out.trans ((AX.drew).trans (Dk (by first|exact(hba.mono hs5).trans (hbb.mono (Ad hs5 hba.size))|exact(hbb.mono hs5).trans (hba.mono (Ad hs5 hbb.size))) n7)));clear hoa hba Ca hbb;obtain⟨_,Ao,_,EJ,Hq⟩:=Il BB.out;have f0:=Ah _ (w.heap.size+1) 0 _ _ (0,0) Ao;have f1:=Ah _ (w.heap.size+1) 1 _ _ (0,0) Ao;have f2:=Ah _ (w.heap.size+1) 2 _ _ (0,0) Ao;have f3:=Ah _ (w.heap.size+1) 3 _ _ (0,0) Ao;have z0:=BQ _ (w.heap.size+1) 0 _ _ Ao;have z1:=BQ _ (w.heap.size+1) 1 _ _ Ao;have z2:=BQ _ (w.heap.size+1) 2 _ _ Ao;have z3:=BQ _ (w.heap.size+1) 3 _ _ Ao;have Hr:=hid EJ;clear Ao EJ Hq;simp at f0 f1 f2 f3;go_wp2_with fail;exact Aj (v:=.agg #[.int .i64 2,.int .i64 (i),.int .i64 ((i:Int)+1+(m:Int)),.int .i64 ((i:Int)+1+(q:Int))]) (by simp[results,Tryz.results158,go_sem,f0,f1,f2,f3]) rfl
          ⟨2,_,_,_,rfl,⟨fun h=>absurd h (by decide),fun h=>absurd h H6.out⟩,(((Hr.out.setCell (by simp) _).setCell (by simp) _).setCell (by simp) _).setCell (by simp) _⟩
      ·skip
       obtain rfl:q=T.length-(i+1):=by omega
       clear Kw hq hq1;go_wp2_with fail;go_roundw;case rel=>exact⟨m+1,by omega,by go_num,hid (fun t ht=>by
        rcases EB.1 ht with h|h
        ·exact hR.out t h
        ·subst h;exact hQ.out),HB.out⟩
       case measure=>simp[intOf];omega
    ·skip
     obtain rfl:m=T.length-(i+1):=by omega
     have H2:=hid (show∀j<(T.drop (i+1)).length,∀k,j<k→k<(T.drop (i+1)).length→C2 L (T.drop (i+1)) j k from fun j hj k h1 h2=>hR.out j (by simpa using hj) k h1 (by simpa using h2));clear hR hlt hm;obtain⟨⟨e0,e1,e2⟩,hf,hk,hbw,hsz⟩:=Il HB.out;have Jd:=hid hk;have HF:=hid hf;have A9:=hid hbw;have Ga:w.heap.size<wr.heap.size:=by omega
     have Bc:=hid (HP.out.keep hk);clear hf hbw;have hcW:wr.cell? ⟨bP,oP+i,none⟩=some (uW):=by rw[hk.cell trivial FE];exact tL.out
     have Yw:bP<wr.heap.size:=by omega
     have Km:=hid (Ws.out.keep hk);clear hk;go_wp2_with fail;refine(Mj.out _ _ _ _ _ (pad (i+1) L.w) Bc.out Km.out (by rw[Bg,AZ HK.out.2.2.2.1];simp;omega) (by rw[BJ];exact HK.out.2.2.2.1)).mono ?_;rintro e w5 ⟨v5,rfl,Aw,hb5⟩;rw[BJ]at Aw;have Ch:=hid Aw;have Tc:=hid (Km.out.keep (AA.of_below hb5));have Aa:=hid (HB.out.trans (hb5.mono hsz));clear Aw hb5 e0 e1 e2 Ga hsz hcW Yw;by_cases hc:C3 L (T.drop (i+1))
     ·skip
      have hdec:=hid (show decide (ints (pad (i+1) (img (T.drop (i+1)) L.c L.w))=ints (pad (i+1) L.w))=true by
       rw[Jz];exact IK hc)
      have H3:=hid hc;clear hc;go_wp2_with fail;refine(NW _ _ _ _ _ (Ch.out.sl.mono (fun _ _=>trivial)) Tc.out).mono ?_;rintro e w7 ⟨rfl,n7,rfl⟩;rw[hdec.out];have BB:=hid (Dk Aa.out n7);go_wp2_with fail;go_loopw [15] (fun j wr=>∃m:Nat,m≤T.length-(i+1)∧j= .int .i64 ((i:Int)+1+(m:Int))∧Hid (∀t,t<m→C4 L (T.drop (i+1)) t)∧Below (w.heap.size+2) ((w.alloc (.cells #[.slice (some ⟨bO,oO,none⟩) T.length cO,.slice (some ⟨bP,oP,none⟩) T.length cP,.slice (some ⟨bC,oC,none⟩) T.length cC] 28)).alloc (.cells #[.int .i64 0,.int .i64 0,.int .i64 0,.int .i64 0] 112)) wr) (fun j _=>T.length-(intOf j).toNat);case atStart=>exact⟨0,AU _,by go_num,hid (fun t h=>absurd h (CO _)),BB.out⟩
      case round=>
       clear HB Aa BB Ch Km Tc Bc;obtain⟨m,hm,rfl,hR,hb⟩:=hrel;have HB:=hid hb;clear hb;by_cases hlt:m<T.length-(i+1)
       ·skip
        obtain⟨⟨e0,e1,e2⟩,hf,hk,hbw,hsz⟩:=Il HB.out;have Jd:=hid hk;have HF:=hid hf;have A9:=hid hbw;have Ga:w.heap.size<wr.heap.size:=by omega
        have Bc:=hid (HP.out.keep hk);clear hf hbw;have hd:decide ((i:Int)+1+(m:Int)<(T.length:Int))=true:=by simp;omega
        have HU:=hid (show(List.replicate T.length 0).set (i+1+m) 1=pad (i+1) (unit (T.drop (i+1)) m) from(fA T (i+1) m (by omega)).symm);have EO:=hid (show El (T.drop (i+1)) (unit (T.drop (i+1)) m) from MV HK.out.1 m);have Ky:=hid (show∀k,El (T.drop (i+1)) (it (img (T.drop (i+1)) L.c) k (unit (T.drop (i+1)) m)) from fun k=>JP (El _) _ (fun z _=>Pk HK.out.1 HK.out.2.2.1 z) k _ EO.out);clear hk;go_wp2_with fail;refine(fG T.length (i+1+m) hs6 (by omega) _).mono ?_;rintro e w5 ⟨ug,rfl,Aw,hb5⟩;rw[HU.out]at Aw;have Kt:=hid (Aw.sl.mono (S':=fun _=>True) (fun _ _=>trivial));have Aa:=hid (HB.out.trans (hb5.mono hsz));clear Aw hb5 e0 e1 e2 Ga hsz;go_wp2_with fail;go_loopw [17,18] (fun xv kv wr=>∃κ:Nat,κ≤L.o∧kv= .int .i64 (κ:Int)∧AL (fun _=>True) wr xv (ints (pad (i+1) (it (img (T.drop (i+1)) L.c) κ (unit (T.drop (i+1)) m))))∧AL (fun _=>True) wr ug (ints (pad (i+1) (unit (T.drop (i+1)) m)))∧Below (w.heap.size+2) ((w.alloc (.cells #[.slice (some ⟨bO,oO,none⟩) T.length cO,.slice (some ⟨bP,oP,none⟩) T.length cP,.slice (some ⟨bC,oC,none⟩) T.length cC] 28)).alloc (.cells #[.int .i64 0,.int .i64 0,.int .i64 0,.int .i64 0] 112)) wr) (fun _ kv _=>L.o-(intOf kv).toNat);case atStart=>exact⟨0,AU _,rfl,Kt.out,Kt.out,Aa.out⟩
        case round=>
         clear HB Aa Kt Bc;obtain⟨κ,hκ,rfl,hx,hgv,hb⟩:=hrel;have HB:=hid hb;have HX:=hid hx;have yM:=hid hgv;clear hb hx hgv;obtain⟨⟨e0,e1,e2⟩,hf,hk,hbw,hsz⟩:=Il HB.out;have Jd:=hid hk;have HF:=hid hf;have A9:=hid hbw;have Ga:w.heap.size<wr.heap.size:=by omega
         have Bc:=hid (HP.out.keep hk);clear hf hbw;have BS:wr.cell? ⟨bO,oO+i,none⟩=some (.int .i64 (L.o:Int)):=by rw[hk.cell trivial CQ];exact tK.out
         have RP:bO<wr.heap.size:=by omega
         have Km:=hid (Ws.out.keep hk);clear hk;by_cases hκt:κ<L.o
         ·skip
          go_wp2_with fail;refine(Mj.out _ _ _ _ _ (pad (i+1) (it (img (T.drop (i+1)) L.c) κ (unit (T.drop (i+1)) m))) Bc.out HX.out (by rw[Bg,AZ (Ky.out κ)];simp;omega) (by rw[BJ];exact Ky.out κ)).mono ?_;rintro e w6 ⟨v6,rfl,A8,hb6⟩;rw[BJ,←GK (img (T.drop (i+1)) L.c)]at A8;have DF:=hid (A8.sl.mono (S':=fun _=>True) (fun _ _=>trivial));have xQ:=hid (yM.out.keep (AA.of_below hb6));have Ar:=hid (HB.out.trans (hb6.mono hsz));clear A8 hb6 e0 e1 e2 Ga hsz BS RP;go_wp2_with fail;go_roundw;case rel=>exact⟨κ+1,by omega,by go_num,DF.out,xQ.out,Ar.out⟩
          case measure=>simp[intOf];omega
         ·skip
          obtain rfl:κ=L.o:=by omega
          clear hκt hκ;have w3:IntKind.i64.wrap ((i:Int)+1)=(i:Int)+1:=AY _ (by omega);have w6:(i:Int)<(T.length:Int):=by omega
          have w7:(0:Int)≤(i:Int):=by omega
          by_cases hc:C4 L (T.drop (i+1)) m
          ·skip
           have hdec:=hid (show decide (ints (pad (i+1) (mul (T.drop (i+1)) L.w (it (img (T.drop (i+1)) L.c) L.o (unit (T.drop (i+1)) m))))=ints (pad (i+1) (mul (T.drop (i+1)) (unit (T.drop (i+1)) m) L.w)))=true by
            rw[Jz];exact IK hc)
           have HCM:=hid hc;clear hc;obtain⟨ux,Je⟩:∃ux,ux=u17:=⟨_,rfl⟩;rw[←Je]at HX ⊢;clear Je;go_wp2_with fail;go_region_held3 (fun w'=>(∀b o,b<wr.heap.size→w'.cell? ⟨b,o,none⟩=wr.cell? ⟨b,o,none⟩)∧AA (fun _=>True) wr w')
            (first|exact Au (AJ.drew)|exact Au (AA.trans (AJ.drew) (AA.of_below (by assumption)))|exact Au (AA.drewN (AA.trans (AJ.drew) (AA.of_below (by assumption))) _)|exact Au (AA.trans (AA.trans (AJ.drew) (AA.of_below (by assumption))) (AA.of_below (by assumption)))|exact Au (AA.drewN (AA.trans (AA.trans (AJ.drew) (AA.of_below (by assumption))) (AA.of_below (by assumption))) _))
            (first|(go_at_call_of 168 ux;refine(HAT.out _ _ _ _ uW ux (pad (i+1) L.w) (pad (i+1) (it (img (T.drop (i+1)) L.c) L.o (unit (T.drop (i+1)) m))) (Bc.out.keep (by first|exact(AJ.drew)|exact AA.trans (AJ.drew) (AA.of_below (by assumption)))) (Km.out.keep (by first|exact(AJ.drew)|exact AA.trans (AJ.drew) (AA.of_below (by assumption)))) (HX.out.keep (by first|exact(AJ.drew)|exact AA.trans (AJ.drew) (AA.of_below (by assumption)))) (by rw[Bg,AZ HK.out.2.2.2.1];simp;omega) (by rw[Bg,AZ (Ky.out L.o)];simp;omega) (by rw[BJ];exact HK.out.2.2.2.1) (by rw[BJ];exact Ky.out L.o)).mono ?_;rintro e wa ⟨va,rfl,hoa,hba⟩;rw[BJ,BJ]at hoa)|(go_at_call_of 168 ug;refine(HAT.out _ _ _ _ ug uW (pad (i+1) (unit (T.drop (i+1)) m)) (pad (i+1) L.w) (Bc.out.keep (by first|exact(AJ.drew)|exact AA.trans (AJ.drew) (AA.of_below (by assumption)))) (yM.out.keep (by first|exact(AJ.drew)|exact AA.trans (AJ.drew) (AA.of_below (by assumption)))) (Km.out.keep (by first|exact(AJ.drew)|exact AA.trans (AJ.drew) (AA.of_below (by assumption)))) (by rw[Bg,AZ EO.out];simp;omega) (by rw[Bg,AZ HK.out.2.2.2.1];simp;omega) (by rw[BJ];exact EO.out) (by rw[BJ];exact HK.out.2.2.2.1)).mono ?_;rintro e wb ⟨vb,rfl,Ca,hbb⟩;rw[BJ,BJ]at Ca)|(go_at_call 141;refine(NW _ va vb _ _ (by first|exact hoa.sl.mono (fun _ _=>trivial)|exact(hoa.sl.mono (fun _ _=>trivial)).keep (AA.of_below hbb)) (by first|exact Ca.sl.mono (fun _ _=>trivial)|exact(Ca.sl.mono (fun _ _=>trivial)).keep (AA.of_below hba))).mono ?_;rintro e w7 ⟨rfl,n7,rfl⟩;rw[hdec.out]))
           all_goals
            have hs5:w.heap.size+2≤wr.heap.size:=hsz;have BB:=hid (HB.out.trans ((AX.drew).trans (Dk (by first|exact(hba.mono hs5).trans (hbb.mono (Ad hs5 hba.size))|exact(hbb.mono hs5).trans (hba.mono (Ad hs5 hbb.size))) n7)));clear hoa hba Ca hbb;go_wp2_with fail;go_roundw;case rel=>exact⟨m+1,by omega,by go_num,hid (fun t ht=>by
             rcases EB.1 ht with h|h
             ·exact hR.out t h
             ·subst h;exact HCM.out),BB.out⟩
            case measure=>simp[intOf];omega
          ·skip
           have hdec:=hid (show decide (ints (pad (i+1) (mul (T.drop (i+1)) L.w (it (img (T.drop (i+1)) L.c) L.o (unit (T.drop (i+1)) m))))=ints (pad (i+1) (mul (T.drop (i+1)) (unit (T.drop (i+1)) m) L.w)))=false by
            rw[Jz];exact GX hc)
           have H6:=hid (show¬Gq L (T.drop (i+1)) from fun h=>hc ((GH.out.1 h).2.2.2 m (by simp;omega)));clear hc;obtain⟨ux,Je⟩:∃ux,ux=u17:=⟨_,rfl⟩;rw[←Je]at HX ⊢;clear Je;go_wp2_with fail;go_region_held3 (fun w'=>(∀b o,b<wr.heap.size→w'.cell? ⟨b,o,none⟩=wr.cell? ⟨b,o,none⟩)∧AA (fun _=>True) wr w')
            (first|exact Au (AJ.drew)|exact Au (AA.trans (AJ.drew) (AA.of_below (by assumption)))|exact Au (AA.drewN (AA.trans (AJ.drew) (AA.of_below (by assumption))) _)|exact Au (AA.trans (AA.trans (AJ.drew) (AA.of_below (by assumption))) (AA.of_below (by assumption)))|exact Au (AA.drewN (AA.trans (AA.trans (AJ.drew) (AA.of_below (by assumption))) (AA.of_below (by assumption))) _))
            (first|(go_at_call_of 168 ux;refine(HAT.out _ _ _ _ uW ux (pad (i+1) L.w) (pad (i+1) (it (img (T.drop (i+1)) L.c) L.o (unit (T.drop (i+1)) m))) (Bc.out.keep (by first|exact(AJ.drew)|exact AA.trans (AJ.drew) (AA.of_below (by assumption)))) (Km.out.keep (by first|exact(AJ.drew)|exact AA.trans (AJ.drew) (AA.of_below (by assumption)))) (HX.out.keep (by first|exact(AJ.drew)|exact AA.trans (AJ.drew) (AA.of_below (by assumption)))) (by rw[Bg,AZ HK.out.2.2.2.1];simp;omega) (by rw[Bg,AZ (Ky.out L.o)];simp;omega) (by rw[BJ];exact HK.out.2.2.2.1) (by rw[BJ];exact Ky.out L.o)).mono ?_;rintro e wa ⟨va,rfl,hoa,hba⟩;rw[BJ,BJ]at hoa)|(go_at_call_of 168 ug;refine(HAT.out _ _ _ _ ug uW (pad (i+1) (unit (T.drop (i+1)) m)) (pad (i+1) L.w) (Bc.out.keep (by first|exact(AJ.drew)|exact AA.trans (AJ.drew) (AA.of_below (by assumption)))) (yM.out.keep (by first|exact(AJ.drew)|exact AA.trans (AJ.drew) (AA.of_below (by assumption)))) (Km.out.keep (by first|exact(AJ.drew)|exact AA.trans (AJ.drew) (AA.of_below (by assumption)))) (by rw[Bg,AZ EO.out];simp;omega) (by rw[Bg,AZ HK.out.2.2.2.1];simp;omega) (by rw[BJ];exact EO.out) (by rw[BJ];exact HK.out.2.2.2.1)).mono ?_;rintro e wb ⟨vb,rfl,Ca,hbb⟩;rw[BJ,BJ]at Ca)|(go_at_call 141;refine(NW _ va vb _ _ (by first|exact hoa.sl.mono (fun _ _=>trivial)|exact(hoa.sl.mono (fun _ _=>trivial)).keep (AA.of_below hbb)) (by first|exact Ca.sl.mono (fun _ _=>trivial)|exact(Ca.sl.mono (fun _ _=>trivial)).keep (AA.of_below hba))).mono ?_;rintro e w7 ⟨rfl,n7,rfl⟩;rw[hdec.out]))
           all_goals
            have hs5:w.heap.size+2≤wr.heap.size:=hsz;have BB:=hid (HB.out.trans ((AX.drew).trans (Dk (by first|exact(hba.mono hs5).trans (hbb.mono (Ad hs5 hba.size))|exact(hbb.mono hs5).trans (hba.mono (Ad hs5 hbb.size))) n7)));clear hoa hba Ca hbb;obtain⟨_,Ao,_,EJ,Hq⟩:=Il BB.out;have f0:=Ah _ (w.heap.size+1) 0 _ _ (0,0) Ao;have f1:=Ah _ (w.heap.size+1) 1 _ _ (0,0) Ao;have f2:=Ah _ (w.heap.size+1) 2 _ _ (0,0) Ao;have f3:=Ah _ (w.heap.size+1) 3 _ _ (0,0) Ao;have z0:=BQ _ (w.heap.size+1) 0 _ _ Ao;have z1:=BQ _ (w.heap.size+1) 1 _ _ Ao;have z2:=BQ _ (w.heap.size+1) 2 _ _ Ao;have z3:=BQ _ (w.heap.size+1) 3 _ _ Ao;have Hr:=hid EJ;clear Ao EJ Hq;simp at f0 f1 f2 f3;go_wp2_with fail;exact Aj (v:=.agg #[.int .i64 4,.int .i64 (i),.int .i64 ((i:Int)+1+(m:Int)),.int .i64 (0)]) (by simp[results,Tryz.results158,go_sem,f0,f1,f2,f3]) rfl
             ⟨4,_,_,_,rfl,⟨fun h=>absurd h (by decide),fun h=>absurd h H6.out⟩,(((Hr.out.setCell (by simp) _).setCell (by simp) _).setCell (by simp) _).setCell (by simp) _⟩
       ·skip
        obtain rfl:m=T.length-(i+1):=by omega
        have P8:=hid (show Gq L (T.drop (i+1)) from GH.out.2 ⟨H1.out,H2.out,H3.out,fun j hj=>hR.out j (by simpa using hj)⟩);obtain⟨_,Ao,_,EJ,Hq⟩:=Il HB.out;have f0:=Ah _ (w.heap.size+1) 0 _ _ (0,0) Ao;have f1:=Ah _ (w.heap.size+1) 1 _ _ (0,0) Ao;have f2:=Ah _ (w.heap.size+1) 2 _ _ (0,0) Ao;have f3:=Ah _ (w.heap.size+1) 3 _ _ (0,0) Ao;have z0:=BQ _ (w.heap.size+1) 0 _ _ Ao;have z1:=BQ _ (w.heap.size+1) 1 _ _ Ao;have z2:=BQ _ (w.heap.size+1) 2 _ _ Ao;have z3:=BQ _ (w.heap.size+1) 3 _ _ Ao;have Hr:=hid EJ;clear Ao EJ Hq;simp at f0 f1 f2 f3;go_wp2_with fail;exact Aj (v:=.agg #[.int .i64 0,.int .i64 (0),.int .i64 (0),.int .i64 (0)]) (by simp[results,Tryz.results158,go_sem,f0,f1,f2,f3]) rfl
         ⟨0,_,_,_,rfl,⟨fun _=>P8.out,fun _=>rfl⟩,(((Hr.out.setCell (by simp) _).setCell (by simp) _).setCell (by simp) _).setCell (by simp) _⟩
     ·skip
      have hdec:=hid (show decide (ints (pad (i+1) (img (T.drop (i+1)) L.c L.w))=ints (pad (i+1) L.w))=false by
       rw[Jz];exact GX hc)
      have H6:=hid (show¬Gq L (T.drop (i+1)) from fun h=>hc (GH.out.1 h).2.2.1);clear hc;go_wp2_with fail;refine(NW _ _ _ _ _ (Ch.out.sl.mono (fun _ _=>trivial)) Tc.out).mono ?_;rintro e w7 ⟨rfl,n7,rfl⟩;rw[hdec.out];have BB:=hid (Dk Aa.out n7);obtain⟨_,Ao,_,EJ,Hq⟩:=Il BB.out;have f0:=Ah _ (w.heap.size+1) 0 _ _ (0,0) Ao;have f1:=Ah _ (w.heap.size+1) 1 _ _ (0,0) Ao;have f2:=Ah _ (w.heap.size+1) 2 _ _ (0,0) Ao;have f3:=Ah _ (w.heap.size+1) 3 _ _ (0,0) Ao;have z0:=BQ _ (w.heap.size+1) 0 _ _ Ao;have z1:=BQ _ (w.heap.size+1) 1 _ _ Ao;have z2:=BQ _ (w.heap.size+1) 2 _ _ Ao;have z3:=BQ _ (w.heap.size+1) 3 _ _ Ao;have Hr:=hid EJ;clear Ao EJ Hq;simp at f0 f1 f2 f3;go_wp2_with fail;exact Aj (v:=.agg #[.int .i64 3,.int .i64 (i),.int .i64 (0),.int .i64 (0)]) (by simp[results,Tryz.results158,go_sem,f0,f1,f2,f3]) rfl
       ⟨3,_,_,_,rfl,⟨fun h=>absurd h (by decide),fun h=>absurd h H6.out⟩,(((Hr.out.setCell (by simp) _).setCell (by simp) _).setCell (by simp) _).setCell (by simp) _⟩
end Go.Proofs.YtaadbccidfdniaaGreat.jB
