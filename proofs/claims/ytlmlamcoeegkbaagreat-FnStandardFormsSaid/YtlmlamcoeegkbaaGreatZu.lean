import Derived.Test.YtlmlamcoeegkbaaGreatZ0
import Derived.Test.YtlmlamcoeegkbaaGreatZt
import Derived.Test.YtlmlamcoeegkbaaGreatZb
/-
  Lemmas for the law FnStandardForms, in short spelling.
-/
open Go.Lib (hid)
set_option linter.unusedVariables false
set_option linter.unusedSimpArgs false
set_option maxRecDepth 100000
set_option maxHeartbeats 40000000
namespace Go.Proofs.YtlmlamcoeegkbaaGreat.Ox
open Go.RowKit Go.Proofs.YtlmlamcoeegkbaaGreat AJ CV MU IM JD
theorem AAr (g x:Nat)(o:World)(h:o.cell? ⟨g,0,none⟩=some (.int .i64 (x:Int)))(hs:g<o.heap.size):AL Any o (.slice (some ⟨g,0,none⟩) 1 1) (ints [x]):=by
 refine⟨some ⟨g,0,none⟩,1,rfl,by simp[ints],by simp[maxLen],by simp,fun i y hy=>?_⟩
 match i,hy with
 |0,hy=>simp[ints]at hy;subst hy;exact⟨g,0,rfl,trivial,hs,_,h,rfl⟩
 |i+1,hy=>simp[ints]at hy
theorem Cv.mono {S S':Nat→Prop}{w:World}{bg:Nat}{T:Tw}(h:Cv S w bg T)(hS:∀k,S k→S' k):Cv S' w bg T:=by
 obtain⟨h1,h2,v,hc,hs⟩:=h;exact⟨hS _ h1,h2,v,hc,hs.mono hS⟩
theorem Q0 (T:Tw)(hT:Wf T)(hz:sz T≤729)(w:World)(bg:Nat)(hG:Cv Any w bg T)(x k:Nat)(hx:x<sz T)(hk:k≤1000):
  Calls Tryz.prog 127 #[.pointer (some ⟨bg,0,none⟩),.int .i64 (x:Int),.int .i64 (k:Int)] w (O0 (it (fun z=>pr T z x) k 0) w):=by
 have HP:=hid (fun W vx ve hG h1 h2=>NU T hT hz Any W bg hG vx ve [x] [k] h1 h2 rfl (by simp) (by simpa using hx) (by simpa using hk));have HG:=hid hG;clear hG hx hk hz;go_enter Tryz.func127,Tryz.ntmps127;go_wp2_with fail;have hA:((w.alloc (.cells #[.int .i64 (x:Int)] 3)).alloc (.cells #[.int .i64 (k:Int)] 2)).heap[w.heap.size]?=some (.cells #[.int .i64 (x:Int)] 3):=(LK _ _ (by simp)).trans (Av w _);have hB:((w.alloc (.cells #[.int .i64 (x:Int)] 3)).alloc (.cells #[.int .i64 (k:Int)] 2)).heap[w.heap.size+1]?=some (.cells #[.int .i64 (k:Int)] 2):=by
  have h:=Av (w.alloc (.cells #[.int .i64 (x:Int)] 3)) (.cells #[.int .i64 (k:Int)] 2);have e:(w.alloc (.cells #[.int .i64 (x:Int)] 3)).heap.size=w.heap.size+1:=by simp
  rw[e]at h;exact h
 have h1:=AAr w.heap.size x _ ((Aq _ w.heap.size 0 _ _ (0,0) hA).trans rfl) (by simp;omega);have h2:=AAr (w.heap.size+1) k _ ((Aq _ (w.heap.size+1) 0 _ _ (0,0) hB).trans rfl) (by simp);refine(HP.out _ _ _ (HG.out.keep (((AA.refl _ w).alloc _).alloc _)) h1 h2).mono ?_;clear hA hB h1 h2;rintro e w1 ⟨rfl,m,rfl⟩;go_wp2_with fail;go_ret;exact⟨rfl,Dp ((AR.alloc AQ _).alloc (by simp) _) m⟩
def AKT (T:Tw)(M x k:Nat)(w:World)(e:Ending)(w':World):Prop:=
 ∃O:Nat,e= .returned (.int .u64 (O:Int))∧O<2^32∧(∀c,O.testBit c=true↔∃j,j<k∧∃s,s<sz T∧M.testBit s=true∧it (pr T x) j s=c)∧w'=w
theorem AEY (T:Tw)(hT:Wf T)(hz:sz T≤27)(w:World)(bg:Nat)(hG:Cv Any w bg T)(M x k:Nat)(hM:M<2^32∧∀c,M.testBit c=true→c<sz T)(hx:x<sz T)(hk:k≤1000):
  Calls Tryz.prog 121 #[.pointer (some ⟨bg,0,none⟩),.int .u64 (M:Int),.int .i64 (x:Int),.int .i64 (k:Int)] w (AKT T M x k w):=by
 have hpos:=F8 hT;obtain⟨gt,ot,ct,hbg,hct,hc0,HR⟩:=hG.open hpos;obtain⟨gr,or,cr,hcr,AKS,HR2⟩:=HR x hx;have HRR:=hid HR2;have HM:=hid hM;have G6:=hid (J2 hT);clear HR HR2 hG hM hT;go_enter Tryz.func121,Tryz.ntmps121;go_wp2_with fail;go_loop [1,9,14] (fun mv ov i=>∃q:Nat,q≤k∧i= .int .i64 (q:Int)∧∃M' O:Nat,mv= .int .u64 (M':Int)∧ov= .int .u64 (O:Int)∧
  Hid (M'<2^32∧O<2^32∧(∀c,M'.testBit c=true→c<sz T)∧(∀c,c<sz T→(M'.testBit c=true↔∃s,s<sz T∧M.testBit s=true∧it (pr T x) q s=c))∧(∀c,O.testBit c=true↔∃j,j<q∧∃s,s<sz T∧M.testBit s=true∧it (pr T x) j s=c))) (fun _ _ i=>k-(intOf i).toNat)
 case atStart=>exact⟨0,AU _,rfl,M,0,rfl,rfl,hid ⟨HM.out.1,by decide,HM.out.2,fun c hc=>⟨fun h=>⟨c,hc,h,rfl⟩,fun⟨s,_,h,e⟩=>by rw[←e];exact h⟩,fun c=>by simp⟩⟩
 case round=>
  obtain⟨q,hq,rfl,M',O',rfl,rfl,hR⟩:=hrel;by_cases hlt:q<k
  ·have hd:decide ((q:Int)<(k:Int))=true:=by simp;omega
   go_wp2_with fail;go_loop [9,21] (fun ov i=>∃a:Nat,a≤sz T∧i= .int .i64 (a:Int)∧∃O:Nat,ov= .int .u64 (O:Int)∧Hid (O<2^32∧∀c,O.testBit c=(O'.testBit c||(decide (c<a)&&M'.testBit c)))) (fun _ i=>sz T-(intOf i).toNat);case atStart=>exact⟨0,AU _,rfl,O',rfl,hid ⟨hR.out.2.1,fun c=>by simp⟩⟩
   case round=>
    obtain⟨a,ha,rfl,O,rfl,hO⟩:=hrel;by_cases halt:a<sz T
    ·have hd2:decide ((a:Int)<(sz T:Int))=true:=by simp;omega
     have h1:=Mask.test_eq M' a (by omega) hR.out.1;have h2:=Mask.set_eq O a (by omega) hO.out.1;have H2:=hid (Mask.AAq O a (by omega) hO.out.1);cases hb:M'.testBit a with
     |true=>
      have EC:=hid hb;rw[hb]at h1;clear hb;go_wp2_with fail;go_round;case rel=>exact⟨a+1,by omega,by go_num,O ||| 2^a,rfl,hid ⟨H2.out,fun c=>by
       rw[Mask.zN,hO.out.2 c];by_cases hca:a=c
       ·subst hca;simp[EC.out]
       ·have:decide (c<a+1)=decide (c<a):=by apply decide_eq_decide.2;omega
        simp[hca,this]⟩⟩
      case measure=>simp[intOf];omega
     |false=>
      have EC:=hid hb;rw[hb]at h1;clear hb;go_wp2_with fail;go_round;case rel=>exact⟨a+1,by omega,by go_num,O,rfl,hid ⟨hO.out.1,fun c=>by
       rw[hO.out.2 c];by_cases hca:a=c
       ·subst hca;simp[EC.out]
       ·have:decide (c<a+1)=decide (c<a):=by apply decide_eq_decide.2;omega
        simp[this]⟩⟩
      case measure=>simp[intOf];omega
    ·obtain rfl:a=sz T:=by omega
     have hd2:decide ((sz T:Int)<(sz T:Int))=false:=by simp
     have Di:Hid (O<2^32∧∀c,O.testBit c=true↔∃j,j<q+1∧∃s,s<sz T∧M.testBit s=true∧it (pr T x) j s=c):=hid ⟨hO.out.1,fun c=>by
      rw[hO.out.2 c];constructor
      ·intro h;rw[WJ]at h;rcases h with h|h
       ·obtain⟨j,hj,s,hs⟩:=(hR.out.2.2.2.2 c).1 h;exact⟨j,by omega,s,hs⟩
       ·rw[RS]at h;obtain⟨s,hs⟩:=(hR.out.2.2.2.1 c (by simpa using h.1)).1 h.2;exact⟨q,by omega,s,hs⟩
      ·rintro⟨j,hj,s,hs⟩;rw[WJ];rcases Fe j q with h|h
       ·exact .inl ((hR.out.2.2.2.2 c).2 ⟨j,h,s,hs⟩)
       ·obtain rfl:j=q:=by omega
        have hc:c<sz T:=by
         rw[←hs.2.2];cases j with
         |zero=>exact hs.1
         |succ j=>rw[F7];exact G6.out _ _
        rw[RS];exact .inr ⟨by simpa using hc,(hR.out.2.2.2.1 c hc).2 ⟨s,hs⟩⟩⟩
     clear hO;go_wp2_with fail;go_loop [11,39] (fun ov i=>∃a:Nat,a≤sz T∧i= .int .i64 (a:Int)∧∃N:Nat,ov= .int .u64 (N:Int)∧Hid (N<2^32∧∀c,N.testBit c=true↔∃d,d<a∧M'.testBit d=true∧pr T x d=c)) (fun _ i=>sz T-(intOf i).toNat);case atStart=>exact⟨0,AU _,rfl,0,rfl,hid ⟨by decide,fun c=>by simp⟩⟩
     case round=>
      obtain⟨a,ha,rfl,N,rfl,hN⟩:=hrel;by_cases halt:a<sz T
      ·have hd2:decide ((a:Int)<(sz T:Int))=true:=by simp;omega
       have h1:=Mask.test_eq M' a (by omega) hR.out.1;have hpl:=G6.out x a;have h2:=Mask.set_eq N (pr T x a) (by omega) hN.out.1;have H2:=hid (Mask.AAq N (pr T x a) (by omega) hN.out.1);have hcc:=HRR.out a halt;cases hb:M'.testBit a with
       |true=>
        have EC:=hid hb;rw[hb]at h1;clear hb;go_wp2_with fail;go_round;case rel=>exact⟨a+1,by omega,by go_num,N ||| 2^pr T x a,rfl,hid ⟨H2.out,fun c=>by
         rw[Mask.zN,WJ,hN.out.2 c];constructor
         ·rintro(⟨d,hd,h⟩|h)
          ·exact⟨d,by omega,h⟩
          ·exact⟨a,by omega,EC.out,by simpa using h⟩
         ·rintro⟨d,hd,h⟩;rcases Fe d a with hda|hda
          ·exact .inl ⟨d,hda,h⟩
          ·obtain rfl:d=a:=by omega
           exact .inr (by simpa using h.2)⟩⟩
        case measure=>simp[intOf];omega
       |false=>
        have EC:=hid hb;rw[hb]at h1;clear hb;go_wp2_with fail;go_round;case rel=>exact⟨a+1,by omega,by go_num,N,rfl,hid ⟨hN.out.1,fun c=>by
         rw[hN.out.2 c];constructor
         ·rintro⟨d,hd,h⟩;exact⟨d,by omega,h⟩
         ·rintro⟨d,hd,h⟩;rcases Fe d a with hda|hda
          ·exact⟨d,hda,h⟩
          ·obtain rfl:d=a:=by omega
           exact absurd (EC.out.symm.trans h.1) (by decide)⟩⟩
        case measure=>simp[intOf];omega
      ·obtain rfl:a=sz T:=by omega
       have hd2:decide ((sz T:Int)<(sz T:Int))=false:=by simp
       go_wp2_with fail;go_round;case rel=>exact⟨q+1,by omega,by go_num,N,O,rfl,rfl,hid ⟨hN.out.1,Di.out.1,fun c h=>by
         obtain⟨d,hd,h⟩:=(hN.out.2 c).1 h;rw[←h.2];exact G6.out _ _,fun c hc=>by
         rw[hN.out.2 c];constructor
         ·rintro⟨d,hd,h,h'⟩;obtain⟨s,hs,hm,e⟩:=(hR.out.2.2.2.1 d hd).1 h;exact⟨s,hs,hm,by rw[F7,e,h']⟩
         ·rintro⟨s,hs,hm,e⟩;rw[F7]at e;have hlt:it (pr T x) q s<sz T:=by
           cases q with
           |zero=>exact hs
           |succ q=>rw[F7];exact G6.out _ _
          exact⟨it (pr T x) q s,hlt,(hR.out.2.2.2.1 _ hlt).2 ⟨s,hs,hm,rfl⟩,e⟩,Di.out.2⟩⟩
       case measure=>simp[intOf];omega
  ·obtain rfl:q=k:=by omega
   have hd:decide ((q:Int)<(q:Int))=false:=by simp
   go_wp2_with fail;go_ret;exact⟨O',rfl,hR.out.2.1,hR.out.2.2.2.2,rfl⟩
end Go.Proofs.YtlmlamcoeegkbaaGreat.Ox
namespace Go.Proofs.YtlmlamcoeegkbaaGreat.RP
open Go.RowKit Go.Proofs.YtlmlamcoeegkbaaGreat AJ CV MU IM JD Ox MS
def Fits (Q:Tw)(L:Lv)(im:List Nat)(x:Nat):Prop:=
 it (fun z=>pr Q z x) L.o 0=BO (pr Q) 0 im L.w∧∀k y,L.c[k]?=some y→pr Q (im.getD k 0) x=pr Q x (BO (pr Q) 0 im y)
structure pY (w:World)(bs bp op bg gi ci:Nat)(T Q:Tw)(Aa:List Nat):Prop where
 lt:bs<w.heap.size
 p:w.cell? ⟨bs,0,none⟩=some (.pointer (some ⟨bp,op,none⟩))
 g:w.cell? ⟨bs,1,none⟩=some (.pointer (some ⟨bg,0,none⟩))
 im:w.cell? ⟨bs,2,none⟩=some (.slice (some ⟨gi,0,none⟩) T.length ci)
 pre:Cn Any w bp op (AX T)
 tab:Cv Any w bg Q
 len:Aa.length=T.length
 Aa:AL Any w (.slice (some ⟨gi,0,none⟩) T.length ci) (ints Aa)
theorem AF2 (T Q:Tw)(hT:Wf T)(hs:Small T)(hQ:Wf Q)(hz:sz Q≤729)(w:World)(bs bp op bg gi ci:Nat)(Aa:List Nat)(i x:Nat)(L:Lv)(hL:T[i]?=some L)(h:pY w bs bp op bg gi ci T Q Aa)(hx:x<sz Q)(hin:∀y∈Aa,y<sz Q):
  Calls Tryz.prog 120 #[.pointer (some ⟨bs,0,none⟩),.int .i64 (i:Int),.int .i64 (x:Int)] w (PM (Fits Q L (Aa.drop (i+1)) x) w):=by
 have hil:=(Ak.1 hL).1;have hs6:=hs.1;obtain⟨_,hbl,vO,vP,vC,hp0,hp1,hp2,hV⟩:=h.pre;obtain⟨aO,cO,aP,cP,aC,cC,rfl,rfl,rfl,Er,hP1,FP⟩:=hV.open;obtain⟨bO,oO,rfl,_,Ch,Bc⟩:=hV.ord hL;obtain⟨bP,oP,uP,rfl,_,EK,hcP,EA⟩:=hV.pow hL;obtain⟨bC,oC,a2,c2,rfl,_,hbC,hcC,hc2,hcy⟩:=hV.J8 hL;have hpos:=F8 hQ;obtain⟨gt,ot,ct,hgl,hct,dY,gF⟩:=h.tab.open hpos;obtain⟨_,_,vt,JU,hslt⟩:=h.tab;have q:∀(b o:Nat) (v:Value),b<w.heap.size→w.cell? ⟨b,o,none⟩=some v→∀x:BW w.heap.size w,x.1.cell? ⟨b,o,none⟩=some v:=fun b o v hb hc x=>(x.2.cell (p:=⟨b,o,none⟩) hb).trans hc;have q0:=q _ _ _ h.lt h.p;have q1:=q _ _ _ h.lt h.g;have q2:=q _ _ _ h.lt h.im;have q3:=q _ _ _ hbl hp0;have q4:=q _ _ _ hbl hp1;have q5:=q _ _ _ hbl hp2;have q6:=q _ _ _ Ch Bc;have q7:=q _ _ _ EK hcP;have q8:=q _ _ _ hbC hcC;have q9:=q _ _ _ hgl dY;have Ip:Hid (∀a,a<sz Q→∃gr or cr,sz Q≤cr∧(∀x1:BW w.heap.size w,x1.1.cell? ⟨gt,ot+a,none⟩=some (.slice (some ⟨gr,or,none⟩) (sz Q) cr))∧∀j,j<sz Q→∀x1:BW w.heap.size w,x1.1.cell? ⟨gr,or+j,none⟩=some (.int .i64 (pr Q a j:Int))):=hid (fun a ha=>by
  obtain⟨gr,or,cr,h1,h2,h3⟩:=gF a ha;exact⟨gr,or,cr,h1,q _ _ _ (World.block_lt_of_cell? w _ h2) h2,fun j hj=>q _ _ _ (World.block_lt_of_cell? w _ (h3 j hj)) (h3 j hj)⟩)
 have OD:Hid (∀(j a:Nat),Aa[j]?=some a→∀x1:BW w.heap.size w,x1.1.cell? ⟨gi,j,none⟩=some (.int .i64 (a:Int))):=hid (fun j a hj=>by
  obtain⟨b,o,he,_,hb,hc⟩:=h.Aa.at hj;obtain⟨rfl,rfl⟩:gi=b∧0=o:=by simpa using he
  rw[D5]at hc;exact q _ _ _ hb hc)
 have Uq:Hid (∀y,BO (pr Q) 0 (Aa.drop (i+1)) y<sz Q):=hid (fun y=>Qy (· <sz Q) (pr Q) (fun _ _ _ _=>J2 hQ _ _) _ (fun c hc=>hin c (LJ hc)) y 0 hpos);have Kb:=hid hin;have AK3:=h.len;have NB:=hx;have HI:=hid h;have vS:=lvl' hT hL;have hcl:L.c.length=T.length-(i+1):=vS.2.1;have Cy:=hid (fun(x1:BW w.heap.size w)=>Q0 Q hQ hz x1.1 bg (h.tab.keep (AA.of_below x1.2)) x L.o hx (by have:=hs.2 L (Ar hL);omega));have hOL:=Nat.le_of_lt_succ (Nat.lt_succ_of_le (hs.2 L (Ar hL)));have Bw:Hid (∀(x1:BW w.heap.size w) (y:List Nat) (vy:Value),El (T.drop (i+1)) y→AL Any w vy (ints (pad (i+1) y))→Calls Tryz.prog 165 #[.pointer (some ⟨bg,0,none⟩),.slice (some ⟨gi,0,none⟩) T.length ci,vy] x1.1 (XO (BO (pr Q) 0 (Aa.drop (i+1)) y) x1.1)):=
  hid (fun x1 y vy hy hv=>by
   have hp:=NU Q hQ hz Any x1.1 bg (h.tab.keep (AA.of_below x1.2)) _ vy Aa (pad (i+1) y) (h.Aa.keep (AA.of_below x1.2)) (hv.keep (AA.of_below x1.2)) (by rw[h.len,BZ,Af hy,Ct];omega) (by rw[BZ,Af hy,Ct];omega) hin (by
    intro e he;simp only[pad,Hr,IQ]at he;rcases he with⟨_,rfl⟩|he
    ·omega
    ·obtain⟨j,hj,rfl⟩:=Nq he;obtain⟨M,hM,hlt⟩:=P7 hy (AP hj);have:=hs.2 M (LJ (Ar hM));omega)
   rwa[jg _ _ _ _ _ (by rw[h.len];omega)]at hp)
 have Ew:=hid EA;have Ik:=hid vS;have NC:=hid hcy;clear q Bc hcP hcC EA hp0 hp1 hp2 hV h vS hcy hL hin hT hs hQ hz hx gF JU hslt dY;go_enter Tryz.func120,Tryz.ntmps120;go_upto_region 1 with fail;refine wZ w.heap.size w AR (by kernel_rfl) (by kernel_rfl) ?_;repeat(go_big_quiet_step ((first|(go_at_call 127;exact AD5 AQ (Cy.out _))|(go_at_call 165;exact xM (Bw.out _ L.w _ Ik.out.2.2.2.1 Ew.out)))))
 refine wpQuiet_nil ?_;intro wx hw';have hbx:Below w.heap.size w wx:=by obtain⟨x1,rfl⟩:=hw';exact x1.2
 clear hw';have Cb:=hid hbx;have r0:wx.cell? ⟨bs,0,none⟩=_:=q0 ⟨wx,hbx⟩;have r3:wx.cell? ⟨bp,op+2,none⟩=_:=q5 ⟨wx,hbx⟩;have r8:wx.cell? ⟨bC,oC+i,none⟩=_:=q8 ⟨wx,hbx⟩;clear hbx;by_cases h1:it (fun z=>pr Q z x) L.o 0=BO (pr Q) 0 (Aa.drop (i+1)) L.w
 ·have hd:(((it (fun z=>pr Q z x) L.o 0:Nat):Int) !=((BO (pr Q) 0 (Aa.drop (i+1)) L.w:Nat):Int))=false:=by rw[h1];simp
  have H1:=hid h1;clear h1;go_wp2_with fail;go_loopw [56] (fun iv wr=>∃k:Nat,k≤L.c.length∧iv= .int .i64 (k:Int)∧Hid (∀j y,j<k→L.c[j]?=some y→pr Q ((Aa.drop (i+1)).getD j 0) x=pr Q x (BO (pr Q) 0 (Aa.drop (i+1)) y))∧Below w.heap.size w wr) (fun iv _=>L.c.length-(intOf iv).toNat);case atStart=>exact⟨0,AU _,rfl,hid (fun j y h=>absurd h (DX _)),Cb.out⟩
  case round=>
   obtain⟨k,hk,rfl,hR,hb⟩:=hrel;have HB:=hid hb;by_cases hlt:k<L.c.length
   ·obtain⟨y,hy⟩:∃y,L.c[k]?=some y:=⟨_,AP hlt⟩;obtain⟨b2,o2,uy,rfl,_,hb2,AC7,FW⟩:=NC.out k y hy;have r10:wr.cell? ⟨b2,o2+k,none⟩=some uy:=(hb.cell (p:=⟨b2,o2+k,none⟩) hb2).trans AC7;obtain⟨a,ha⟩:∃a,Aa[i+1+k]?=some a:=⟨_,AP (by omega)⟩;have ABU:(Aa.drop (i+1)).getD k 0=a:=by rw[Bg,Gj,ha];rfl
    have halt:=Kb.out a (Ar ha);have ET:=hid (Ik.out.2.2.1 y (Ar hy));have q10:=OD.out _ _ ha;obtain⟨gr,or,cr,hcr,q11,AC8⟩:=Ip.out a halt;have q12:=AC8 x NB;obtain⟨gr2,or2,cr2,pX,q13,AC9⟩:=Ip.out x NB;have hpd:=Uq.out y;have q14:=AC9 _ hpd;have Gf:=hid FW;have HY:=hid hy;have NP:=hid ABU;have hd2:decide ((k:Int)<(L.c.length:Int))=true:=by simp;omega
    have w1:IntKind.i64.wrap ((i:Int)+1)=(i:Int)+1:=AY _ (by omega);have w2:IntKind.i64.wrap ((i:Int)+1+(k:Int))=(i:Int)+1+(k:Int):=AY _ (by omega);have w9:(i:Int)+1+(k:Int)<(T.length:Int):=by omega
    have Co:(0:Int)≤(i:Int)+1+(k:Int):=by omega
    have gG:((i:Int)+1+(k:Int)).toNat=i+1+k:=by omega
    clear hb ha ABU AC8 AC9 FW hy AC7;go_upto_region 6 with fail;refine wZ w.heap.size w HB.out (by kernel_rfl) (by kernel_rfl) ?_;repeat(go_big_quiet_step ((first|(go_at_call 165;exact xM (Bw.out _ y _ ET.out Gf.out)))))
    refine wpQuiet_nil ?_;intro wy hw';have hby:Below w.heap.size w wy:=by obtain⟨x1,rfl⟩:=hw';exact x1.2
    clear hw';have Yr:=hid hby;clear hby;by_cases h2:pr Q a x=pr Q x (BO (pr Q) 0 (Aa.drop (i+1)) y)
    ·have hd3:((pr Q a x:Int) !=(pr Q x (BO (pr Q) 0 (Aa.drop (i+1)) y):Int))=false:=by rw[h2];simp
     have H2:=hid h2;clear h2;go_wp2_with fail;go_roundw;case rel=>exact⟨k+1,by omega,by go_num,hid (fun j y' hj hy'=>by
      rcases Fe j k with h|h
      ·exact hR.out j y' h hy'
      ·obtain rfl:j=k:=by omega
       obtain rfl:y=y':=Ng (HY.out.symm.trans hy');rw[NP.out];exact H2.out),Yr.out⟩
     case measure=>simp[intOf];omega
    ·have hd3:((pr Q a x:Int) !=(pr Q x (BO (pr Q) 0 (Aa.drop (i+1)) y):Int))=true:=by
      have:(pr Q a x:Int)≠(pr Q x (BO (pr Q) 0 (Aa.drop (i+1)) y):Int):=fun h=>h2 (by exact_mod_cast h);simpa using this
     have H2:=hid h2;clear h2;go_wp2_with fail;go_ret;exact FE (fun h=>H2.out (by have:=h.2 k y HY.out;rwa[NP.out]at this)) Yr.out
   ·obtain rfl:k=L.c.length:=by omega
    have hd2:decide ((L.c.length:Int)<(L.c.length:Int))=false:=by simp
    go_wp2_with fail;go_ret;exact TU ⟨H1.out,fun j y hy=>hR.out j y (Ak.1 hy).1 hy⟩ HB.out
 ·have hd:(((it (fun z=>pr Q z x) L.o 0:Nat):Int) !=((BO (pr Q) 0 (Aa.drop (i+1)) L.w:Nat):Int))=true:=by
   have:((it (fun z=>pr Q z x) L.o 0:Nat):Int)≠((BO (pr Q) 0 (Aa.drop (i+1)) L.w:Nat):Int):=fun h=>h1 (by exact_mod_cast h);simpa using this
  have H1:=hid h1;clear h1;go_wp2_with fail;go_ret;exact FE (fun h=>H1.out h.1) Cb.out
end Go.Proofs.YtlmlamcoeegkbaaGreat.RP
namespace Go.Proofs.YtlmlamcoeegkbaaGreat.Grow
open Go.Proofs.YtlmlamcoeegkbaaGreat AJ CV IM JD RP
def G7 (Q:Tw):Tw→List Nat→Nat→Prop
 |L::T,x::im,c=>∃j,j<L.o∧∃s,G7 Q T im s∧it (pr Q x) j s=c
 |_,_,c=>c=0
theorem Zu {Q:Tw}(hQ:Wf Q):∀{T:Tw} {im:List Nat} {c:Nat},G7 Q T im c→c<sz Q
 |[],_,c,h=>by simp only[G7]at h;rw[h];exact F8 hQ
 |_::_,[],c,h=>by simp only[G7]at h;rw[h];exact F8 hQ
 |L::T,x::im,c,⟨j,hj,s,hs,e⟩=>by
  cases j with
  |zero=>rw[←e];exact Zu hQ hs
  |succ j=>rw[←e,F7];exact J2 hQ _ _
open Classical in
noncomputable def grow (Q T:Tw):Nat→List Nat→List (List Nat)
 |0,im=>[im]
 |k+1,im=>(List.range (sz Q)).flatMap fun x=>if¬G7 Q (T.drop (k+1)) im x∧Fits Q (T.getD k ⟨0,[],[]⟩) im x then grow Q T k (x::im)else []
open Classical in
noncomputable def FJ (Q T:Tw)(k:Nat)(im:List Nat)(n:Nat):List (List Nat):=
 (List.range n).flatMap fun x=>if¬G7 Q (T.drop (k+1)) im x∧Fits Q (T.getD k ⟨0,[],[]⟩) im x then grow Q T k (x::im)else []
theorem jT (Q T:Tw)(k:Nat)(im:List Nat):FJ Q T k im 0=[]:=rfl
theorem je (Q T:Tw)(k:Nat)(im:List Nat):FJ Q T k im (sz Q)=grow Q T (k+1) im:=rfl
theorem TP {Q T:Tw}{k:Nat}{im:List Nat}{x:Nat}(h:¬G7 Q (T.drop (k+1)) im x∧Fits Q (T.getD k ⟨0,[],[]⟩) im x):FJ Q T k im (x+1)=FJ Q T k im x++grow Q T k (x::im):=by
 simp only[FJ,Tz,List.flatMap_append,KS,List.flatMap_nil,LM];rw[CU h]
theorem ZJ {Q T:Tw}{k:Nat}{im:List Nat}{x:Nat}(h:¬(¬G7 Q (T.drop (k+1)) im x∧Fits Q (T.getD k ⟨0,[],[]⟩) im x)):FJ Q T k im (x+1)=FJ Q T k im x:=by
 simp only[FJ,Tz,List.flatMap_append,KS,List.flatMap_nil,LM];rw[BU h,LM]
theorem AEZ (Q T:Tw)(k:Nat)(im:List Nat){m n:Nat}(h:m≤n):∃r,FJ Q T k im n=FJ Q T k im m++r:=by
 induction n with
 |zero=>
  obtain rfl:m=0:=by omega
  exact⟨[],by simp⟩
 |succ n ih=>
  rcases Fe n m with h'|h'
  ·obtain rfl:m=n+1:=by omega
   exact⟨[],by simp⟩
  ·obtain⟨r,hr⟩:=ih h';by_cases hc:¬G7 Q (T.drop (k+1)) im n∧Fits Q (T.getD k ⟨0,[],[]⟩) im n
   ·rw[TP hc,hr];exact⟨r++grow Q T k (n::im),by simp⟩
   ·rw[ZJ hc];exact⟨r,hr⟩
def KY (b:Bool)(l:List (List Nat)):List (List Nat):=if b then l.take 1 else l
theorem AEa (l:List (List Nat)):KY false l=l:=rfl
theorem xA (Q T:Tw)(hz:sz Q≤27)(k:Nat)(hk:∀im,(grow Q T k im).length≤27^k)(im:List Nat)(n:Nat):(FJ Q T k im n).length≤n*27^k:=by
 induction n with
 |zero=>simp[jT]
 |succ n ih=>
  by_cases hc:¬G7 Q (T.drop (k+1)) im n∧Fits Q (T.getD k ⟨0,[],[]⟩) im n
  ·rw[TP hc,Cm,Nat.add_mul,Nat.one_mul];exact Nat.add_le_add ih (hk _)
  ·rw[ZJ hc];exact Ab ih (Nn _ (by omega))
theorem jR (Q T:Tw)(hz:sz Q≤27)(k:Nat):∀im,(grow Q T k im).length≤27^k:=by
 induction k with
 |zero=>intro im;simp[grow]
 |succ k ih=>
  intro im;rw[←je];refine Ab (xA Q T hz k ih im (sz Q)) ?_;rw[LC,Mg];exact Z5 _ hz
end Go.Proofs.YtlmlamcoeegkbaaGreat.Grow
namespace Go.Proofs.YtlmlamcoeegkbaaGreat.F9
open Go.Proofs.YtlmlamcoeegkbaaGreat AJ Gen Dq CV IM JD RP Grow
theorem RQ {Q:Tw}(hQ:Wf Q)(i j:Nat):at_ Q (pr Q i j)=mul Q (at_ Q i) (at_ Q j):=Jz hQ (Dl hQ (Cu hQ i) (Cu hQ j))
theorem RA {Q:Tw}(hQ:Wf Q):at_ Q 0=AJ.one Q:=by
 rw[←AGe (T:=Q)];exact Jz hQ (Dm hQ)
theorem Zv {Q:Tw}(hQ:Wf Q)(c a u:Nat):at_ Q (it (fun z=>pr Q z c) a u)=it (fun z=>mul Q z (at_ Q c)) a (at_ Q u):=by
 induction a generalizing u with
 |zero=>rfl
 |succ a ih=>rw[it,it,ih,RQ hQ]
theorem AAs {Q:Tw}(hQ:Wf Q)(c a u:Nat):at_ Q (it (pr Q c) a u)=it (mul Q (at_ Q c)) a (at_ Q u):=by
 induction a generalizing u with
 |zero=>rfl
 |succ a ih=>rw[it,it,ih,RQ hQ]
theorem zO {Q:Tw}(hQ:Wf Q)(im es:List Nat)(u:Nat):at_ Q (BO (pr Q) u im es)=BO (mul Q) (at_ Q u) (im.map (at_ Q)) es:=by
 induction im generalizing u es with
 |nil=>cases es<;>rfl
 |cons c im ih=>cases es with
  |nil=>rfl
  |cons a es=>rw[FN,BO,BO,ih,Zv hQ]
theorem zQ {Q:Tw}(hQ:Wf Q)(hg:AJ.Good Q){x u:List Nat}(hx:El Q x)(hu:El Q u)(a:Nat):it (mul Q x) a u=mul Q (npow (mul Q) (AJ.one Q) x a) u:=by
 have G:=Ba hQ hg
 induction a generalizing u with
 |zero=>exact(G.eL hu).symm
 |succ a ih=>rw[it,ih (G.cl hx hu),Dy,G.Ae (G.npow hx a) hx hu]
theorem Q6 {Q:Tw}{i j:Nat}(hi:i<sz Q)(hj:j<sz Q):i=j↔at_ Q i=at_ Q j:=⟨fun h=>by rw[h],fun h=>Zj hi hj h⟩
theorem UM {Q:Tw}(hQ:Wf Q){f:Nat→Nat}(hf:∀z,f z<sz Q)(a u:Nat)(hu:u<sz Q):it f a u<sz Q:=I8 (· <sz Q) f (fun z _=>hf z) a u hu
theorem zR {Q:Tw}(hQ:Wf Q)(im es:List Nat)(u:Nat)(hu:u<sz Q):BO (pr Q) u im es<sz Q:=by
 induction im generalizing u es with
 |nil=>cases es<;>exact hu
 |cons c im ih=>cases es with
  |nil=>exact hu
  |cons a es=>exact ih es _ (UM hQ (fun z=>J2 hQ _ _) a u hu)
def IL (Q:Tw)(L:Lv)(im:List (List Nat))(x:List Nat):Prop:=
 npow (mul Q) (AJ.one Q) x L.o=ev (mul Q) (AJ.one Q) im L.w∧∀k y,L.c[k]?=some y→mul Q (im.getD k (AJ.one Q)) x=mul Q x (ev (mul Q) (AJ.one Q) im y)
theorem zS {Q:Tw}(hQ:Wf Q)(hg:AJ.Good Q)(L:Lv)(im:List Nat)(x:Nat):Fits Q L im x↔IL Q L (im.map (at_ Q)) (at_ Q x):=by
 have G:=Ba hQ hg;have h0:=F8 hQ;have hme:∀c∈im.map (at_ Q),El Q c:=by intro c hc;obtain⟨i,_,rfl⟩:=CX.1 hc;exact Cu hQ i
 have hev:∀es,at_ Q (BO (pr Q) 0 im es)=ev (mul Q) (AJ.one Q) (im.map (at_ Q)) es:=fun es=>by rw[zO hQ,RA hQ,G.Na hme]
 have hgd:∀k,at_ Q (im.getD k 0)=(im.map (at_ Q)).getD k (AJ.one Q):=fun k=>by
  rw[Bg,Bg,Em];cases im[k]? with
  |none=>exact RA hQ
  |some i=>rfl
 unfold Fits IL;refine and_congr ?_ (forall_congr' fun k=>forall_congr' fun y=>imp_congr_right fun _=>?_)
 ·rw[Q6 (UM hQ (fun z=>J2 hQ _ _) _ _ h0) (zR hQ _ _ _ h0),Zv hQ,RA hQ,hev];rfl
 ·rw[Q6 (J2 hQ _ _) (J2 hQ _ _),RQ hQ,RQ hQ,hev,hgd]
theorem AAO {Q:Tw}(hQ:Wf Q)(hg:AJ.Good Q):∀{T:Tw} {im:List Nat} {c:Nat},im.length=T.length→c<sz Q→(G7 Q T im c↔∃z,El T z∧ev (mul Q) (AJ.one Q) (im.map (at_ Q)) z=at_ Q c)
 |[],[],c,_,hc=>by
  simp only[G7];constructor
  ·rintro rfl;exact⟨[],trivial,(RA hQ).symm⟩
  ·rintro⟨z,_,h⟩;refine(Q6 hc (F8 hQ)).2 ?_;rw[RA hQ];cases z<;>exact h.symm
 |[],_::_,c,h,hc=>by simp at h
 |_::_,[],c,h,hc=>by simp at h
 |L::T,x::im,c,h,hc=>by
  have G:=Ba hQ hg;have ih:=fun {s:Nat} (hs:s<sz Q)=>AAO hQ hg (T:=T) (im:=im) (c:=s) (by simpa using h) hs;simp only[G7];constructor
  ·rintro⟨j,hj,s,hs,rfl⟩;obtain⟨z,hz,e⟩:=(ih (Zu hQ hs)).1 hs;refine⟨j::z,⟨hj,hz⟩,?_⟩;rw[AAs hQ,zQ hQ hg (Cu hQ x) (Cu hQ s),←e];rfl
  ·rintro⟨z,hz,e⟩;cases z with
   |nil=>exact hz.elim
   |cons j z=>
    have hE:El Q (ev (mul Q) (AJ.one Q) (im.map (at_ Q)) z):=G.ev (by intro c hc;obtain⟨i,_,rfl⟩:=CX.1 hc;exact Cu hQ i) z;have hlt:=He hE hQ;refine⟨j,hz.1,num Q (ev (mul Q) (AJ.one Q) (im.map (at_ Q)) z),(ih hlt).2 ⟨z,hz.2,(Jz hQ hE).symm⟩,?_⟩;have hl:it (pr Q x) j (num Q (ev (mul Q) (AJ.one Q) (im.map (at_ Q)) z))<sz Q:=UM hQ (fun z=>J2 hQ _ _) _ _ hlt;refine(Q6 hl hc).2 ?_;rw[AAs hQ,zQ hQ hg (Cu hQ x) (Cu hQ _),Jz hQ hE,←e];rfl
open Classical in
noncomputable def Dz (Q T:Tw):Nat→List (List Nat)→List (List (List Nat))
 |0,im=>[im]
 |k+1,im=>(List.range (sz Q)).flatMap fun t=>if¬Gen (mul Q) (AJ.one Q) im (at_ Q t)∧IL Q (T.getD k ⟨0,[],[]⟩) im (at_ Q t)then Dz Q T k (at_ Q t::im)else []
theorem zT {Q:Tw}{L:Lv}{T:Tw}(hL:L.c.length=T.length){im:List (List Nat)}{x:List Nat}(hR:Rel (mul Q) (AJ.one Q) T im)(h:IL Q L im x):Rel (mul Q) (AJ.one Q) (L::T) (x::im):=by
 refine⟨h.1,fun j h1 h2=>?_,hR⟩;have:=h.2 j L.c[j] (AP h2);rw[Bg,AP h1]at this;exact this
theorem xX {Q T:Tw}(hQ:Wf Q)(hg:AJ.Good Q)(hT:Wf T):∀k,k≤T.length→∀im:List Nat,Rel (mul Q) (AJ.one Q) (T.drop k) (im.map (at_ Q))→
  (grow Q T k im).map (fun l=>l.map (at_ Q))=Dz Q T k (im.map (at_ Q))
 |0,_,im,_=>rfl
 |k+1,hk,im,hR=>by
  classical
  obtain⟨L,hL⟩:∃L,T[k]?=some L:=⟨_,AP (by omega)⟩;have vT:T.getD k ⟨0,[],[]⟩=L:=by rw[Bg,hL];rfl
  have hl:=lvl' hT hL;have hme:∀c∈im.map (at_ Q),El Q c:=by intro c hc;obtain⟨i,_,rfl⟩:=CX.1 hc;exact Cu hQ i
  have hlen:im.length=(T.drop (k+1)).length:=by have:=TN hR;simpa using this
  rw[grow,Dz,List.map_flatMap];have hcg:∀t∈List.range (sz Q),List.map (fun l=>l.map (at_ Q)) (if¬G7 Q (T.drop (k+1)) im t∧Fits Q (T.getD k ⟨0,[],[]⟩) im t then grow Q T k (t::im)else [])=
    if¬Gen (mul Q) (AJ.one Q) (im.map (at_ Q)) (at_ Q t)∧IL Q (T.getD k ⟨0,[],[]⟩) (im.map (at_ Q)) (at_ Q t)then Dz Q T k (at_ Q t::im.map (at_ Q))else []:=fun t ht=>by
   have ht':t<sz Q:=Hq.1 ht;have e1:=AAO hQ hg hlen ht';have e2:=AAZ hQ hg hl.1 hme hR (at_ Q t);have e3:=zS hQ hg (T.getD k ⟨0,[],[]⟩) im t;by_cases hc:¬G7 Q (T.drop (k+1)) im t∧Fits Q (T.getD k ⟨0,[],[]⟩) im t
   ·have hc':¬Gen (mul Q) (AJ.one Q) (im.map (at_ Q)) (at_ Q t)∧IL Q (T.getD k ⟨0,[],[]⟩) (im.map (at_ Q)) (at_ Q t):=⟨fun h=>hc.1 (e1.2 (e2.1 h)),e3.1 hc.2⟩;rw[CU hc,CU hc'];refine xX hQ hg hT k (by omega) (t::im) ?_;rw[FZ hL];refine zT (by rw[hl.2.1];simp) hR ?_;rw[←vT];exact hc'.2
   ·have hc':¬(¬Gen (mul Q) (AJ.one Q) (im.map (at_ Q)) (at_ Q t)∧IL Q (T.getD k ⟨0,[],[]⟩) (im.map (at_ Q)) (at_ Q t)):=fun h=>hc ⟨fun h'=>h.1 (e2.2 (e1.1 h')),e3.2 h.2⟩;rw[BU hc,BU hc'];rfl
  have hfm:∀(l:List Nat) (F H:Nat→List (List (List Nat))),(∀t∈l,F t=H t)→l.flatMap F=l.flatMap H:=by
   intro l F H h
   induction l with
   |nil=>rfl
   |cons a l ih=>rw[KS,KS,h a CE,ih (fun t ht=>h t (Ca _ ht))]
  exact hfm _ _ _ hcg
end Go.Proofs.YtlmlamcoeegkbaaGreat.F9
namespace Go.Proofs.YtlmlamcoeegkbaaGreat.PU
open Go.Proofs.YtlmlamcoeegkbaaGreat AJ Gen Dq CV F9
structure DK (Q T:Tw)(cs:List (List Nat)):Prop where
 el:∀c∈cs,El Q c
 rel:Rel (mul Q) (AJ.one Q) T cs
 inj:∀x y,El T x→El T y→ev (mul Q) (AJ.one Q) cs x=ev (mul Q) (AJ.one Q) cs y→x=y
def Yt (T:Tw):Prop:=∀L∈T,L.o=2∨L.o=3∨L.o=5∨L.o=7
theorem j3 {o d:Nat}(ho:o=2∨o=3∨o=5∨o=7)(h0:0<d)(hd:d<o):∃m n,d*m=1+o*n:=by
 have h:∀o∈[2,3,5,7],∀d,d<o→0<d→∃m,m<8∧∃n,n<8∧d*m=1+o*n:=by decide
 obtain⟨m,_,n,_,e⟩:=h o (by rcases ho with rfl|rfl|rfl|rfl<;>simp) d hd h0;exact⟨m,n,e⟩
theorem RF {Q:Tw}(hQ:Wf Q)(hg:AJ.Good Q):∀(cs:List (List Nat)) (n:Nat),ev (mul Q) (AJ.one Q) cs (List.replicate n 0)=AJ.one Q
 |[],n=>by cases n<;>rfl
 |d::ds,0=>rfl
 |d::ds,n+1=>(Bp (mul Q _) (RF hQ hg ds n)).trans (by have G:=Ba hQ hg;rw[Jw,G.eL G.me])
theorem Za {Q:Tw}(hQ:Wf Q)(hg:AJ.Good Q){x:List Nat}{im:List (List Nat)}(hi:∀c∈im,El Q c)(z:List Nat):ev (mul Q) (AJ.one Q) (x::im) (0::z)=ev (mul Q) (AJ.one Q) im z:=by
 have G:=Ba hQ hg;show mul Q (npow (mul Q) (AJ.one Q) x 0) _=_;rw[Jw,G.eL (G.ev hi z)]
def Im (Q T:Tw)(cs:List (List Nat))(c:List Nat):Prop:=∃z,El T z∧ev (mul Q) (AJ.one Q) cs z=c
theorem lX {Q T:Tw}(hQ:Wf Q)(hg:AJ.Good Q)(hT:Wf T)(De:AJ.Good T){im:List (List Nat)}(hi:∀c∈im,El Q c)(hR:Rel (mul Q) (AJ.one Q) T im){c v:List Nat}(hc:El Q c)(h:Im Q T im (mul Q c v))(hv:Im Q T im v):Im Q T im c:=by
 have G:=Ba hQ hg;have GT:=Ba hT De;obtain⟨z,hz,e⟩:=h;obtain⟨y,hy,rfl⟩:=hv;obtain⟨y',hy',h1,h2⟩:=GT.iv hy;refine⟨mul T z y',GT.cl hz hy',?_⟩;refine G.kU (G.ev hi y) (G.ev hi _) hc ?_;rw[←e,←G.SV hT hi hR (GT.cl hz hy') hy,GT.Ae hz hy' hy,h2,GT.eR hz]
theorem AAt {Q T:Tw}(hQ:Wf Q)(hg:AJ.Good Q)(hT:Wf T){im:List (List Nat)}(hi:∀c∈im,El Q c)(hR:Rel (mul Q) (AJ.one Q) T im){c v:List Nat}(h:Im Q T im c)(hv:Im Q T im v):Im Q T im (mul Q c v):=by
 have G:=Ba hQ hg;obtain⟨z,hz,rfl⟩:=h;obtain⟨y,hy,rfl⟩:=hv;exact⟨mul T z y,Dl hT hz hy,G.SV hT hi hR hz hy⟩
theorem lY {Q T:Tw}(hQ:Wf Q)(hg:AJ.Good Q)(hT:Wf T){im:List (List Nat)}:Im Q T im (AJ.one Q):=⟨AJ.one T,Dm hT,RF hQ hg im _⟩
theorem lZ {Q T:Tw}(hQ:Wf Q)(hg:AJ.Good Q)(hT:Wf T){im:List (List Nat)}(hi:∀c∈im,El Q c)(hR:Rel (mul Q) (AJ.one Q) T im){c:List Nat}(h:Im Q T im c):∀k,Im Q T im (npow (mul Q) (AJ.one Q) c k)
 |0=>lY hQ hg hT
 |k+1=>by rw[Dy];exact AAt hQ hg hT hi hR (lZ hQ hg hT hi hR h k) h
theorem WC {Q T:Tw}(hQ:Wf Q)(hg:AJ.Good Q)(hT:Wf T){im:List (List Nat)}(hi:∀c∈im,El Q c)(hR:Rel (mul Q) (AJ.one Q) T im)(c:List Nat):Gen (mul Q) (AJ.one Q) im c↔Im Q T im c:=AAZ hQ hg hT hi hR c
theorem AAu {Q T:Tw}{L:Lv}(hQ:Wf Q)(hg:AJ.Good Q)(hT:Wf (L::T))(De:AJ.Good T)(hp:L.o=2∨L.o=3∨L.o=5∨L.o=7){im:List (List Nat)}{x:List Nat}(hi:∀c∈im,El Q c)(hR:Rel (mul Q) (AJ.one Q) T im)(hx:El Q x)(hF:IL Q L im x)(hn:¬Gen (mul Q) (AJ.one Q) im x)
  {a b:Nat} {z y:List Nat} (hz:El T z) (hy:El T y) (hab:a<b) (hb:b<L.o) (e:mul Q (npow (mul Q) (AJ.one Q) x a) (ev (mul Q) (AJ.one Q) im z)=mul Q (npow (mul Q) (AJ.one Q) x b) (ev (mul Q) (AJ.one Q) im y)):False:=by
 have G:=Ba hQ hg;have hT':=hT.2.2.2.2;obtain⟨m,n,hmn⟩:=j3 hp (show 0<b-a by omega) (show b-a<L.o by omega);have ha:=G.npow hx a;have hd:=G.npow hx (b-a);rw[show b=a+(b-a) by omega,G.ML hx,G.Ae ha hd (G.ev hi y)]at e;have e1:=G.Od ha (G.ev hi z) (G.cl hd (G.ev hi y)) e;have h1:Im Q T im (npow (mul Q) (AJ.one Q) x (b-a)):=lX hQ hg hT' De hi hR hd ⟨z,hz,e1⟩ ⟨y,hy,rfl⟩;have h2:Im Q T im (npow (mul Q) (AJ.one Q) x (1+L.o*n)):=by
  have:=lZ hQ hg hT' hi hR h1 m;rw[Vn G hx,hmn]at this;exact this
 have h3:Im Q T im (npow (mul Q) (AJ.one Q) x (L.o*n)):=by
  rw[←Vn G hx,hF.1];exact lZ hQ hg hT' hi hR ⟨L.w,hT.2.1,rfl⟩ n
 rw[G.ML hx,G.NY hx]at h2;exact hn ((WC hQ hg hT' hi hR x).2 (lX hQ hg hT' De hi hR hx h2 h3))
theorem Oc {Q T:Tw}{L:Lv}(hQ:Wf Q)(hg:AJ.Good Q)(hT:Wf (L::T))(De:AJ.Good T)(hp:L.o=2∨L.o=3∨L.o=5∨L.o=7){im:List (List Nat)}{x:List Nat}:
  DK Q (L::T) (x::im)↔DK Q T im∧El Q x∧IL Q L im x∧¬Gen (mul Q) (AJ.one Q) im x:=by
 have G:=Ba hQ hg;have hT':=hT.2.2.2.2;have ho:=hT.1;constructor
 ·rintro⟨hel,⟨r1,r2,r3⟩,hinj⟩;have hi:∀c∈im,El Q c:=fun c hc=>hel c (Ca _ hc);have hx:=hel x CE;have hl:=TN r3;have hE:DK Q T im:=⟨hi,r3,fun z y hz hy e=>by
   have:=hinj (0::z) (0::y) ⟨by omega,hz⟩ ⟨by omega,hy⟩ (by rw[Za hQ hg hi,Za hQ hg hi,e]);simpa using this⟩
  refine⟨hE,hx,⟨r1,fun k y hk=>?_⟩,fun h=>?_⟩
  ·have hkl:=(Ak.1 hk).1;have hkm:k<im.length:=by rw[hl,←hT.2.2.1];exact hkl
   have:=r2 k hkm hkl;rw[Bg,AP hkm];rw[(Ak.1 hk).2]at this;exact this
  ·obtain⟨z,hz,e⟩:=(WC hQ hg hT' hi r3 x).1 h;have:=hinj (1::AJ.one T) (0::z) ⟨by omega,Dm hT'⟩ ⟨by omega,hz⟩ (by
    rw[Za hQ hg hi,e];show mul Q (npow (mul Q) (AJ.one Q) x 1) (ev (mul Q) (AJ.one Q) im (List.replicate T.length 0))=x;rw[RF hQ hg,G.NY hx,G.eR hx])
   simp at this
 ·rintro⟨hE,hx,hF,hn⟩;refine⟨fun c hc=>?_,zT hT.2.2.1 hE.rel hF,fun u v hu hv e=>?_⟩
  ·rcases GR.1 hc with rfl|hc
   ·exact hx
   ·exact hE.el c hc
  ·cases u with
   |nil=>exact hu.elim
   |cons a z=>cases v with
    |nil=>exact hv.elim
    |cons b y=>
     have e':mul Q (npow (mul Q) (AJ.one Q) x a) (ev (mul Q) (AJ.one Q) im z)=mul Q (npow (mul Q) (AJ.one Q) x b) (ev (mul Q) (AJ.one Q) im y):=e;rcases RH a b with h|h|h
     ·exact(AAu hQ hg hT De hp hE.el hE.rel hx hF hn hu.2 hv.2 h hv.1 e').elim
     ·subst h;have:=hE.inj z y hu.2 hv.2 (G.Od (G.npow hx a) (G.ev hE.el z) (G.ev hE.el y) e');rw[this]
     ·exact(AAu hQ hg hT De hp hE.el hE.rel hx hF hn hv.2 hu.2 h hu.1 e'.symm).elim
theorem lD {Q:Tw}:DK Q [] []:=⟨by simp,trivial,fun x y hx hy _=>by
 cases x with
 |nil=>cases y with
  |nil=>rfl
  |cons b y=>exact hy.elim
 |cons a x=>exact hx.elim⟩
theorem DK.len {Q T:Tw}{cs:List (List Nat)}(h:DK Q T cs):cs.length=T.length:=TN h.rel
theorem zU {Q T:Tw}(hQ:Wf Q)(hg:AJ.Good Q)(hT:Wf T)(De:AJ.Good T)(hp:Yt T){cs:List (List Nat)}(h:DK Q T cs):∀k,k≤T.length→DK Q (T.drop k) (cs.drop k)
 |0,_=>h
 |k+1,hk=>by
  have ih:=zU hQ hg hT De hp h k (by omega);obtain⟨L,hL⟩:∃L,T[k]?=some L:=⟨_,AP (by omega)⟩;have hkc:k<cs.length:=by rw[h.len];omega
  have hw:=Ex hT k;have hgd:=OZ De (k+1);rw[FZ hL]at ih hw;rw[EZ hkc]at ih;exact((Oc hQ hg hw hgd (hp L (Ar hL))).1 ih).1
theorem j4 {Q T:Tw}(hQ:Wf Q)(hg:AJ.Good Q)(hT:Wf T)(De:AJ.Good T)(hp:Yt T):∀k,k≤T.length→∀im,DK Q (T.drop k) im→∀cs,cs∈Dz Q T k im↔DK Q T cs∧cs.drop k=im
 |0,_,im,h,cs=>by
  rw[Dz,Gi,List.drop_zero];constructor
  ·rintro rfl;exact⟨h,rfl⟩
  ·exact fun h=>h.2
 |k+1,hk,im,h,cs=>by
  obtain⟨L,hL⟩:∃L,T[k]?=some L:=⟨_,AP (by omega)⟩;have vT:T.getD k ⟨0,[],[]⟩=L:=by rw[Bg,hL];rfl
  have hw:=Ex hT k;have hgd:=OZ De (k+1);rw[FZ hL]at hw;have hpk:=hp L (Ar hL);rw[Dz,List.mem_flatMap,vT];constructor
  ·rintro⟨t,ht,hm⟩;split at hm
   ·next hc=>
    have hE:DK Q (T.drop k) (at_ Q t::im):=by
     rw[FZ hL];exact(Oc hQ hg hw hgd hpk).2 ⟨h,Cu hQ t,hc.2,hc.1⟩
    have:=(j4 hQ hg hT De hp k (by omega) _ hE cs).1 hm;exact⟨this.1,by rw[←FM,this.2];rfl⟩
   ·simp at hm
  ·rintro⟨hE,hd⟩;have hkc:k<cs.length:=by rw[hE.len];omega
   have hEk:=zU hQ hg hT De hp hE k (by omega);rw[FZ hL,EZ hkc,hd]at hEk;have hc:=(Oc hQ hg hw hgd hpk).1 hEk;have hat:=Jz hQ hc.2.1;refine⟨num Q cs[k],Hq.2 (He hc.2.1 hQ),?_⟩;rw[hat,CU ⟨hc.2.2.2,hc.2.2.1⟩];refine(j4 hQ hg hT De hp k (by omega) _ (by rw[FZ hL];exact hEk) cs).2 ⟨hE,?_⟩;rw[EZ hkc,hd]
end Go.Proofs.YtlmlamcoeegkbaaGreat.PU
namespace Go.Proofs.YtlmlamcoeegkbaaGreat.Yu
open Go.Proofs.YtlmlamcoeegkbaaGreat AJ Gen Dq CV F9 PU
section
variable {α β:Type} {M:α→Prop} {m:α→α→α} {e:α} {m':β→β→β} {e':β}
theorem zV (G:CR M m e)(f:α→β)(he:f e=e')(hf:∀a b,M a→M b→f (m a b)=m' (f a) (f b)){c:α}(hc:M c):∀k,f (npow m e c k)=npow m' e' (f c) k
 |0=>he
 |k+1=>by rw[Dy,hf _ _ (G.npow hc k) hc,zV G f he hf hc k,Dy]
theorem Tk (G:CR M m e)(f:α→β)(he:f e=e')(hf:∀a b,M a→M b→f (m a b)=m' (f a) (f b))(hi:∀a b,M a→M b→f a=f b→a=b):∀(T:Tw) (cs:List α),(∀c∈cs,M c)→(Rel m' e' T (cs.map f)↔Rel m e T cs)
 |[],[],_=>Iff.rfl
 |[],_::_,_=>Iff.rfl
 |_::_,[],_=>Iff.rfl
 |L::T,c::cs,hc=>by
  have h1:=hc c CE;have h2:∀d∈cs,M d:=fun d hd=>hc d (Ca _ hd);have hev:∀x,ev m' e' (cs.map f) x=f (ev m e cs x):=fun x=>(Nc G f he hf h2 x).symm;rw[FN];show(_∧_∧_)↔(_∧_∧_);refine and_congr ?_ (and_congr ?_ (Tk G f he hf hi T cs h2))
  ·rw[hev,←zV G f he hf h1];exact⟨fun h=>hi _ _ (G.npow h1 _) (G.ev h2 _) h,fun h=>by rw[h]⟩
  ·constructor
   ·intro h j hj hj';have:=h j (by simpa using hj) hj';rw[Nh,hev,←hf _ _ (h2 _ (Je hj)) h1,←hf _ _ h1 (G.ev h2 _)]at this;exact hi _ _ (G.cl (h2 _ (Je hj)) h1) (G.cl h1 (G.ev h2 _)) this
   ·intro h j hj hj';have hj2:j<cs.length:=by simpa using hj
    have:=h j hj2 hj';rw[Nh,hev,←hf _ _ (h2 _ (Je hj2)) h1,←hf _ _ h1 (G.ev h2 _),this]
end
theorem AAP {Q:Tw}(hQ:Wf Q)(hg:AJ.Good Q):∀(cs:List (List Nat)) (T:Tw),(∀c∈cs,El Q c)→cs.length=T.length→∀j c,cs[j]?=some c→ev (mul Q) (AJ.one Q) cs (unit T j)=c
 |[],T,_,_,j,c,hj=>by simp at hj
 |d::ds,[],_,hl,j,c,hj=>by simp at hl
 |d::ds,L::T,hd,hl,j,c,hj=>by
  have G:=Ba hQ hg;have hd1:=hd d CE;cases j with
  |zero=>
   simp only[A8,EN]at hj;subst hj;rw[Vg];show mul Q (npow (mul Q) (AJ.one Q) d 1) (ev (mul Q) (AJ.one Q) ds (List.replicate T.length 0))=d;rw[G.NY hd1,RF hQ hg,G.eR hd1]
  |succ j=>
   rw[ZE,Za hQ hg (fun c hc=>hd c (Ca _ hc))];exact AAP hQ hg ds T (fun x hx=>hd x (Ca _ hx)) (by simpa using hl) j c (by simpa using hj)
theorem jU {α:Type}(m:α→α→α):∀(cs:List α) (u:α) (n:Nat),BO m u cs (List.replicate n 0)=u
 |[],u,n=>by cases n<;>rfl
 |c::cs,u,0=>rfl
 |c::cs,u,n+1=>jU m cs u n
theorem AHk {L:Lv}{T:Tw}(h:2≤L.o)(y z:List Nat):mul (L::T) (0::y) (0::z)=0::mul T y z:=by
 rw[I6,BU (by omega)];rfl
theorem xk {L:Lv}{T:Tw}(h:Wf (L::T))(hg:AJ.Good T):∀k,k<L.o→npow (mul (L::T)) (AJ.one (L::T)) (unit (L::T) 0) k=k::AJ.one T
 |0,_=>rfl
 |k+1,hk=>by
  have hE:El (L::T) (k::AJ.one T):=⟨by omega,Dm h.2.2.2.2⟩;rw[Dy,xk h hg k (by omega),←V6 h hg hE,tg,BU (by omega),BU (by omega)];exact Bp _ (jU _ _ _ _)
theorem AFB {L:Lv}{T:Tw}(h:Wf (L::T))(hg:AJ.Good T):npow (mul (L::T)) (AJ.one (L::T)) (unit (L::T) 0) L.o=0::L.w:=by
 obtain⟨k,hk⟩:∃k,L.o=k+1:=⟨L.o-1,by have:=h.1;omega⟩;have hE:El (L::T) (k::AJ.one T):=⟨by omega,Dm h.2.2.2.2⟩;rw[hk,Dy,xk h hg k (by omega),←V6 h hg hE,tg,CU (by omega),CU (by omega)];exact Bp _ (jU _ _ _ _)
theorem zW:∀{T:Tw},Wf T→AJ.Good T→Rel (mul T) (AJ.one T) T (Dr T)
 |[],_,_=>trivial
 |L::T,h,hg=>by
  have h5:=h.2.2.2.2;have h4:=h.2.2.2.1;have g0:=hg.1;have G:=Ba h5 g0;have hm0:=AHk (L:=L) (T:=T) h.1;have hge:=Vt h5;have hev:∀x,El T x→ev (mul (L::T)) (AJ.one (L::T)) ((Dr T).map (0:: ·)) x=0::x:=fun x hx=>by
   rw[←Nc (f:=(0:: ·)) (m':=mul (L::T)) (e':=AJ.one (L::T)) G rfl (fun a b _ _=>(hm0 a b).symm) hge x,ZV h5 g0 hx]
  rw[yA];refine⟨?_,fun j hj hj'=>?_,?_⟩
  ·rw[AFB h g0,hev _ h.2.1]
  ·have qV:j<T.length:=by simpa[Dr]using hj
   have Qs:=h4 _ (Je hj');have hgj:(Dr T)[j]'(by simpa[Dr]using qV)=unit T j:=by simp[Dr]
   have htg:=V6 (x:=0::unit T j) h g0 ⟨by have:=h.1;omega,LB h5 j⟩;rw[Nh,hgj,hev _ Qs,←htg,tg,BU (by have:=h.1;omega),BU (by have:=h.1;omega),Vg,I6,BU (by have:=h.1;omega)];show 1::BO (mul T) (AJ.one T) L.c (unit T j)=1::mul T (AJ.one T) L.c[j];rw[G.Na h4,G.eL Qs,AAP h5 g0 L.c T h4 h.2.2.1 j L.c[j] (AP hj')]
  ·refine(Tk G (0:: ·) rfl (fun a b _ _=>(hm0 a b).symm) (fun a b _ _ hab=>by simpa using hab) T (Dr T) hge).2 (zW h5 g0)
theorem AAv {T:Tw}(h:Wf T)(hg:AJ.Good T):DK T T (Dr T):=⟨Vt h,zW h hg,fun x y hx hy e=>by rwa[ZV h hg hx,ZV h hg hy]at e⟩
abbrev phi (Q:Tw)(u:List (List Nat))(z:List Nat):List Nat:=ev (mul Q) (AJ.one Q) u z
theorem comp {Q S T:Tw}(hQ:Wf Q)(hg:AJ.Good Q)(hS:Wf S)(Ef:AJ.Good S){u cs:List (List Nat)}(hu:DK Q S u)(hc:DK S T cs):DK Q T (cs.map (phi Q u)):=by
 have G:=Ba hQ hg;have GS:=Ba hS Ef;have he:phi Q u (AJ.one S)=AJ.one Q:=RF hQ hg u _;have hf:∀a b,El S a→El S b→phi Q u (mul S a b)=mul Q (phi Q u a) (phi Q u b):=fun a b ha hb=>G.SV hS hu.el hu.rel ha hb;refine⟨fun c h=>?_,(Tk GS (phi Q u) he hf (fun a b ha hb h=>hu.inj a b ha hb h) T cs hc.el).2 hc.rel,fun x y hx hy e=>?_⟩
 ·obtain⟨d,_,rfl⟩:=CX.1 h;exact G.ev hu.el d
 ·rw[←Nc GS (phi Q u) he hf hc.el,←Nc GS (phi Q u) he hf hc.el]at e;exact hc.inj x y hx hy (hu.inj _ _ (GS.ev hc.el x) (GS.ev hc.el y) e)
theorem factor {Q S T:Tw}(hQ:Wf Q)(hg:AJ.Good Q)(hS:Wf S)(Ef:AJ.Good S){u es:List (List Nat)}(hu:DK Q S u)(hE:DK Q T es)(hin:∀c∈es,Im Q S u c):∃cs,DK S T cs∧es=cs.map (phi Q u):=by
 classical
 have G:=Ba hQ hg;have GS:=Ba hS Ef;have he:phi Q u (AJ.one S)=AJ.one Q:=RF hQ hg u _;have hf:∀a b,El S a→El S b→phi Q u (mul S a b)=mul Q (phi Q u a) (phi Q u b):=fun a b ha hb=>G.SV hS hu.el hu.rel ha hb
 let F:List Nat→List Nat:=fun c=>if h:∃z,El S z∧phi Q u z=c then Classical.choose h else []
 have hF:∀c∈es,El S (F c)∧phi Q u (F c)=c:=fun c hc=>by
  have h:∃z,El S z∧phi Q u z=c:=hin c hc;have e:F c=Classical.choose h:=dif_pos h;rw[e];exact Np h
 have hel:∀d∈es.map F,El S d:=fun d hd=>by
  obtain⟨c,hc,rfl⟩:=CX.1 hd;exact(hF c hc).1
 have hes:es=(es.map F).map (phi Q u):=by
  rw[List.map_map]
  conv=>lhs;rw[←List.map_id es]
  exact WG fun c hc=>((hF c hc).2).symm
 refine⟨es.map F,⟨hel,?_,fun x y hx hy e=>?_⟩,hes⟩
 ·refine(Tk GS (phi Q u) he hf (fun a b ha hb h=>hu.inj a b ha hb h) T _ hel).1 ?_;rw[←hes];exact hE.rel
 ·refine hE.inj x y hx hy ?_;rw[hes,←Nc GS (phi Q u) he hf hel,←Nc GS (phi Q u) he hf hel,e]
theorem AFC {Q T:Tw}(hQ:Wf Q)(hg:AJ.Good Q)(hT:Wf T)(De:AJ.Good T)(hp:Yt T)(cs:List (List Nat)):cs∈Dz Q T T.length []↔DK Q T cs:=by
 rw[j4 hQ hg hT De hp T.length AQ [] (by rw[MP];exact lD)];exact⟨fun h=>h.1,fun h=>⟨h,WE (by rw[h.len];exact Ap _)⟩⟩
theorem map_inj {α β:Type}{P:α→Prop}{f:α→β}(hf:∀a b,P a→P b→f a=f b→a=b):∀(x y:List α),(∀a∈x,P a)→(∀a∈y,P a)→x.map f=y.map f→x=y
 |[],[],_,_,_=>rfl
 |[],b::y,_,_,h=>by simp at h
 |a::x,[],_,_,h=>by simp at h
 |a::x,b::y,hx,hy,h=>by
  rw[FN,FN]at h;obtain⟨h1,h2⟩:=List.cons.inj h;rw[hf a b (hx a CE) (hy b CE) h1,map_inj hf x y (fun a ha=>hx a (Ca _ ha)) (fun a ha=>hy a (Ca _ ha)) h2]
theorem AFD {α β:Type}{P:α→Prop}{f:α→β}(hf:∀a b,P a→P b→f a=f b→a=b){l:List α}(hl:∀a∈l,P a)(hn:l.Nodup):(l.map f).Nodup:=by
 refine List.pairwise_map.2 (Z7 ?_ hn);intro a b ha hb hne e;exact hne (hf a b (hl a ha) (hl b hb) e)
theorem AF3 {Q T:Tw}(hQ:Wf Q)(hg:AJ.Good Q)(hT:Wf T){cs:List (List Nat)}(h:DK Q T cs):((List.range (sz T)).map fun t=>num Q (phi Q cs (at_ T t))).Nodup:=by
 have G:=Ba hQ hg;refine AFD (P:=fun t=>t<sz T) (fun a b ha hb e=>?_) (fun a ha=>Hq.1 ha) List.nodup_range;have e1:=Bp (at_ Q) e;rw[Jz hQ (G.ev h.el _),Jz hQ (G.ev h.el _)]at e1;exact Zj ha hb (h.inj _ _ (Cu hT a) (Cu hT b) e1)
theorem zX {Q T:Tw}(hQ:Wf Q)(hg:AJ.Good Q)(hT:Wf T){cs:List (List Nat)}(h:DK Q T cs)(hs:sz Q≤sz T){c:List Nat}(hc:El Q c):Im Q T cs c:=by
 have G:=Ba hQ hg;by_cases hm:num Q c∈(List.range (sz T)).map fun t=>num Q (phi Q cs (at_ T t))
 ·obtain⟨t,_,e⟩:=CX.1 hm;have e1:=Bp (at_ Q) e;rw[Jz hQ (G.ev h.el _),Jz hQ hc]at e1;exact⟨at_ T t,Cu hT t,e1⟩
 ·have hn:(num Q c::(List.range (sz T)).map fun t=>num Q (phi Q cs (at_ T t))).Nodup:=List.nodup_cons.2 ⟨hm,AF3 hQ hg hT h⟩;have:=Z4 (l₂:=List.range (sz Q)) hn (fun x hx=>by
   rcases GR.1 hx with rfl|hx
   ·exact Hq.2 (He hc hQ)
   ·obtain⟨t,_,rfl⟩:=CX.1 hx;exact Hq.2 (He (G.ev h.el _) hQ))
  simp at this;omega
end Go.Proofs.YtlmlamcoeegkbaaGreat.Yu
namespace Go.Proofs.YtlmlamcoeegkbaaGreat.CcC
open Go.Proofs.YtlmlamcoeegkbaaGreat AJ Gen Dq CV F9 PU Yu
theorem Q4 {α β:Type}{f:α→List β}{n:Nat}:∀l:List α,(∀u∈l,(f u).length=n)→(l.flatMap f).length=l.length*n
 |[],_=>by simp
 |u::l,h=>by
  rw[KS,Cm,h u CE,Q4 l (fun v hv=>h v (Ca _ hv)),Eb,Nat.add_mul,Nat.one_mul,GU]
end Go.Proofs.YtlmlamcoeegkbaaGreat.CcC
namespace Go.Proofs.YtlmlamcoeegkbaaGreat.fO
open Go.Proofs.YtlmlamcoeegkbaaGreat AJ Gen Dq CV F9 PU Yu vR
noncomputable def FY (T:Tw)(y u:List Nat):List Nat:=mul T (BS T u) (mul T y u)
theorem AG5 {T:Tw}(hT:Wf T)(hg:AJ.Good T){u:List Nat}(hu:El T u){a b:List Nat}(ha:El T a)(hb:El T b):FY T (mul T a b) u=mul T (FY T a u) (FY T b u):=by
 have G:=Ba hT hg;obtain⟨hi,h1,h2⟩:=FH hT hg hu;unfold FY;rw[G.Ae hi (G.cl ha hu) (G.cl hi (G.cl hb hu)),G.Ae ha hu (G.cl hi (G.cl hb hu)),←G.Ae hu hi (G.cl hb hu),h1,G.eL (G.cl hb hu),G.Ae ha hb hu]
theorem Zw {T:Tw}(hT:Wf T)(hg:AJ.Good T){u a:List Nat}(hu:El T u)(ha:El T a):El T (FY T a u):=Dl hT (FH hT hg hu).1 (Dl hT ha hu)
theorem AAQ {T:Tw}(hT:Wf T)(hg:AJ.Good T){u:List Nat}(hu:El T u):FY T (AJ.one T) u=AJ.one T:=by
 have G:=Ba hT hg;unfold FY;rw[G.eL hu,(FH hT hg hu).2.2]
theorem Tm {T:Tw}(hT:Wf T)(hg:AJ.Good T){u a:List Nat}(hu:El T u)(ha:El T a):mul T u (FY T a u)=mul T a u:=by
 have G:=Ba hT hg;obtain⟨hi,h1,h2⟩:=FH hT hg hu;unfold FY;rw[←G.Ae hu hi (G.cl ha hu),h1,G.eL (G.cl ha hu)]
theorem AG6 {T:Tw}(hT:Wf T)(hg:AJ.Good T){u a b:List Nat}(hu:El T u)(ha:El T a)(hb:El T b)(h:FY T a u=FY T b u):a=b:=by
 have G:=Ba hT hg;have:=Tm hT hg hu ha;rw[h,Tm hT hg hu hb]at this;exact(G.kU hu hb ha this).symm
theorem AAR {T:Tw}(hT:Wf T)(hg:AJ.Good T){u a:List Nat}(hu:El T u)(ha:El T a):∀k,mul T (npow (mul T) (AJ.one T) u k) (it (fun z=>FY T z u) k a)=mul T a (npow (mul T) (AJ.one T) u k)
 |0=>by
  have G:=Ba hT hg;rw[Jw,it,G.eL ha,G.eR ha]
 |k+1=>by
  have G:=Ba hT hg;have hk:=G.npow hu k;have hit:El T (it (fun z=>FY T z u) k a):=I8 (El T) _ (fun z hz=>Zw hT hg hu hz) k a ha;rw[Dy,F7,G.Ae hk hu (Zw hT hg hu hit),Tm hT hg hu hit,←G.Ae hk hit hu,AAR hT hg hu ha k,G.Ae ha hk hu]
theorem yN {T S:Tw}{L:Lv}(hT:Wf T)(hg:AJ.Good T)(hS:Wf S)(Ef:AJ.Good S){us:List (List Nat)}{u:List Nat}(hE:DK T S us)(hu:El T u)(hwf:Wf (L::S))(hF:IL T L us u):AJ.Good (L::S):=by
 have G:=Ba hT hg;have GS:=Ba hS Ef;have he:phi T us (AJ.one S)=AJ.one T:=RF hT hg us _;have hf:∀a b,El S a→El S b→phi T us (mul S a b)=mul T (phi T us a) (phi T us b):=fun a b ha hb=>G.SV hS hE.el hE.rel ha hb;obtain⟨_,TI,hcl,Qs,_⟩:=hwf;have ADA:phi T us L.w=npow (mul T) (AJ.one T) u L.o:=hF.1.symm;have Xd:=hE.len;have ADB:L.c.map (phi T us)=us.map fun y=>FY T y u:=by
  refine RJ (by rw[Ce,Ce,hcl,Xd]) fun k h1 h2=>?_;rw[Ce]at h1 h2;rw[Nh,Nh];have e:=hF.2 k _ (AP h1);have hk:=hE.el _ (Je h2);rw[Bg,AP h2,WI]at e;exact(G.Od hu (Zw hT hg hu hk) (G.ev hE.el _) ((Tm hT hg hu hk).trans e)).symm
 have hci:∀a b,El T a→El T b→FY T a u=FY T b u→a=b:=fun a b ha hb h=>AG6 hT hg hu ha hb h;have ADC:∀a b,El T a→El T b→FY T (mul T a b) u=mul T (FY T a u) (FY T b u):=fun a b ha hb=>AG5 hT hg hu ha hb;have ADE:∀z,El S z→phi T us (img S L.c z)=FY T (phi T us z) u:=fun z hz=>by
  rw[show img S L.c z=ev (mul S) (AJ.one S) L.c z from GS.Na Qs z];rw[show phi T us (ev (mul S) (AJ.one S) L.c z)=ev (mul T) (AJ.one T) (L.c.map (phi T us)) z from Nc GS (phi T us) he hf Qs z,ADB];exact(Nc G (fun y=>FY T y u) (AAQ hT hg hu) ADC hE.el z).symm
 have vU:∀z,El S z→El S (img S L.c z):=fun z hz=>Oh hS Qs z;have hit:∀k z,El S z→phi T us (it (img S L.c) k z)=it (fun y=>FY T y u) k (phi T us z):=fun k=>by
  induction k with
  |zero=>intro z hz;rfl
  |succ k ih=>intro z hz;rw[it,it,ih _ (vU z hz),ADE z hz]
 refine⟨Ef,?_,?_,fun j hj=>?_⟩
 ·refine(Tk GS (phi T us) he hf (fun a b ha hb h=>hE.inj a b ha hb h) S L.c Qs).1 ?_;rw[ADB];exact(Tk G (fun y=>FY T y u) (AAQ hT hg hu) ADC hci S us hE.el).2 hE.rel
 ·refine hE.inj _ _ (vU _ TI) TI ?_;have e1:phi T us (img S L.c L.w)=phi T us L.w:=by
   rw[ADE _ TI,ADA];have hk:=G.npow hu L.o;refine G.Od hu (Zw hT hg hu hk) hk ?_;rw[Tm hT hg hu hk,←Dy (mul T) (AJ.one T) u L.o];have:=G.ML hu 1 L.o;rw[G.NY hu]at this;rw[←this,GU]
  exact e1
 ·have hj':=LB hS j;have ADF:El S (it (img S L.c) L.o (unit S j)):=I8 (El S) _ vU L.o _ hj';refine hE.inj _ _ (GS.cl TI ADF) (GS.cl hj' TI) ?_;have e1:phi T us (mul S L.w (it (img S L.c) L.o (unit S j)))=phi T us (mul S (unit S j) L.w):=by
   rw[hf _ _ TI ADF,hf _ _ hj' TI,hit _ _ hj',ADA,AAR hT hg hu (G.ev hE.el _) L.o]
  exact e1
structure GT where
 Q:Tw
 hQ:Wf Q
 hg:AJ.Good Q
structure GT.E (B:GT) where
 val:List Nat
 property:El B.Q val
theorem GT.ext {B:GT}{a b:B.E}(h:a.val=b.val):a=b:=by
 cases a;cases b;simp only at h;subst h;rfl
instance (B:GT):Mul B.E:=⟨fun a b=>⟨mul B.Q a.1 b.1,Dl B.hQ a.2 b.2⟩⟩
instance (B:GT):DecidableEq B.E:=fun a b=>decidable_of_iff (a.val=b.val) ⟨GT.ext,Bp GT.E.val⟩
noncomputable def GT.gr (B:GT):Gr B.E:=
 ⟨⟨AJ.one B.Q,Dm B.hQ⟩,fun a=>⟨BS B.Q a.1,(FH B.hQ B.hg a.2).1⟩,fun a b c=>GT.ext ((Ba B.hQ B.hg).Ae a.2 b.2 c.2),fun a=>GT.ext ((Ba B.hQ B.hg).eL a.2),fun a=>GT.ext ((Ba B.hQ B.hg).eR a.2),
  fun a=>GT.ext (FH B.hQ B.hg a.2).2.2,fun a=>GT.ext (FH B.hQ B.hg a.2).2.1⟩
theorem GT.pw (B:GT)(a:B.E):∀n,(B.gr.pw a n).1=npow (mul B.Q) (AJ.one B.Q) a.1 n
 |0=>rfl
 |n+1=>by rw[Dy,←GT.pw B a n];rfl
theorem GT.jA (B:GT):∀(t:List B.E) (z:List Nat) (u:B.E),u.1=ev (mul B.Q) (AJ.one B.Q) (t.map (·.1)) z→Mk B.gr t u
 |[],z,u,h=>fun S hS _=>by
  have:u=B.gr.e:=GT.ext (by rw[h];cases z<;>rfl);rw[this];exact hS.e
 |c::t,[],u,h=>fun S hS _=>by
  have:u=B.gr.e:=GT.ext h;rw[this];exact hS.e
 |c::t,a::z,u,h=>fun S hS hc=>by
  have hel:∀d∈t.map (·.1),El B.Q d:=fun d hd=>by
   obtain⟨y,_,rfl⟩:=CX.1 hd;exact y.2
  have:u=B.gr.pw c a*⟨ev (mul B.Q) (AJ.one B.Q) (t.map (·.1)) z,(Ba B.hQ B.hg).ev hel z⟩:=GT.ext (by
   rw[h];show _=mul B.Q (B.gr.pw c a).1 _;rw[B.pw];rfl)
  rw[this];exact hS.m (hS.pw (hc c CE) a) (B.jA t z _ rfl S hS fun d hd=>hc d (Ca _ hd))
theorem GT.chn (B:GT)(H:B.E→Prop)(q:Nat):∀(S:Tw) (t:List B.E),Wf S→(∀L∈S,L.o=q)→Rel (mul B.Q) (AJ.one B.Q) S (t.map (·.1))→(∀h∈t,H h)→iq B.gr H q t
 |[],[],_,_,_,_=>trivial
 |[],_::_,_,_,h,_=>h.elim
 |_::_,[],_,_,h,_=>h.elim
 |L::S,h::t,hS,ho,⟨r1,r2,r3⟩,hH=>by
  refine⟨hH h CE,B.jA t L.w _ ?_,fun k hk=>?_,GT.chn B H q S t hS.2.2.2.2 (fun L hL=>ho L (Ca _ hL)) r3 fun d hd=>hH d (Ca _ hd)⟩
  ·rw[B.pw,←ho L CE];exact r1
  ·obtain⟨j,hj,rfl⟩:=Nq hk;have hl:=TN r3;rw[Ce]at hl;have hjc:j<L.c.length:=by rw[hS.2.2.1];omega
   have e:=r2 j (by rw[Ce];exact hj) hjc;rw[Nh]at e;have hel:∀d∈t.map (·.1),El B.Q d:=fun d hd=>by
    obtain⟨y,_,rfl⟩:=CX.1 hd;exact y.2
   refine B.jA t L.c[j] _ ?_;have e1:t[j]*h=h*(⟨ev (mul B.Q) (AJ.one B.Q) (t.map (·.1)) L.c[j],(Ba B.hQ B.hg).ev hel _⟩:B.E):=GT.ext e;rw[B.gr.Ae,e1,B.gr.Yo]
theorem KL {q:Nat}:∀{T:Tw},(∀L∈T,L.o=q)→sz T=q^T.length
 |[],_=>rfl
 |L::T,h=>by
  have h1:sz (L::T)=L.o*sz T:=rfl;rw[h1,h L CE,KL fun L hL=>h L (Ca _ hL),Eb,LC,Mg]
theorem pow_end {Q:Tw}(hQ:Wf Q)(hg:AJ.Good Q){q:Nat}(ho:∀L∈Q,L.o=q){x:List Nat}(hx:El Q x):npow (mul Q) (AJ.one Q) x (q^Q.length)=AJ.one Q:=by
 have F:=R6 hQ hg;have G:=Ba hQ hg;have:∀d,d≤Q.length→A (El Q) fF d (npow (mul Q) (AJ.one Q) x (q^d)):=fun d=>by
  induction d with
  |zero=>intro _;exact⟨G.npow hx _,fun j hj=>absurd hj (DX _)⟩
  |succ d ih=>
   intro hd;have h1:=ih (by omega);rw[LC,←Vn G hx];refine GM.2 ⟨(F.MV (by omega)).npow h1 q,?_⟩;rw[F.Nf (by omega) h1];obtain⟨L,hL⟩:∃L,Q[d]?=some L:=⟨_,AP (by omega)⟩;rw[Ou hL,ho L (Ar hL)];exact Nat.mul_mod_right _ _
 have h:=this Q.length AQ;exact F.ze h.1 h.2
theorem extend {Q S:Tw}(hQ:Wf Q)(hg:AJ.Good Q)(hS:Wf S)(Ef:AJ.Good S){t:List (List Nat)}(hE:DK Q S t){q:Nat}(hq:q=2∨q=3∨q=5∨q=7)(VS:∀L∈Q,L.o=q)(VT:∀L∈S,L.o=q)(hl:S.length<Q.length):
  ∃L x,L.o=q∧Wf (L::S)∧AJ.Good (L::S)∧DK Q (L::S) (x::t):=by
 have G:=Ba hQ hg;obtain⟨B,hB⟩:∃B:GT,B=⟨Q,hQ,hg⟩:=⟨_,rfl⟩;obtain rfl:B.Q=Q:=by rw[hB]
 clear hB;obtain⟨tE,rfl⟩:∃tE:List B.E,t=tE.map (·.1):=⟨t.pmap (fun x h=>⟨x,h⟩) hE.el,by rw[List.map_pmap];simp⟩;obtain⟨H,hHd⟩:∃H:B.E→Prop,H=fun u=>Im B.Q S (tE.map (·.1)) u.1:=⟨_,rfl⟩;have hiff:∀u,H u↔Im B.Q S (tE.map (·.1)) u.1:=fun u=>by rw[hHd]
 clear hHd;have GS:=Ba hS Ef;have hH:Sg B.gr H:=⟨(hiff _).2 (lY hQ hg hS),fun {a b} ha hb=>(hiff _).2 (AAt hQ hg hS hE.el hE.rel ((hiff _).1 ha) ((hiff _).1 hb)),fun {a} ha=>(hiff _).2 (by
  refine lX hQ hg hS Ef hE.el hE.rel (B.gr.i a).2 ?_ ((hiff _).1 ha);rw[show mul B.Q (B.gr.i a).1 a.1=AJ.one B.Q from Bp GT.E.val (B.gr.il a)];exact lY hQ hg hS)⟩
 have hnd:((List.range (sz S)).map fun k=>(⟨phi B.Q (tE.map (·.1)) (at_ S k),G.ev hE.el _⟩:B.E)).Nodup:=List.pairwise_map.2 (Z7 (fun {a b} ha hb hn e=>by
  exact(Nat.ne_of_lt hn) (Zj (Hq.1 ha) (Hq.1 hb) (hE.inj _ _ (Cu hS a) (Cu hS b) (Bp GT.E.val e)))) List.pairwise_lt_range)
 have hmH:∀v,v∈((List.range (sz S)).map fun k=>(⟨phi B.Q (tE.map (·.1)) (at_ S k),G.ev hE.el _⟩:B.E))↔H v:=fun v=>by
  rw[hiff,CX];constructor
  ·rintro⟨k,_,rfl⟩;exact⟨_,Cu hS k,rfl⟩
  ·rintro⟨z,hz,e⟩;exact⟨num S z,Hq.2 (He hz hS),GT.ext (by show phi B.Q _ _=_;rw[Jz hS hz];exact e)⟩
 have hnA:((List.range (sz B.Q)).map fun k=>(⟨at_ B.Q k,Cu hQ k⟩:B.E)).Nodup:=List.pairwise_map.2 (Z7 (fun {a b} ha hb hn e=>(Nat.ne_of_lt hn) (Zj (Hq.1 ha) (Hq.1 hb) (Bp GT.E.val e))) List.pairwise_lt_range);have IC:∀g:B.E,g∈((List.range (sz B.Q)).map fun k=>(⟨at_ B.Q k,Cu hQ k⟩:B.E)):=fun g=>CX.2 ⟨num B.Q g.1,Hq.2 (He g.2 hQ),GT.ext (Jz hQ g.2)⟩;have Yq:∀u∈tE,H u:=fun u hu=>(hiff u).2 ((WC hQ hg hS hE.el hE.rel u.1).1 (Gen.of G hE.el (CX.2 ⟨u,hu,rfl⟩)));obtain⟨x,h1,h2,h3⟩:=grows hq hH _ hnd hmH _ hnA IC tE (B.chn H q S tE hS VT hE.rel Yq) (fun u hu=>by
  obtain⟨z,hz,e⟩:=(hiff u).1 hu;exact B.jA tE z u e.symm) Yq (by
  rw[Ce,Ce,List.length_range,List.length_range,KL VS,KL VT,Mg,←LC];exact Nat.pow_dvd_pow q hl) (fun g=>⟨B.Q.length,GT.ext (by rw[B.pw];exact pow_end hQ hg VS g.2)⟩)
 obtain⟨w,hw,ew⟩:=(hiff _).1 h2;rw[B.pw]at ew;have hex:∀h∈tE,∃z,El S z∧ev (mul B.Q) (AJ.one B.Q) (tE.map (·.1)) z=mul B.Q (BS B.Q x.1) (mul B.Q h.1 x.1):=fun h hh=>by
  obtain⟨z,hz,e⟩:=(hiff _).1 (h3 h hh);refine⟨z,hz,e.trans ?_⟩;rw[B.gr.Ae];rfl
 obtain⟨c,hcl,hc⟩:∃c:List (List Nat),c.length=tE.length∧∀k (h1:k<c.length) (h2:k<tE.length),El S c[k]∧ev (mul B.Q) (AJ.one B.Q) (tE.map (·.1)) c[k]=mul B.Q (BS B.Q x.1) (mul B.Q tE[k].1 x.1):=by
  classical
  refine⟨tE.map fun h=>if hh:∃z,El S z∧ev (mul B.Q) (AJ.one B.Q) (tE.map (·.1)) z=mul B.Q (BS B.Q x.1) (mul B.Q h.1 x.1)then Classical.choose hh else [],by simp,fun k h1 h2=>?_⟩;rw[Nh,dif_pos (hex _ (Je h2))];exact Np (hex _ (Je h2))
 have htl:=hE.len;rw[Ce]at htl;have hwf:Wf ((⟨q,w,c⟩:Lv)::S):=⟨by show 2≤q;omega,hw,hcl.trans htl,fun y hy=>by
  obtain⟨k,hk,rfl⟩:=Nq hy;exact(hc k hk (by rw[←hcl];exact hk)).1,hS⟩
 have hF:IL B.Q (⟨q,w,c⟩:Lv) (tE.map (·.1)) x.1:=⟨ew.symm,fun k y hk=>by
  obtain⟨hk1,rfl⟩:=Ak.1 hk;have hk2:k<tE.length:=by rw[←hcl];exact hk1
  rw[Bg,AP (by rw[Ce];exact hk2),WI,Nh];have e:=(hc k hk1 hk2).2;show _=mul B.Q x.1 (ev (mul B.Q) (AJ.one B.Q) (tE.map (·.1)) c[k]);rw[e];exact(Tm hQ hg x.2 tE[k].2).symm⟩
 have hgd:=yN hQ hg hS Ef hE x.2 hwf hF;exact⟨⟨q,w,c⟩,x.1,rfl,hwf,hgd,(Oc hQ hg hwf Ef hq).2 ⟨hE,x.2,hF,fun hh=>h1 ((hiff x).2 ((WC hQ hg hS hE.el hE.rel x.1).1 hh))⟩⟩
end Go.Proofs.YtlmlamcoeegkbaaGreat.fO
