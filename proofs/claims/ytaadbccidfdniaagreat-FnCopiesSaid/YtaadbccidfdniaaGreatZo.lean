import Derived.Test.YtaadbccidfdniaaGreatZ0
import Derived.Test.YtaadbccidfdniaaGreatZb
import Derived.Test.YtaadbccidfdniaaGreatZn
import Derived.Deep.AppendLies
/-
  Lemmas for the law FnCopies, in short spelling.
-/
open Go.Lib (hid)
set_option linter.unusedVariables false
set_option linter.unusedSimpArgs false
set_option maxRecDepth 100000
set_option maxHeartbeats 40000000
namespace Go.Proofs.YtaadbccidfdniaaGreat.KS
open Go.RowKit Go.Proofs.YtaadbccidfdniaaGreat AB Gen Cu
def Al (tl:List (List Nat))(d:Nat):Option (List Nat):=match tl[d]? with
 |some (a::y)=>some (a::y)
 |_=>none
theorem Jy {tl:List (List Nat)}{d:Nat}{r:List Nat}(h:tl[d]?=some r)(hr:r≠[]):Al tl d=some r:=by
 unfold Al;rw[h];cases r with
 |nil=>exact absurd rfl hr
 |cons a y=>rfl
theorem Pe {tl:List (List Nat)}{d:Nat}(h:tl[d]?=some []):Al tl d=none:=by unfold Al;rw[h]
theorem AIn {tl:List (List Nat)}{d:Nat}(h:tl.length≤d):Al tl d=none:=by unfold Al;rw[J9 h]
theorem fJ {tl:List (List Nat)}{d:Nat}{y:List Nat}(hd:d<tl.length)(hy:y≠[]):Al (tl.set d y)=put (Al tl) d y:=by
 funext j;unfold put;by_cases hj:j=d
 ·subst hj;rw[Bo rfl,Jy (by rw[P7 hd]) hy]
 ·rw[BD hj];unfold Al;rw[Q9 (fun h=>hj h.symm)]
theorem VF (n:Nat):Al (List.replicate n [])=fun _=>none:=by
 funext j;unfold Al;rw[Nl];split<;>first|rfl|(next h=>split at h<;>simp at h)
def Dn (R:World→Value→List Nat→Prop)(w:World)(g:Nat)(tl:List (List Nat)):Prop:=
 ∃us,w.ownsRow 0 24 1 (.slice (some ⟨g,0,none⟩) tl.length tl.length) tl.length us∧us.length=tl.length∧∀(i:Nat) (r:List Nat) (u:Value),tl[i]?=some r→us[i]?=some u→R w u r
theorem Dn.lt {R:World→Value→List Nat→Prop}{w:World}{g:Nat}{tl:List (List Nat)}(h:Dn R w g tl):g<w.heap.size:=by
 obtain⟨us,h1,_⟩:=h;exact(Af h1 g rfl).2
theorem Dn.at {R:World→Value→List Nat→Prop}{w:World}{g:Nat}{tl:List (List Nat)}(h:Dn R w g tl){i:Nat}{r:List Nat}(hr:tl[i]?=some r):∃u,w.cell? ⟨g,i,none⟩=some u∧w.frozen? ⟨g,i,none⟩=false∧R w u r:=by
 obtain⟨us,h1,h2,h3⟩:=h;have hi:=(Ag.1 hr).1;obtain⟨u,hu⟩:∃u,us[i]?=some u:=⟨_,AO (by omega)⟩;exact⟨u,by rw[Ig h1 i (by omega)];exact hu,YR h1 i,h3 i r u hr hu⟩
theorem Dn.set {R:World→Value→List Nat→Prop}{w:World}{g:Nat}{tl:List (List Nat)}(h:Dn R w g tl)(d:Nat){u:Value}{y:List Nat}(hk:∀u r,R w u r→R (w.setCell ⟨g,d,none⟩ u) u r→True)
  (hR:∀v r,R w v r→R (w.setCell ⟨g,d,none⟩ u) v r) (hu:R w u y):Dn R (w.setCell ⟨g,d,none⟩ u) g (tl.set d y):=by
 obtain⟨us,h1,h2,h3⟩:=h;refine⟨us.set d u,?_,by simp[h2],fun i r v hr hv=>?_⟩
 ·have:=(Q8 h1 d u).1;simpa using this
 ·by_cases hi:i=d
  ·subst hi;have hil:i<tl.length:=by
    have:=(Ag.1 hr).1;simpa using this
   rw[P7 hil]at hr;rw[P7 (by omega)]at hv;injection hr with hr;injection hv with hv;subst hr;subst hv;exact hR _ _ hu
  ·rw[Q9 (fun h=>hi h.symm)]at hr hv;exact hR _ _ (h3 i r v hr hv)
theorem Dn.keep {R:World→Value→List Nat→Prop}{S:Nat→Prop}{w w':World}{g:Nat}{tl:List (List Nat)}(h:Dn R w g tl)(hk:AA S w w')(hg:S g)(hR:∀v r,R w v r→R w' v r):Dn R w' g tl:=by
 obtain⟨us,h1,h2,h3⟩:=h;refine⟨us,⟨h1.1,?_⟩,h2,fun i r v hr hv=>hR _ _ (h3 i r v hr hv)⟩;rcases h1.2 with⟨h,_⟩|⟨g',cap,cur,h,hb,hgg,hrest⟩
 ·cases h
 ·cases h;refine .inr ⟨g,_,cur,rfl,hb,?_,hrest⟩;rw[hk.block g hg (Ba.1 hgg).1];exact hgg
theorem Dn.sl2 {R:World→Value→List Nat→Prop}{w:World}{g:Nat}{tl:List (List Nat)}(h:Dn R w g tl)(hR:∀v r,R w v r→AL (fun _=>True) w v (ints r)):AP (fun _=>True) w (.slice (some ⟨g,0,none⟩) tl.length tl.length) (tl.map ints):=by
 have hlt:=h.lt;have hm:tl.length≤maxLen:=by
  obtain⟨us,h1,_⟩:=h;rcases h1.2 with⟨h,_⟩|⟨g',cap,cur,h,hb,hgg,_,hm,_⟩
  ·cases h
  ·cases h;exact hm
 refine⟨some ⟨g,0,none⟩,tl.length,by simp,by simp,hm,by simp,fun i r hr=>?_⟩;simp only[Bn,II]at hr;obtain⟨r',hr',rfl⟩:=hr;obtain⟨u,hu,_,hok⟩:=h.at hr';exact⟨g,0,rfl,trivial,hlt,u,by rw[Cg];exact hu,hR _ _ hok⟩
theorem Dn.made {R:World→Value→List Nat→Prop}(w:World)(n:Nat)(hn:n≤maxLen)(hR:R (w.alloc (.cells (madeCells #[.slice none 0 0] n) 24)) (.slice none 0 0) []):Dn R (w.alloc (.cells (madeCells #[.slice none 0 0] n) 24)) w.heap.size (List.replicate n []):=by
 refine⟨List.replicate n (.slice none 0 0),?_,by simp,fun i r u hr hu=>?_⟩
 ·have:=Nq (base:=0) (e:=24) (size:=1) w (madeCells #[.slice none 0 0] n) n (AU _) hn (by simp[madeCells]);rw[Q7]at this;simpa using this
 ·rw[Nl]at hr hu;split at hr
  ·next h=>
   rw[Bo h]at hu;injection hr with hr;injection hu with hu;subst hr;subst hu;exact hR
  ·simp at hr
theorem gJ (S:Nat→Prop)(w:World):AL S w (.slice none 0 0) (ints []):=⟨none,0,rfl,Av _,by simp,fun _=>rfl,fun i x hx=>by simp[ints]at hx⟩
theorem Own2.pop {e2 e:TypeId}{B:Nat}{w:World}{g c:Nat}{rows:List (List Nat)}{r:List Nat}(h:Own2 e2 e B w (.slice (some ⟨g,0,none⟩) (rows++[r]).length c) (rows++[r])):Own2 e2 e B w (.slice (some ⟨g,0,none⟩) rows.length c) rows:=by
 obtain⟨us,h1,h2,h3⟩:=h;have hl:us.length=rows.length+1:=by rw[h2];simp
 refine⟨us.take rows.length,⟨by simp;omega,?_⟩,by simp;omega,fun i r' u hr hu=>?_⟩
 ·rcases h1.2 with⟨h,_⟩|⟨g',cap,cur,h,hb,hgg,hn,hm,hs,ht⟩
  ·cases h
  ·cases h;refine .inr ⟨g,c,cur,rfl,hb,hgg,by simp at hn;omega,hm,hs,?_⟩;rw[←ht,List.take_take];congr 1;simp
 ·have hi:=(Ag.1 hr).1;rw[YT hi]at hu;exact h3 i r' u (by rw[EA hi];exact hr) hu
end Go.Proofs.YtaadbccidfdniaaGreat.KS
namespace Go.Proofs.YtaadbccidfdniaaGreat.ADa
open Go.RowKit Go.Proofs.YtaadbccidfdniaaGreat AB Gen Cu KS JU Dr Kc Nk Hg Pz V4 Oe
noncomputable abbrev Io (T:Tw)(tl:List (List Nat))(k d:Nat)(x:List Nat):Nat×List Nat:=strip (mul T) (AB.one T) fF (Ap T) (Al tl) k d x
def iJ (T:Tw)(tl:List (List Nat))(x:List Nat)(w:World)(e:Ending)(w':World):Prop:=
 ∃v,e= .returned (.tuple #[.int .i64 ((Io T tl T.length 0 x).1:Int),v])∧Own w.heap.size w' v (ints (Io T tl T.length 0 x).2)∧El T (Io T tl T.length 0 x).2∧Below w.heap.size w w'
theorem AH0 (T:Tw)(hT:Wf T)(hs:Small T)(hg:AB.Good T)(w:World)(vO vP vC vt vx:Value)(tl:List (List Nat))(x:List Nat)(hP:BC Any w vO vP vC (AQ T))(ht:AP Any w vt (tl.map ints))(htl:tl.length=T.length)(hx:AL Any w vx (ints x))(hE:El T x)(hr:∀r∈tl,r≠[]→El T r):
  Calls Tryz.prog 162 #[.agg #[vO,vP,vC],vt,vx] w (iJ T tl x w):=by
 have HP:=hid hP;have HT:=hid ht;have HX:=hid hx;have HE:=hid hE;have HRS:=hid hr;have HG:=hid (BO hT hg);have FB:=hid hs;have En:=hid (fun r (h:El T r)=>(FJ hT hg h).1);have HM:=hid (fun W va vb a b hP ha hb hA hB=>YC T hT hs W vO vP vC va vb a b hP ha hb hA hB);have DY:=hid (fun W va a K hK mJ hP ha hA=>AAW T hT hs hg W vO vP vC va a K hK mJ hP ha hA);obtain⟨aU,cU,Us⟩:=AP.form ht;rw[htl]at Us;subst Us;have hxl:(ints x).length≤1000000:=by rw[BL,AZ hE];have:=hs.1;omega
 have hs6:=hs.1;clear hP ht hx hE hr hT hs hg;go_enter Tryz.func162,Tryz.ntmps162;go_wp2_with fail;refine(NY Any _ _ _ (HX.out.keep (AJ.alloc _)) hxl).mono ?_;rintro e w1 ⟨g1,c1,rfl,ho1,hb1⟩;have HB1:=hid (show Below (w.heap.size+1) (w.alloc (.cells #[vO,vP,vC] 28)) w1 from hb1.mono (by simp));have DD:=hid (ho1.mono (B':=w.heap.size) (by simp));clear ho1 hb1;go_wp2_with fail;go_loopw [8,9] (fun ov iv wr=>∃(k:Nat) (y:List Nat),k≤T.length∧iv= .int .i64 (k:Int)∧Hid (Own w.heap.size wr ov (ints y))∧Hid (El T y∧Io T tl (T.length-k) k y=Io T tl T.length 0 x)∧Below (w.heap.size+1) (w.alloc (.cells #[vO,vP,vC] 28)) wr) (fun _ iv _=>T.length-(intOf iv).toNat);case atStart=>exact⟨0,x,AU _,rfl,DD,hid ⟨HE.out,rfl⟩,HB1.out⟩
 case round=>
  obtain⟨k,y,hk,rfl,hO,hY,hB⟩:=hrel;have Aa:=hid hB;have hk5:=Dc hB Any;obtain⟨e0,e1,e2⟩:=Cq hB;have hsw:w.heap.size+1≤wr.heap.size:=by have:=hB.size;simp at this;omega
  have hyl:=AZ hY.out.1;clear hB;by_cases hlt:k<T.length
  ·obtain⟨j,hj⟩:∃j,T.length-k=j+1:=⟨T.length-k-1,by omega⟩;have yO:=hY.out.2;rw[hj]at yO;obtain⟨a,ha⟩:∃a,y[k]?=some a:=⟨_,AO (by omega)⟩;obtain⟨r,hr⟩:∃r,tl[k]?=some r:=⟨_,AO (by omega)⟩;have Zi:a<7:=FB.out.lt (s:=0) hY.out.1 (AU _) ha;have hfa:fF k y=a:=by unfold fF;rw[BV,ha];rfl
   obtain⟨gv,cv,hov⟩:=hO.out.form (by rw[BL];omega);rw[BL,hyl]at hov;subst hov;obtain⟨s1,f1⟩:=hO.out.cell (j:=k) (a:=(a:Int)) (by rw[Fx,ha];rfl);obtain⟨bU,oU,OI,vr,he,EU,Db,hrU⟩:=AP.Pn HT.out hr;obtain⟨rfl,rfl⟩:aU=some ⟨bU,oU,none⟩∧cU=OI:=by simp only[EY]at he;exact⟨he.1,he.2.2⟩
   have Y9:=(hk5.cell (b:=bU) (o:=oU+k) trivial EU).trans Db;have Uq:w.heap.size<wr.heap.size:=by omega
   have AEl:bU<wr.heap.size:=by omega
   have hgv:gv<wr.heap.size:=hO.out.lt.2;obtain⟨aR,cR,rfl,_⟩:=AL.open hrU;have Dx:=hid (HP.out.keep hk5);have OC:=hid (AL.keep hrU hk5);have Ch:=hid (hO.out.sl.mono (S':=Any) (fun _ _=>trivial));have hkl:(k:Int)<(T.length:Int):=by omega
   have AM8:(k:Int)<(tl.length:Int):=by omega
   have hk0:(0:Int)≤(k:Int):=by omega
   have IU:=hid (HRS.out r (Ak hr));have M9:=hid hr;have yP:=hid yO;have OE:=hid hfa;have HJ:=hid hj;clear ha hr he hrU Db yO hfa hk5 hj;by_cases ha0:a=0
   ·subst ha0;have yQ:=hid (show Io T tl (T.length-(k+1)) (k+1) y=Io T tl T.length 0 x by
     rw[←yP.out,Io,Io,MS OE.out,show T.length-(k+1)=j by have:=HJ.out;omega])
    go_wp2_with fail;go_roundw;case rel=>exact⟨k+1,y,by omega,by go_num,hO,hid ⟨hY.out.1,yQ.out⟩,Aa.out⟩
    case measure=>simp[intOf];omega
   ·have hz:((a:Int)==0)=false:=by simp;omega
    by_cases hr0:r=[]
    ·subst hr0;have HS:=hid (show Io T tl T.length 0 x=(k,y) by
      rw[←yP.out,Io,PY (by rw[OE.out];exact ha0) (Pe M9.out)])
     have OH:=hid (Dq Aa.out);go_wp2_with fail;exact Aj (v:=.tuple #[.int .i64 (k:Int),.slice (some ⟨gv,0,none⟩) T.length cv]) (by simp[results,Tryz.results162,go_sem]) rfl (by
      unfold iJ;rw[HS.out];exact⟨_,rfl,hO.out,hY.out.1,OH.out⟩)
    ·have hrl:((r.length:Int)==0)=false:=by
      have:r.length≠0:=fun h=>hr0 (D8 h);simp;omega
     have AEm:=hid (IU.out hr0);have Qb:=hid (HG.out.npow (En.out r AEm.out) a);have Ec:=hid (HG.out.cl hY.out.1 Qb.out);have yQ:=hid (show Io T tl (T.length-(k+1)) (k+1) (mul T y (npow (mul T) (AB.one T) (Ap T r) a))=Io T tl T.length 0 x by
      rw[←yP.out,Io,Io,OZ (by rw[OE.out];exact ha0) (Jy M9.out hr0),OE.out,show T.length-(k+1)=j by have:=HJ.out;omega])
     have hap:0<a:=by omega
     have hwn:IntKind.i64.wrap (-(a:Int))= -(a:Int):=AY _ (by omega);clear hr0;go_wp2_with fail;go_region_held3 (fun w'=>(∀b o,b<wr.heap.size→w'.cell? ⟨b,o,none⟩=wr.cell? ⟨b,o,none⟩)∧AA (fun _=>True) wr w')
      (first|exact Au (by repeat(first|exact AJ.drew|exact AA.refl _ _|refine AA.trans ?_ (AA.of_below (by assumption)))))
      (first|(go_at_call 142;refine(DY.out _ (.slice aR r.length cR) r a (by omega) hap (Dx.out.keep (by repeat(first|exact AJ.drew|exact AA.refl _ _|exact AJ.alloc _|exact(AJ.alloc _).drew|refine AA.trans ?_ (AA.of_below (by assumption))))) (OC.out.keep (by repeat(first|exact AJ.drew|exact AA.refl _ _|exact AJ.alloc _|exact(AJ.alloc _).drew|refine AA.trans ?_ (AA.of_below (by assumption))))) AEm.out).mono ?_;rintro e w6 ⟨v6,rfl,A8,hb6⟩)|(go_at_call_of 143 v6;refine(HM.out _ _ v6 _ _ (Dx.out.keep (by repeat(first|exact AJ.drew|exact AA.refl _ _|exact AJ.alloc _|exact(AJ.alloc _).drew|refine AA.trans ?_ (AA.of_below (by assumption))))) (Ch.out.keep (by repeat(first|exact AJ.drew|exact AA.refl _ _|exact AJ.alloc _|exact(AJ.alloc _).drew|refine AA.trans ?_ (AA.of_below (by assumption))))) ((A8.sl.mono (fun _ _=>trivial)).keep (by repeat(first|exact AJ.drew|exact AA.refl _ _|exact AJ.alloc _|exact(AJ.alloc _).drew|refine AA.trans ?_ (AA.of_below (by assumption))))) hY.out.1 Qb.out).mono ?_;rintro e w8 ⟨v8,rfl,FI,CJ⟩))
     have hs7:w.heap.size≤w6.heap.size:=by
      have:=(show AA (fun _=>True) wr w6 from(by repeat(first|exact AJ.drew|exact AA.refl _ _|exact AJ.alloc _|exact(AJ.alloc _).drew|refine AA.trans ?_ (AA.of_below (by assumption))))).size;omega
     have Cb:=hid (show Below (w.heap.size+1) (w.alloc (.cells #[vO,vP,vC] 28)) w8 from(by repeat(first|exact Aa.out|exact Aa.out.drew|refine Below.step ?_ (by simp) (by assumption))));have Lt:=hid (FI.mono hs7);clear A8 FI hb6 CJ;go_wp2_with fail;go_roundw;case rel=>exact⟨k+1,_,by omega,by go_num,Lt,hid ⟨Ec.out,yQ.out⟩,Cb.out⟩
     case measure=>simp[intOf];omega
  ·obtain rfl:k=T.length:=by omega
   have OH:=hid (Dq Aa.out);have HS:=hid (show Io T tl T.length 0 x=(T.length,y) by
    have:=hY.out.2;rw[Nf]at this;rw[←this];rfl)
   clear hk5;go_wp2_with fail;exact Aj (by simp[results,Tryz.results162,go_sem];rfl) rfl (by
    unfold iJ;rw[HS.out];exact⟨_,rfl,hO.out,hY.out.1,OH.out⟩)
end Go.Proofs.YtaadbccidfdniaaGreat.ADa
namespace Go.Proofs.YtaadbccidfdniaaGreat.FZ
open Go.RowKit Go.Proofs.YtaadbccidfdniaaGreat AB Gen Cu KS JU Dr Kc Nk Hg Pz V4 Oe Gt
theorem Aq.IE {α:Type}{E E':World→Value→α→Prop}{S:Nat→Prop}{w:World}{v:Value}{l:List α}(h:Aq E S w v l)(hE:∀u x,E w u x→E' w u x):Aq E' (fun k=>k<w.heap.size) w v l:=by
 obtain⟨ao,c,h1,h2,h3,h0,h4⟩:=h;refine⟨ao,c,h1,h2,h3,h0,fun i x hx=>?_⟩;obtain⟨b,o,e1,e2,e3,u,e4,e5⟩:=h4 i x hx;exact⟨b,o,e1,e3,e3,u,e4,hE _ _ e5⟩
theorem AL.IE {S:Nat→Prop}{w:World}{v:Value}{l:List Int}(h:AL S w v l):AL (fun k=>k<w.heap.size) w v l:=Aq.IE h (fun _ _ e=>e)
theorem AP.IE {S:Nat→Prop}{w:World}{v:Value}{l:List (List Int)}(h:AP S w v l):AP (fun k=>k<w.heap.size) w v l:=Aq.IE h (fun _ _ e=>AL.IE e)
def Tx (B:Nat)(w:World)(v:Value)(rows:List (List Nat)):Prop:=
 ∃us,w.ownsRow B 24 1 v rows.length us∧us.length=rows.length∧∀(i:Nat) (r:List Nat) (u:Value),rows[i]?=some r→us[i]?=some u→AL (fun k=>k<B) w u (ints r)
theorem Tx.push {B n:Nat}{w w':World}{v v' u:Value}{rows:List (List Nat)}{r:List Nat}{us:List Value}(hn:rows.length=n)(hB:B≤w.heap.size)
  (h1:w.ownsRow B 24 1 v n us) (h2:us.length=rows.length) (h4:∀(i:Nat) (r:List Nat) (u:Value),rows[i]?=some r→us[i]?=some u→AL (fun k=>k<B) w u (ints r))
  (hu:AL (fun k=>k<B) w u (ints r)) (ho:w'.ownsRow B 24 1 v' (n+1) (us++[u])) (hg:w.grownBy w' v.ownBlock):Tx B w' v' (rows++[r]):=by
 subst hn;have hk:AA (fun k=>k<B) w w':=AA.grown hg (fun k hk e=>by have:=(Af h1 k e.symm).1;omega);refine⟨us++[u],by simpa using ho,by simp[h2],fun i r' u' hr' hu'=>AL.keep ?_ hk⟩;rcases CP i rows.length with hi|hi
 ·rw[EA hi]at hr';rw[EA (by omega)]at hu';exact h4 i r' u' hr' hu'
 ·rw[D9 hi]at hr';rw[D9 (by omega)]at hu';rw[h2]at hu';rcases hj:i-rows.length with _|j
  ·rw[hj]at hr' hu';simp at hr' hu';subst hr';subst hu';exact hu
  ·rw[hj]at hr';simp at hr'
theorem Tx.sl2 {B:Nat}{w:World}{v:Value}{rows:List (List Nat)}(h:Tx B w v rows):AP Any w v (rows.map ints):=by
 obtain⟨us,h1,h2,h3⟩:=h;rcases h1.2 with⟨rfl,hn⟩|⟨g,cap,cur,rfl,hb,hgg,hn,hm,hs,ht⟩
 ·obtain rfl:rows=[]:=D8 hn;exact⟨none,0,rfl,Av _,by simp,fun _=>rfl,fun i x hx=>by simp at hx⟩
 ·refine⟨some ⟨g,0,none⟩,cap,by simp,by simpa using hn,hm,by simp,fun i r hr=>?_⟩;simp only[Bn,II]at hr;obtain⟨r',hr',rfl⟩:=hr;have hi:=(Ag.1 hr').1;obtain⟨u,hu⟩:∃u,us[i]?=some u:=⟨_,AO (by omega)⟩;refine⟨g,0,rfl,trivial,(Ba.1 hgg).1,u,?_,(h3 i r' u hr' hu).mono (fun _ _=>trivial)⟩;rw[Cg,Ig h1 i (by omega)];exact hu
abbrev SD (T:Tw)(tl:List (List Nat))(d:Nat)(x:List Nat):Prop:=Sd (El T) (mul T) (AB.one T) T.length fF (Ap T) (Al tl) d x
abbrev Jo (T:Tw)(im:List (List Nat))(tl:List (List Nat)):Prop:=Nw (El T) (mul T) (AB.one T) T.length fF (Ap T) im (Al tl)
def FD (T:Tw)(tl dn:List (List Nat))(k:Nat):Prop:=
 ∀d,(k≤d→(Al tl d=none→Al dn d=none)∧∀y,Al tl d=some y→∃s,SD T tl (d+1) s∧Al dn d=some (mul T y s)∧Zs fF (Al tl) (d+1) T.length (mul T y s))∧(d<k→Al dn d=none)
theorem ADb {T:Tw}{tl:List (List Nat)}{d d':Nat}{x:List Nat}(h:SD T tl d x)(hd:d'≤d):SD T tl d' x:=⟨WG h.1 hd,h.2⟩
theorem FD.row {T:Tw}{tl dn im:List (List Nat)}{k j:Nat}(h:FD T tl dn k)(hc:Jo T im tl)(hk:k≤j){r:List Nat}(hr:Al dn j=some r)(hj:j<T.length):SD T tl j r:=by
 have h1:=(h j).1 hk;cases ht:Al tl j with
 |none=>rw[h1.1 ht]at hr;simp at hr
 |some y=>
  obtain⟨s,hs,e,_⟩:=h1.2 y ht;rw[e]at hr;injection hr with hr;rw[←hr];exact(hc.sub j (DT hj)).cl (hc.mem j y ht) (ADb hs (by omega))
theorem FD.skip {T:Tw}{tl dn:List (List Nat)}{k:Nat}(h:FD T tl dn (k+1))(ht:Al tl k=none):FD T tl dn k:=fun d=>by
 refine⟨fun hk=>?_,fun hk=>(h d).2 (by omega)⟩;rcases CP k d with h1|h1
 ·exact(h d).1 h1
 ·obtain rfl:d=k:=by omega
  exact⟨fun _=>(h d).2 (by omega),fun y hy=>by rw[ht]at hy;simp at hy⟩
theorem FD.put {T:Tw}{tl dn:List (List Nat)}{k:Nat}{y s:List Nat}(h:FD T tl dn (k+1))(ht:Al tl k=some y)(hs:SD T tl (k+1) s)(hk:k<dn.length)(hne:mul T y s≠[])(hzs:Zs fF (Al tl) (k+1) T.length (mul T y s)):FD T tl (dn.set k (mul T y s)) k:=fun d=>by
 rw[fJ hk hne];unfold Gen.put;refine⟨fun hd=>?_,fun hd=>?_⟩
 ·by_cases e:d=k
  ·subst e;rw[Bo rfl];exact⟨fun h0=>by rw[ht]at h0;simp at h0,fun z hz=>by rw[ht]at hz;injection hz with hz;subst hz;exact⟨s,hs,rfl,hzs⟩⟩
  ·rw[BD e];exact(h d).1 (by omega)
 ·rw[BD (by omega)];exact(h d).2 (by omega)
theorem FD.none {T:Tw}{tl dn:List (List Nat)}{k j:Nat}(h:FD T tl dn k)(hk:k≤j)(hn:Al dn j=Option.none):Al tl j=Option.none:=by
 cases ht:Al tl j with
 |none=>rfl
 |some y=>
  obtain⟨s,_,e,_⟩:=((h j).1 hk).2 y ht;rw[e]at hn;simp at hn
theorem AJ8 {T:Tw}(hT:Wf T)(hg:AB.Good T){tl im:List (List Nat)}(hc:Jo T im tl)(dn:List (List Nat))(k j:Nat)(q x:List Nat)(d0:Nat)(h:FD T tl dn k)(hk:k≤j)(hj:j<T.length)(hq:Al dn j=some q)(hx:El T x)(hz:Zs fF (Al tl) d0 j x):
  Zs fF (Al tl) d0 (j+1) (mul T x (npow (mul T) (AB.one T) (Ap T q) (fF j x))):=by
 have F:=Em hT hg;have mK:=h.row hc hk hq hj;have hS:=hc.sub j (DT hj);have hp:=hS.npow (F.J2 hS mK) (fF j x);have UL:=hS.npow mK (fF j x);have hR:=EZ.fr hT hj hx hp.1;have h1:fF j q=1:=by
  have h1:=(h j).1 hk;cases ht:Al tl j with
  |none=>rw[h1.1 ht]at hq;simp at hq
  |some y=>
   obtain⟨s,hs,e,_⟩:=h1.2 y ht;rw[e]at hq;injection hq with hq;obtain⟨_,DL,hy1⟩:=hc.tb j y ht;have hsA:=GL.1 hs.1;rw[←hq,F.fm hj DL.1 hsA.1.1 DL.2 hsA.1.2,hy1,hsA.2];exact Ez (F.o2 j hj)
 have e1:fF j (mul T (npow (mul T) (AB.one T) q (fF j x)) (npow (mul T) (AB.one T) (Ap T q) (fF j x)))=0:=by rw[(F.TA mK.1.1 _).1,F.fe j hj]
 rw[F.fm hj UL.1.1 hp.1.1 UL.1.2 hp.1.2,F.J5 hj mK.1,h1,Ic,Nat.mod_add_mod]at e1;intro i hi hij hne;rcases CP i j with h3|h3
 ·rw[hR.1 i h3];exact hz i hi h3 hne
 ·obtain rfl:i=j:=by omega
  rw[hR.2];exact e1
theorem jf (n:Nat)(hn:n≤6)(w:World):(Instr.makeSlice 25 (.int .i64 (n:Int)) (.int .i64 (n:Int))).run Tryz.prog w= .ok (.slice (some ⟨w.heap.size,0,none⟩) n n) (w.alloc (.cells (madeCells #[.slice none 0 0] n) 24)):=
 run_make_row' (P:=Tryz.prog) 25 24 (.slice none 0 0) 24 Tryz.underlying25 Ie rfl .i64 .i64 n (by omega) (by omega) w
def ADc (T:Tw)(tl:List (List Nat))(w:World)(e:Ending)(w':World):Prop:=
 ∃v dn,e= .returned v∧dn.length=T.length∧FD T tl dn 0∧AP Any w' v ((BU (Al dn) T.length 0).map ints)∧Below w.heap.size w w'
theorem AIo (T:Tw)(hT:Wf T)(hs:Small T)(hg:AB.Good T)(hn0:0<T.length)(w:World)(vO vP vC vt:Value)(tl im:List (List Nat))(hP:BC Any w vO vP vC (AQ T))(ht:AP Any w vt (tl.map ints))(htl:tl.length=T.length)(hc:Jo T im tl):
  Calls Tryz.prog 165 #[.agg #[vO,vP,vC],vt] w (ADc T tl w):=by
 obtain⟨i0,hi,hz0,hz1,hz2⟩:=Bt Ie;have HP:=hid hP;have HT:=hid (AP.IE ht);have HG:=hid (BO hT hg);have FB:=hid hs;have HC:=hid hc;have Wq:=hid (AJ8 hT hg hc);have HF:=hid (Em hT hg);have En:=hid (fun r (h:El T r)=>(FJ hT hg h).1);have HM:=hid (fun W va vb a b hP ha hb hA hB=>YC T hT hs W vO vP vC va vb a b hP ha hb hA hB);have DY:=hid (fun W va a K hK mJ hP ha hA=>AAW T hT hs hg W vO vP vC va a K hK mJ hP ha hA);obtain⟨aU,cU,Us⟩:=AP.form ht;rw[htl]at Us;subst Us;have hs6:=hs.1;have hmk:=jf T.length hs6;obtain⟨wb,hwb⟩:∃wb,wb=w.alloc (.cells #[vO,vP,vC] 28):=⟨_,rfl⟩;have AM9:wb.heap.size=w.heap.size+1:=by rw[hwb];simp
 clear hP ht hT hs hg hc;obtain⟨g,hgg⟩:∃g,g=w.heap.size+1:=⟨_,rfl⟩;have HD0:=hid (show Dn (fun W u r=>AL (fun k=>k≠g) W u (ints r)) (wb.alloc (.cells (madeCells #[.slice none 0 0] T.length) 24)) g (List.replicate T.length []) by
  have:=Dn.made (R:=fun W u r=>AL (fun k=>k≠g) W u (ints r)) wb T.length (by unfold maxLen;omega) (gJ _ _);rw[AM9,←hgg]at this;exact this)
 have HB0:=hid (show Below (w.heap.size+1) (w.alloc (.cells #[vO,vP,vC] 28)) (wb.alloc (.cells (madeCells #[.slice none 0 0] T.length) 24)) by rw[←hwb];exact AX.alloc (by omega) _);have KL:=hid hgg;clear hgg;go_enter Tryz.func165,Tryz.ntmps165;go_upto_region 1 with fail;rw[←hwb];clear hwb;have d0:True:=trivial;have w9:IntKind.i64.wrap ((T.length:Int)-1)=(T.length:Int)-1:=AY _ (by omega);go_wp2_with fail;rw[←KL.out];go_loopw [6] (fun dv wr=>∃(k:Nat) (dn:List (List Nat)),k≤T.length∧dv= .int .i64 ((k:Int)-1)∧dn.length=T.length∧Hid (FD T tl dn k)∧Hid (Dn (fun W u r=>AL (fun k=>k≠g) W u (ints r)) wr g dn)∧Below (w.heap.size+1) (w.alloc (.cells #[vO,vP,vC] 28)) wr) (fun dv _=>(intOf dv+1).toNat);case atStart=>exact⟨T.length,List.replicate T.length [],Av _,rfl,by simp,hid (fun d=>by
   rw[VF];refine⟨fun hd=>⟨fun _=>rfl,fun y hy=>?_⟩,fun _=>rfl⟩;rw[AIn (by omega)]at hy;simp at hy),HD0,HB0.out⟩
 case round=>
  obtain⟨k,dn,hk,rfl,hdl,XL,af,hB⟩:=hrel;have yR:=hid hB;have hk5:=Dc hB Any;obtain⟨e0,e1,e2⟩:=Cq hB;have hsw:w.heap.size+1≤wr.heap.size:=by have:=hB.size;simp at this;omega
  have uT:=af.out.lt;have hgw:w.heap.size<g:=by have:=KL.out;omega
  clear hB HD0 HB0;by_cases h0:k=0
  ·subst h0;rw[show(((0:Nat):Int)-1)= -1 from rfl];have hd3:decide ((-1:Int)≥0)=false:=by simp
   have HTW:=hid (show Dn (fun W u r=>AL (fun k=>k<wr.heap.size) W u (ints r)) wr g dn from by
    obtain⟨us,h1,h2,h3⟩:=af.out;exact⟨us,h1,h2,fun i r u hr hu=>AL.IE (h3 i r u hr hu)⟩)
   have A9:=hid (Dq yR.out);have h00:=Fb (base:=wr.heap.size) (e:=24) (size:=1) wr #[] 0 AR (AU _) rfl;clear hk5 af;go_wp2_with fail;rename World=>wo;go_loopw [9,10] (fun ov iv wr=>∃(k:Nat) (rows:List (List Nat)),k≤T.length∧iv= .int .i64 (k:Int)∧rows.length≤k∧Hid (rows++BU (Al dn) (T.length-k) k=BU (Al dn) T.length 0)∧Hid (Tx wo.heap.size wr ov rows)∧Below wo.heap.size wo wr) (fun _ iv _=>T.length-(intOf iv).toNat);case atStart=>exact⟨0,[],AU _,rfl,Av _,hid rfl,hid ⟨[],h00,rfl,by simp⟩,AX.alloc AR _⟩
   case round=>
    obtain⟨k,rows,hk',rfl,hrl,hR,mM,hb⟩:=hrel;have HB:=hid hb;have OL:Dn (fun W u r=>AL (fun k=>k<wo.heap.size) W u (ints r)) wr g dn:=HTW.out.keep (AA.lt hb) uT (fun v r h=>AL.keep h (AA.lt hb));have QY:=OL.lt;clear hb h00;by_cases hlt:k<T.length
    ·obtain⟨j,hj⟩:∃j,T.length-k=j+1:=⟨T.length-k-1,by omega⟩;obtain⟨q,hq⟩:∃q,dn[k]?=some q:=⟨_,AO (by omega)⟩;have hR2:=hR.out;rw[hj]at hR2;obtain⟨uq,hcq,_,Gz⟩:=OL.at hq;obtain⟨aQ,cQ,rfl,_⟩:=AL.open Gz;obtain⟨lq,hlq⟩:∃lq,q.length=lq:=⟨_,rfl⟩;rw[hlq]at hcq Gz;have hkl:(k:Int)<(T.length:Int):=by omega
     have hk0:(0:Int)≤(k:Int):=by omega
     have XM:=hid hq;have HJ:=hid hj;have HR2:=hid hR2;have HRQ:=hid Gz;clear hq Gz OL hj hR2;by_cases hq0:q=[]
     ·obtain rfl:0=lq:=by rw[←hlq,hq0];rfl
      have NK:decide (((0:Nat):Int)>0)=false:=by simp
      have MH:=hid (show rows++BU (Al dn) (T.length-(k+1)) (k+1)=BU (Al dn) T.length 0 by
       rw[←HR2.out,BU,Pe (by rw[XM.out,hq0]),show T.length-(k+1)=j by have:=HJ.out;omega])
      clear hlt hlq hq0;go_wp2_with fail;go_roundw;case rel=>exact⟨k+1,rows,by omega,by go_num,by omega,MH,mM,HB.out⟩
      case measure=>simp[intOf]<;>omega
     ·have AEn:0<lq:=by
       have:q.length≠0:=fun h=>hq0 (D8 h);omega
      have NK:decide ((lq:Int)>0)=true:=by simp;omega
      have hqi:(0:Int)<(lq:Int):=by omega
      have MH:=hid (show(rows++[q])++BU (Al dn) (T.length-(k+1)) (k+1)=BU (Al dn) T.length 0 by
       rw[←HR2.out,BU,Jy XM.out hq0,show T.length-(k+1)=j by have:=HJ.out;omega];simp)
      obtain⟨us,h1,h2,h4⟩:=mM.out;have HU:=hid (And.intro h2 h4);clear hlq hlt h2 h4 mM hq0;go_wp2_with (at_builtin;(refine Fz _ rfl _ _ 25 rfl wo.heap.size 24 i0 (.slice none 0 0) 1 24 Tryz.underlying25 hi hz0 hz1 hz2 rfl (by decide) _ _ _ rfl (Br h1 (S:=Any) (AJ.alloc _) (fun _ _=>trivial)) ⟨wr.heap.size,0,none⟩ 1 1 [.slice aQ lq cQ] rfl rfl ?c1 ?c2 ?c3 ?c4 ?c5 ?_));case c1=>
       intro j u hj
       match j,hj with
       |0,hj=>simp at hj;subst hj;simp[Addr.add]
      case c2=>intro u hu;simp at hu;subst hu;rfl
      case c3=>unfold maxLen;omega
      case c4=>omega
      case c5=>have:=HB.out.size;simp;omega
      ·intro v' w2 hown hgrow _;have HN:=hid (show Tx wo.heap.size w2 v' (rows++[q]) from
        Tx.push (w:=wr.alloc _) (us:=us) rfl (by have:=HB.out.size;simp;omega) (Br h1 (S:=Any) (AJ.alloc _) (fun _ _=>trivial)) HU.out.1 (fun i r u hr hu=>AL.keep (HU.out.2 i r u hr hu) (AJ.alloc _)) (AL.keep HRQ.out (AJ.alloc _)) hown hgrow)
       have HB2:=hid (show Below wo.heap.size wo w2 from(HB.out.alloc (by have:=HB.out.size;omega) _).grown hgrow (by simp;have:=HB.out.size;omega) (fun g hg=>(Af h1 g hg).1));clear hown hgrow h1 HU;go_wp2_with fail;go_roundw;case rel=>exact⟨k+1,rows++[q],by omega,by go_num,by simp;omega,MH,HN,HB2.out⟩
       case measure=>simp[intOf]<;>omega
    ·obtain rfl:k=T.length:=by omega
     have HE:=hid (show rows=BU (Al dn) T.length 0 by
      have:=hR.out;rw[Nf]at this;rw[←this];simp[BU])
     have HR:=hid (show ADc T tl w (.returned _) wr from⟨_,dn,rfl,hdl,XL.out,by rw[←HE.out];exact mM.out.sl2,A9.out.trans (HB.out.mono A9.out.size)⟩);clear OL;go_wp2_with fail;go_ret;exact HR.out
  ·obtain⟨d,rfl⟩:∃d,k=d+1:=⟨k-1,by omega⟩;have hii:(((d+1:Nat):Int)-1)=(d:Int):=by omega
   rw[hii];obtain⟨r,hr⟩:∃r,tl[d]?=some r:=⟨_,AO (by omega)⟩;obtain⟨bU,oU,OI,vr,he,EU,Db,hrU⟩:=AP.Pn HT.out hr;obtain⟨rfl,rfl⟩:aU=some ⟨bU,oU,none⟩∧cU=OI:=by simp only[EY]at he;exact⟨he.1,he.2.2⟩
   have Y9:=(hk5.cell (b:=bU) (o:=oU+d) trivial EU).trans Db;have Uq:w.heap.size<wr.heap.size:=by omega
   have AEl:bU<wr.heap.size:=by omega
   have hwd:IntKind.i64.wrap ((d:Int)-1)=(d:Int)-1:=AY _ (by omega);have hdn:(d:Int)<(T.length:Int):=by omega
   have hd0:(0:Int)≤(d:Int):=by omega
   have Jd:=hid hk5;have OC:=hid (AL.mono (S':=fun k=>k≠g) (AL.keep hrU (hk5.mono (fun _ _=>trivial))) (fun k (hk:k<w.heap.size)=>by omega));obtain⟨aR,cR,rfl,_⟩:=AL.open hrU;have M9:=hid hr;clear hr he hrU Db hk5 h0 hii;by_cases hr0:r=[]
   ·subst hr0;have uU:=hid (XL.out.skip (Pe M9.out));go_wp2_with fail;go_roundw;case rel=>exact⟨d,dn,by omega,rfl,hdl,uU,af,yR.out⟩
    case measure=>simp[intOf]<;>omega
   ·have hrl:((r.length:Int)==0)=false:=by
     have:r.length≠0:=fun h=>hr0 (D8 h);simp;omega
    have mO:=hid (Jy M9.out hr0);have yS:=hid (HC.out.mem d r mO.out);have yT:=hid yS.out.1.1;have HSub:=hid (HC.out.sub (d+1) (by omega));have ANA:=hid (show AL (fun k=>k≠g) wr (.slice aR r.length cR) (ints (mul T r (AB.one T))) by rw[HG.out.eR yT.out];exact OC.out);have hwd2:IntKind.i64.wrap ((d:Int)+1)=(d:Int)+1:=AY _ (by omega);clear hr0;go_wp2_with fail;rename World=>wo;go_loopw [7,8] (fun xv ev wr=>∃(j:Nat) (s:List Nat),d+1≤j∧j≤T.length∧ev= .int .i64 (j:Int)∧Hid (SD T tl (d+1) s∧Zs fF (Al tl) (d+1) j (mul T r s))∧Hid (AL (fun k=>k≠g) wr xv (ints (mul T r s)))∧Below wo.heap.size wo wr) (fun _ ev _=>T.length-(intOf ev).toNat);case atStart=>exact⟨d+1,AB.one T,Av _,by omega,by go_num,hid ⟨HSub.out.me,fun i h1 h2=>by omega⟩,ANA,A7 _ _⟩
    case round=>
     obtain⟨j,s,hj1,hj,rfl,hS,hX,hbq⟩:=hrel;have XN:Below (w.heap.size+1) (w.alloc (.cells #[vO,vP,vC] 28)) wr:=yR.out.trans (hbq.mono hsw);have Aa:=hid XN;have hkq:=AA.of_below (S:=Any) hbq;have OL:Dn (fun W u r=>AL (fun k=>k≠g) W u (ints r)) wr g dn:=af.out.keep hkq trivial (fun v r h=>AL.keep h (AA.of_below hbq));have hsq:w.heap.size+1≤wr.heap.size:=Ad hsw hbq.size;have HSE:=hid hS.out.1.1.1;have IY:=hid (HG.out.cl yT.out HSE.out);have hxl:=AZ IY.out;obtain⟨aX,cX,hxv,hcx⟩:=hX.out.open;rw[hxl]at hxv hcx;subst hxv;obtain⟨f0,f1,f2⟩:=Cq XN;have AP1:w.heap.size<wr.heap.size:=by omega
     have QY:=OL.lt;by_cases hlt:j<T.length
     ·obtain⟨a,ha⟩:∃a,(mul T r s)[j]?=some a:=⟨_,AO (by omega)⟩;obtain⟨q,hq⟩:∃q,dn[j]?=some q:=⟨_,AO (by omega)⟩;have Zi:a<7:=FB.out.lt (s:=0) IY.out (AU _) ha;have yU:=hX.out;rw[←hxl]at yU;obtain⟨bX,oX,he,_,hbX,Fh⟩:=yU.at ha;subst he;obtain⟨uq,hcq,_,Gz⟩:=OL.at hq;obtain⟨aQ,cQ,rfl,_⟩:=AL.open Gz;obtain⟨lq,hlq⟩:∃lq,q.length=lq:=⟨_,rfl⟩;rw[hlq]at hcq Gz;have hjl:(j:Int)<(T.length:Int):=by omega
      have hj0:(0:Int)≤(j:Int):=by omega
      have aH:=hid (AL.mono (S':=Any) Gz (fun _ _=>trivial));have QX:=hid (AL.mono (S':=Any) hX.out (fun _ _=>trivial));have Dx:=hid (HP.out.keep (Dc XN Any));have XM:=hid hq;have OE:=hid (EZ.YH ha);clear ha hq Gz yU OL XN hkq;by_cases hq0:q=[]
      ·obtain rfl:0=lq:=by rw[←hlq,hq0];rfl
       have NK:decide (((0:Nat):Int)>0)=false:=by simp
       have Bv:=hid (And.intro hS.out.1 (show Zs fF (Al tl) (d+1) (j+1) (mul T r s) from fun i h1 h2 hne=>by
        rcases CP i j with h3|h3
        ·exact hS.out.2 i h1 h3 hne
        ·obtain rfl:i=j:=by omega
         exact absurd (XL.out.none hj1 (Pe (by rw[XM.out,hq0]))) hne))
       clear hlt hlq hq0;go_wp2_with fail;go_roundw;case rel=>exact⟨j+1,s,by omega,by omega,by go_num,Bv,hX,hbq⟩
       case measure=>simp[intOf]<;>omega
      ·have AEn:0<lq:=by
        have:q.length≠0:=fun h=>hq0 (D8 h);omega
       have NK:decide ((lq:Int)>0)=true:=by simp;omega
       have hqi:(0:Int)<(lq:Int):=by omega
       have HLQ:=hid hlq;clear hlq;by_cases ha0:a=0
       ·subst ha0;have hz:(((0:Nat):Int) !=0)=false:=by simp
        have Bv:=hid (And.intro hS.out.1 (show Zs fF (Al tl) (d+1) (j+1) (mul T r s) from fun i h1 h2 hne=>by
         rcases CP i j with h3|h3
         ·exact hS.out.2 i h1 h3 hne
         ·obtain rfl:i=j:=by omega
          exact OE.out))
        clear hlt;go_wp2_with fail;go_roundw;case rel=>exact⟨j+1,s,by omega,by omega,by go_num,Bv,hX,hbq⟩
        case measure=>simp[intOf]<;>omega
       ·have hz:((a:Int) !=0)=true:=by simp;omega
        have yV:=XL.out.row HC.out hj1 (Jy XM.out hq0) hlt;have Qd:=hid yV.1.1;have Qb:=hid (HG.out.npow (En.out q Qd.out) a);have HAS:=hid (HG.out.Am yT.out HSE.out Qb.out);have HS':=hid (And.intro (HSub.out.cl hS.out.1 (HSub.out.npow (HF.out.J2 HSub.out (ADb yV hj1)) a)) (show Zs fF (Al tl) (d+1) (j+1) (mul T r (mul T s (npow (mul T) (AB.one T) (Ap T q) a))) by
         rw[←HAS.out];have hzs:=Wq.out dn (d+1) j q _ (d+1) XL.out hj1 hlt (Jy XM.out hq0) IY.out hS.out.2;rw[OE.out]at hzs;exact hzs))
        have hap:0<a:=by omega
        have hwn:IntKind.i64.wrap (-(a:Int))= -(a:Int):=AY _ (by omega);clear yV hq0 hlt;go_wp2_with fail;go_region_held3 (fun w'=>(∀b o,b<wr.heap.size→w'.cell? ⟨b,o,none⟩=wr.cell? ⟨b,o,none⟩)∧AA (fun _=>True) wr w')
         (first|exact Au (by repeat(first|exact AJ.drew|exact AA.refl _ _|refine AA.trans ?_ (AA.of_below (by assumption)))))
         (first|(go_at_call 142;refine(DY.out _ (.slice aQ lq cQ) q a (by omega) hap (Dx.out.keep (by repeat(first|exact AJ.drew|exact AA.refl _ _|exact AJ.alloc _|exact(AJ.alloc _).drew|refine AA.trans ?_ (AA.of_below (by assumption))))) (aH.out.keep (by repeat(first|exact AJ.drew|exact AA.refl _ _|exact AJ.alloc _|exact(AJ.alloc _).drew|refine AA.trans ?_ (AA.of_below (by assumption))))) Qd.out).mono ?_;rintro e w6 ⟨v6,rfl,A8,hb6⟩)|(go_at_call_of 143 v6;refine(HM.out _ _ v6 _ _ (Dx.out.keep (by repeat(first|exact AJ.drew|exact AA.refl _ _|exact AJ.alloc _|exact(AJ.alloc _).drew|refine AA.trans ?_ (AA.of_below (by assumption))))) (QX.out.keep (by repeat(first|exact AJ.drew|exact AA.refl _ _|exact AJ.alloc _|exact(AJ.alloc _).drew|refine AA.trans ?_ (AA.of_below (by assumption))))) ((A8.sl.mono (fun _ _=>trivial)).keep (by repeat(first|exact AJ.drew|exact AA.refl _ _|exact AJ.alloc _|exact(AJ.alloc _).drew|refine AA.trans ?_ (AA.of_below (by assumption))))) IY.out Qb.out).mono ?_;rintro e w8 ⟨v8,rfl,FI,CJ⟩))
        have hs7:wr.heap.size≤w6.heap.size:=(show AA (fun _=>True) wr w6 from(by repeat(first|exact AJ.drew|exact AA.refl _ _|exact AJ.alloc _|exact(AJ.alloc _).drew|refine AA.trans ?_ (AA.of_below (by assumption))))).size;have Ut:=hid (show Below wo.heap.size wo w8 from(by repeat(first|exact hbq|exact hbq.drew|refine Below.step ?_ AR (by assumption))));rw[HAS.out]at FI;have Lt:=hid (FI.sl.mono (S':=fun k=>k≠g) (fun k hk=>by omega));clear A8 FI hb6 CJ hbq;go_wp2_with fail;go_roundw;case rel=>exact⟨j+1,_,by omega,by omega,by go_num,HS',Lt,Ut.out⟩
        case measure=>simp[intOf]<;>omega
     ·obtain rfl:j=T.length:=by omega
      obtain⟨q,hq⟩:∃q,dn[d]?=some q:=⟨_,AO (by omega)⟩;obtain⟨uq,hcq,hfq,_⟩:=OL.at hq;have uU:=hid (XL.out.put mO.out hS.out.1 (by omega) (fun h=>by have:=hxl;rw[h]at this;simp at this;omega) hS.out.2);have ANB:=hid (Dn.set (u:=.slice aX T.length cX) (y:=mul T r s) OL d (fun _ _ _ _=>trivial) (fun v r h=>AL.keep h (AJ.setCell (by simp) _)) hX.out);have xR:=hid (XN.setCell (p:=⟨g,d,none⟩) (by have:=KL.out;show _≤g;omega) (.slice aX T.length cX));clear OL XN hkq hq hlt;go_wp2_with fail;go_roundw;case rel=>exact⟨d,dn.set d (mul T r s),by omega,rfl,by simp[hdl],uU,ANB,xR.out⟩
      case measure=>simp[intOf]<;>omega
end Go.Proofs.YtaadbccidfdniaaGreat.FZ
namespace Go.Proofs.YtaadbccidfdniaaGreat.V5
open Go.RowKit Go.Proofs.YtaadbccidfdniaaGreat AB Gen Cu KS JU Dr Kc Nk Hg Pz V4 Oe ADa FZ
theorem mP {gk a l:Nat}(h:gk=a+(l+1)):a+l<gk:=by omega
theorem AEo {gk a n l c:Nat}(h:gk=(a+1)*(n+3)+(l+1))(hc:c≤n):a*(n+3)+(l+2+c)<gk:=by rw[h,Nat.succ_mul];omega
def emp:List (List Nat)→Nat
 |[]=>0
 |r::tl=>(if r=[]then 1 else 0)+emp tl
theorem qb:∀{tl:List (List Nat)} {d:Nat} {y:List Nat},tl[d]?=some []→y≠[]→emp (tl.set d y)+1=emp tl
 |[],d,y,h,_=>by simp at h
 |r::tl,0,y,h,hy=>by
  simp at h;subst h;simp[emp,hy];omega
 |r::tl,d+1,y,h,hy=>by
  have:=qb (tl:=tl) (d:=d) (by simpa using h) hy;simp only[CS,emp];omega
theorem ACu:∀tl:List (List Nat),emp tl≤tl.length
 |[]=>Av _
 |r::tl=>by have:=ACu tl;simp only[emp,Hl];split<;>omega
noncomputable def cm (T:Tw)(tl:List (List Nat))(d:Nat)(y:List Nat):Nat→List (List Nat)
 |0=>[]
 |e+1=>cm T tl d y e++(if e=d then []else match Al tl e with
  |none=>[]
  |some z=>[CF (mul T) (Ap T) y z])
theorem AA1 (T:Tw)(tl:List (List Nat))(d:Nat)(y:List Nat):∀e,(cm T tl d y e).length≤e
 |0=>Av _
 |e+1=>by
  have:=AA1 T tl d y e;rw[cm,Cs];split
  ·simp;omega
  ·split
   ·simp;omega
   ·simp;omega
theorem ACv {T:Tw}{tl:List (List Nat)}{d:Nat}{y:List Nat}:∀{e j:Nat} {z:List Nat},j<e→j≠d→Al tl j=some z→CF (mul T) (Ap T) y z∈cm T tl d y e
 |0,j,z,h,_,_=>absurd h (CO _)
 |e+1,j,z,h,hd,hz=>by
  rw[cm];rcases EB.1 h with h1|h1
  ·exact TM _ (ACv h1 hd hz)
  ·subst h1;rw[BD hd,hz];exact TK _ DJ
theorem ACw {T:Tw}{tl:List (List Nat)}{d:Nat}{y w:List Nat}:∀{e:Nat},w∈cm T tl d y e→∃j z,j≠d∧Al tl j=some z∧w=CF (mul T) (Ap T) y z
 |0,h=>by simp[cm]at h
 |e+1,h=>by
  rw[cm]at h;rcases GY.1 h with h1|h1
  ·exact ACw h1
  ·by_cases hd:e=d
   ·rw[Bo hd]at h1;simp at h1
   ·rw[BD hd]at h1;cases hz:Al tl e with
    |none=>rw[hz]at h1;simp at h1
    |some z=>
     rw[hz]at h1;simp only[GU]at h1;exact⟨e,z,hd,hz,h1⟩
def RX (B:Nat)(w:World)(u:Value)(r:List Nat):Prop:=(r=[]∧u= .slice none 0 0)∨Ck 2 B w u r
theorem RX.sl {B:Nat}{w:World}{u:Value}{r:List Nat}(h:RX B w u r):AL Any w u (ints r):=by
 rcases h with⟨rfl,rfl⟩|h
 ·exact gJ _ _
 ·exact h.sl.mono (fun _ _=>trivial)
theorem RX.keep {B:Nat}{w w':World}{u:Value}{r:List Nat}(h:RX B w u r)(hk:AA (fun k=>B≤k) w w'):RX B w' u r:=by
 rcases h with h|h
 ·exact .inl h
 ·exact .inr (h.keep hk (fun _ h=>h))
structure St (w W0 wr:World)(wv:Value)(tl rows:List (List Nat)):Prop where
 wk:Own2 24 2 (w.heap.size+2) wr wv rows
 tb:Dn (RX (w.heap.size+2)) wr (w.heap.size+1) tl
 bl:Below (w.heap.size+1) W0 wr
 sz:w.heap.size+2≤wr.heap.size
theorem St.below {w W0 wr w':World}{wv:Value}{tl rows:List (List Nat)}(h:St w W0 wr wv tl rows)(hb:Below wr.heap.size wr w'):St w W0 w' wv tl rows:=
 ⟨h.wk.of_below hb,h.tb.keep (S:=Any) (AA.of_below hb) trivial (fun _ _ hr=>hr.keep (AA.of_below hb)),h.bl.trans (hb.mono (by have:=h.sz;omega)),Ad h.sz hb.size⟩
theorem St.grow {w W0 wa w':World}{wv v' u:Value}{tl rows:List (List Nat)}{r:List Nat}{us:List Value}(h:St w W0 wa wv tl rows)
  (h1:wa.ownsRow (w.heap.size+2) 24 1 wv rows.length us) (h2:us.length=rows.length) (h4:∀(i:Nat) (r:List Nat) (u:Value),rows[i]?=some r→us[i]?=some u→Ck 2 (w.heap.size+2) wa u r)
  (hu:Ck 2 (w.heap.size+2) wa u r) (ho:w'.ownsRow (w.heap.size+2) 24 1 v' (rows.length+1) (us++[u])) (hg:wa.grownBy w' wv.ownBlock):St w W0 w' v' tl (rows++[r]):=by
 have hlow:∀k,wv.ownBlock=some k→w.heap.size+2≤k:=fun k hk=>(Af h1 k hk).1;have hk:AA (fun k=>k<w.heap.size+2) wa w':=AA.grown hg (fun k hk e=>by have:=hlow k e.symm;omega);have hbl:Below (w.heap.size+2) wa w':=AX.grown hg h.sz hlow;refine⟨Own2.push (by decide) rfl h1 h2 h4 hu ho hg,h.tb.keep hk (by omega) (fun v r hr=>?_),h.bl.trans (hbl.mono (by omega)),Ad h.sz hbl.size⟩;rcases hr with hr|hr
 ·exact .inl hr
 ·exact .inr ⟨hr.1,Np hr.2 hg (LF hr.2 h1 (by decide))⟩
theorem St.put {w W0 wr:World}{wv u:Value}{tl rows:List (List Nat)}{y:List Nat}(h:St w W0 wr wv tl rows)(d:Nat)(hu:Ck 2 (w.heap.size+2) wr u y):St w W0 (wr.setCell ⟨w.heap.size+1,d,none⟩ u) wv (tl.set d y) rows:=by
 have hk:AA (fun k=>w.heap.size+2≤k) wr (wr.setCell ⟨w.heap.size+1,d,none⟩ u):=AJ.setCell (by simp) _;exact⟨h.wk.keep hk (fun _ h=>h),h.tb.set d (fun _ _ _ _=>trivial) (fun v r hr=>hr.keep hk) (.inr hu),h.bl.setCell (p:=⟨w.heap.size+1,d,none⟩) AR _,by simpa using h.sz⟩
theorem St.pop {w W0 wr:World}{g c:Nat}{tl rows:List (List Nat)}{x:List Nat}(h:St w W0 wr (.slice (some ⟨g,0,none⟩) (rows++[x]).length c) tl (rows++[x])):St w W0 wr (.slice (some ⟨g,0,none⟩) rows.length c) tl rows:=
 ⟨Own2.pop h.wk,h.tb,h.bl,h.sz⟩
theorem qD {B B' n:Nat}{w w':World}{u v:Value}{r:List Nat}{us:List Value}(h:Ck 2 B w u r)(h1:w.ownsRow B' 24 1 v n us)(hg:w.grownBy w' v.ownBlock):Ck 2 B w' u r:=
 ⟨h.1,Np h.2 hg (LF h.2 h1 (by decide))⟩
theorem X6 {B:Nat}{w:World}{v:Value}{y:List Nat}(h:Own B w v (ints y))(hy:0<y.length):Ck 2 B w v y:=by
 obtain⟨g,c,hv⟩:=h.form (by rw[BL];exact hy);rw[BL]at hv;unfold Own at h;rw[BL]at h;exact⟨⟨g,c,hv⟩,h⟩
abbrev INV (T:Tw)(im tl rows:List (List Nat)):Prop:=Inv (El T) (mul T) (AB.one T) T.length (oF T) fF (Ap T) im (Al tl) rows
def iK (T:Tw)(im:List (List Nat))(w:World)(e:Ending)(w':World):Prop:=
 ∃v tl dn,e= .returned v∧Jo T im tl∧dn.length=T.length∧FD T tl dn 0∧AP Any w' v ((BU (Al dn) T.length 0).map ints)∧Below w.heap.size w w'
theorem AH1 (T:Tw)(hT:Wf T)(hs:Small T)(hg:AB.Good T)(hp:Pr T)(hn0:0<T.length)(w:World)(vO vP vC vi:Value)(im:List (List Nat))(hP:BC Any w vO vP vC (AQ T))(hi2:AP Any w vi (im.map ints))(him:∀x∈im,El T x)(hl:im.length≤6):
  Calls Tryz.prog 138 #[.agg #[vO,vP,vC],vi] w (iK T im w):=by
 obtain⟨i0,hi,hz0,hz1,hz2⟩:=Bt Ie;obtain⟨aO,cO,aP,cP,aC,cC,rfl,rfl,rfl,Eo,hP1,FC⟩:=hP.open;have HP:=hid hP;have Jg:=hid him;have Jp:=hid hi2;have HG:=hid (BO hT hg);have FB:=hid hs;have Bw:=hid hp;have HF:=hid (Em hT hg);have AEp:=hid (fun W vt vx tl x hP ht htl hx hE hr=>AH0 T hT hs hg W (.slice aO T.length cO) (.slice aP T.length cP) (.slice aC T.length cC) vt vx tl x hP ht htl hx hE hr);have DY:=hid (fun W va a K hK hP ha hA=>ny T hT hs hg W (.slice aO T.length cO) (.slice aP T.length cP) (.slice aC T.length cC) va a K hK hP ha hA);have HCM:=hid (fun W va vb a b hP ha hb hA hB=>AIm T hT hs hg W (.slice aO T.length cO) (.slice aP T.length cP) (.slice aC T.length cC) va vb a b hP ha hb hA hB);have HFU:=hid (fun W vt tl hP ht htl hc=>AIo T hT hs hg hn0 W (.slice aO T.length cO) (.slice aP T.length cP) (.slice aC T.length cC) vt tl im hP ht htl hc);have HOW:=hid (fun W hv=>X5 W vi im hv (by omega) (fun r hr=>by rw[AZ (him r hr)];have:=hs.1;omega));have hs6:=hs.1;have hmk:=jf T.length hs6;obtain⟨W0,hW0⟩:∃W0,W0=w.alloc (.cells #[.slice aO T.length cO,.slice aP T.length cP,.slice aC T.length cC] 28):=⟨_,rfl⟩;have uV:W0.heap.size=w.heap.size+1:=by rw[hW0];simp
 have HB0:=hid (show Below (w.heap.size+1) (w.alloc (.cells #[.slice aO T.length cO,.slice aP T.length cP,.slice aC T.length cC] 28)) W0 by rw[hW0];exact A7 _ _);have HD0:=hid (show Dn (RX (w.heap.size+2)) (W0.alloc (.cells (madeCells #[.slice none 0 0] T.length) 24)) (w.heap.size+1) (List.replicate T.length []) by
  have:=Dn.made (R:=RX (w.heap.size+2)) W0 T.length (by unfold maxLen;omega) (.inl ⟨rfl,rfl⟩);rw[uV]at this;exact this)
 clear hP hi2 him hT hs hg hp;go_enter Tryz.func138,Tryz.ntmps138;go_upto_region 2 with fail;rw[←hW0];clear hW0;obtain⟨e0,_,_⟩:=Cq HB0.out;go_wp2_with fail;refine(HOW.out _ (Jp.out.keep (AA.trans (Dc HB0.out Any) (AJ.alloc _)))).mono ?_;rintro e w1 ⟨v1,rfl,ho1,hb1⟩;have BI:=hid (show St w W0 w1 v1 (List.replicate T.length []) im from by
  have hz:(W0.alloc (.cells (madeCells #[.slice none 0 0] T.length) 24)).heap.size=w.heap.size+2:=by simp;omega
  rw[hz]at ho1 hb1;exact⟨ho1,HD0.out.keep (S:=Any) (AA.of_below (by rw[hz];exact hb1)) trivial (fun _ _ hr=>hr.keep (AA.of_below (by rw[hz];exact hb1))),(AX.alloc (by omega) _).trans (hb1.mono (by omega)),by have:=hb1.size;omega⟩)
 clear ho1 hb1 HD0 HOW Jp hmk e0;go_wp2_with fail;go_loopg [7] (T.length*(T.length+3)+im.length) (fun gk wv wr=>∃tl rows:List (List Nat),tl.length=T.length∧gk≤100∧gk=emp tl*(T.length+3)+rows.length∧Hid (INV T im tl rows)∧Hid (St w W0 wr wv tl rows));case atStart=>
  refine⟨List.replicate T.length [],im,by simp,by have:=Nat.mul_le_mul hs6 (show T.length+3≤9 by omega);omega,?_,hid (by unfold INV;rw[VF];exact Inv.start HF.out Jg.out),BI⟩;have:∀n,emp (List.replicate n [])=n:=fun n=>by
   induction n with
   |zero=>rfl
   |succ n ih=>rw[List.replicate_succ,emp,ih,Bo rfl];omega
  rw[this]
 case round=>
  obtain⟨tl,rows,htl,Yi,Uu,Ip,hST⟩:=hrel;have HST:=hid hST.out;have hBx:=HB0.out.trans hST.out.bl;have hkx:=Dc hBx Any;obtain⟨e0,e1,e2⟩:=Cq hBx;have hrl:rows.length≤100:=by omega
  have Bc:=hid (HP.out.keep hkx);have Uq:w.heap.size<wr.heap.size:=by have:=HST.out.sz;omega
  have Qe:=hid (show AP Any wr (.slice (some ⟨w.heap.size+1,0,none⟩) T.length T.length) (tl.map ints) by
   have:=Dn.sl2 HST.out.tb (fun _ _ h=>h.sl);rwa[htl]at this)
  by_cases hr0:rows=[]
  ·subst hr0;obtain⟨aW,cW,hwv,_,_⟩:=HST.out.wk.form;simp only[List.length_nil]at hwv;subst hwv;have hd0:decide (((0:Nat):Int)>0)=false:=by simp
   have AEq:=hid (Ip.out.Ze HF.out Jg.out);have A9:=hid (Dq hBx);clear hBx hkx hST Uu;go_wp2_with fail;refine(HFU.out _ _ tl Bc.out Qe.out htl AEq.out).mono ?_;rintro e w2 ⟨v2,dn,rfl,h1,h2,h3,h4⟩;have HR:=hid (show iK T im w (.returned v2) w2 from⟨v2,tl,dn,rfl,AEq.out,h1,h2,h3,A9.out.trans (h4.mono A9.out.size)⟩);clear h1 h2 h3 h4;go_wp2_with fail;go_ret;exact HR.out
  ·obtain⟨rs,x,rfl⟩:∃rs x,rows=rs++[x]:=⟨_,_,(List.dropLast_concat_getLast hr0).symm⟩;obtain⟨gw,cw,u,hwv,AP2,AP3,Ep,Co⟩:=HST.out.wk.at (i:=rs.length) (r:=x) (by simp);obtain⟨lr,hlr⟩:∃lr,rs.length=lr:=⟨_,rfl⟩;obtain⟨m,hm⟩:∃m,(rs++[x]).length=m:=⟨_,rfl⟩;have hml:m=lr+1:=by rw[←hm,←hlr];simp
   have hmc:m≤cw:=by
    obtain⟨a',c',h1,h2,_⟩:=HST.out.wk.form;rw[hwv]at h1;simp only[EY]at h1;omega
   have yX:=hid (show St w W0 wr (.slice (some ⟨gw,0,none⟩) rs.length cw) tl rs from by
    have h:=HST.out;rw[hwv]at h;exact h.pop)
   rw[hm]at hwv;rw[hlr]at Ep yX;subst hwv;have C9:El T x:=(Gen.sub HG.out Jg.out).le (Ip.out.wg x (TK _ DJ));have DN:=hid C9;have KT:=hid (Co.sl.mono (S':=Any) (fun _ _=>trivial));obtain⟨⟨gu,cu,rfl⟩,_⟩:=Co;have HTE:=hid (show∀r∈tl,r≠[]→El T r from fun r hr hne=>by
    obtain⟨j,hj⟩:=GM hr;exact(Ip.out.tb j r (Jy hj hne)).2.1.1)
   have hd0:decide ((m:Int)>0)=true:=by simp;omega
   have hm0:(0:Int)<(m:Int):=by omega
   have hw1:IntKind.i64.wrap ((m:Int)-1)=(lr:Int):=by rw[AY _ (by omega)];omega
   have hlm:(lr:Int)<(m:Int):=by omega
   have hl0:(0:Int)≤(lr:Int):=by omega
   have hlc:(lr:Int)≤(cw:Int):=by omega
   have AEr:0<m:=by omega
   have AK6:lr≤100:=by omega
   have SG:=hid (show gk=emp tl*(T.length+3)+(lr+1) by rw[Uu,hm,hml]);have NL:=hid hml;have LC:=hid hlr;have EE:=hid hBx;have hwl:wrap64 ((m:Int)-1)=(lr:Int):=(Cm.wrap_i64 (by omega) (by omega)).trans (by omega);obtain⟨d,rest,hs⟩:∃d rest,Io T tl T.length 0 x=(d,rest):=⟨_,_,rfl⟩;have XB:=hid (show Calls Tryz.prog 162 #[.agg #[.slice aO T.length cO,.slice aP T.length cP,.slice aC T.length cC],.slice (some ⟨w.heap.size+1,0,none⟩) T.length T.length,.slice (some ⟨gu,0,none⟩) x.length cu] wr fun e w'=>∃v,e= .returned (.tuple #[.int .i64 (d:Int),v])∧Own wr.heap.size w' v (ints rest)∧El T rest∧Below wr.heap.size wr w' from by
    have h:=AEp.out wr _ _ tl x Bc.out Qe.out htl KT.out DN.out HTE.out;unfold iJ at h;rw[hs]at h;exact h)
   have hle:d≤T.length:=by
    have:=(pq (m:=mul T) (e:=AB.one T) (f:=fF) (inv:=Ap T) (Al tl) T.length 0 x).2;rw[show strip (mul T) (AB.one T) fF (Ap T) (Al tl) T.length 0 x=(d,rest) from hs]at this;simpa using this
   have rT:=hid hs;clear hr0 C9 hBx hkx hST hml hlr hm Uu hs Bc Qe KT AEp;go_wp2_with fail;refine XB.out.mono ?_;rintro e w2 ⟨v2,rfl,ho2,hE2,hb2⟩;have HW2:=hid (yX.out.below hb2);have HB2:=hid (EE.out.trans (hb2.mono (by omega)));have AP4:=hb2.size;by_cases hdn:d=T.length
   ·have hq:((d:Int)==(T.length:Int))=true:=by simp;omega
    have Uv:=hid (Ip.out.member (by rw[show strip (mul T) (AB.one T) fF (Ap T) (Al tl) T.length 0 x=(d,rest) from rT.out];exact hdn));clear ho2 hE2 hb2;go_wp2_with fail;go_roundg (emp tl*(T.length+3)+lr);case measure=>exact mP SG.out
    case rel=>exact⟨tl,rs,htl,Ad (DT (mP SG.out)) Yi,by rw[LC.out],Uv,HW2⟩
   ·have hq:((d:Int)==(T.length:Int))=false:=by simp;omega
    have Mm:d<T.length:=by omega
    obtain⟨L,hL⟩:∃L,T[d]?=some L:=⟨_,AO Mm⟩;have XO:=HF.out.YB Ip.out.tb T.length 0 x (by omega) ⟨DN.out,fun j hj=>absurd hj (CO _)⟩;rw[show strip (mul T) (AB.one T) fF (Ap T) (Al tl) T.length 0 x=(d,rest) from rT.out]at XO;have hA:=XO.1;obtain⟨hf0,htd⟩:=XO.2 Mm;simp only at hA hf0 htd;obtain⟨a,ha⟩:∃a,rest[d]?=some a:=⟨_,AO (by rw[AZ hE2];exact Mm)⟩;have hfa:fF d rest=a:=by unfold fF;rw[BV,ha];rfl
    have ha0:a≠0:=fun h=>hf0 (hfa.trans h);have hao:a<L.o:=by
     obtain⟨L',hL',hlt⟩:=LP hE2 ha;rw[hL]at hL';injection hL' with hL';rw[hL'];exact hlt
    have hpr:=Bw.out L (Ak hL);have ah:oF T d=L.o:=J7 hL;obtain⟨bO,oO,rfl,_,CQ,BS⟩:=HP.out.ord hL;obtain⟨g2,c2,hv2⟩:=ho2.form (by rw[BL,AZ hE2];exact hn0);rw[BL,AZ hE2]at hv2;subst hv2;obtain⟨s2,_⟩:=ho2.cell (j:=d) (a:=(a:Int)) (by rw[Fx,ha];rfl);have hk2:=Dc HB2.out Any;obtain⟨f0,f1,f2⟩:=Cq HB2.out;have Td:=(hk2.cell (b:=bO) (o:=oO+d) trivial CQ).trans BS;have hs2:w.heap.size+2≤w2.heap.size:=HW2.out.sz;have AP5:w.heap.size<w2.heap.size:=by omega
    have RP:bO<w2.heap.size:=by omega
    have AP6:=ho2.lt.2;have hdi:(d:Int)<(T.length:Int):=by omega
    have uX:(0:Int)≤(d:Int):=by omega
    have Zv:=hid (HP.out.keep hk2);have HR2:=hid (ho2.sl.mono (S':=Any) (fun _ _=>trivial));have HRW:=hid (X6 (ho2.mono (B':=w.heap.size+2) (by have:=HST.out.sz;exact this)) (by rw[AZ hE2];exact hn0));have HA:=hid (And.intro hA (And.intro htd (And.intro hfa ah)));have uY:=hid hpr;have HE2:=hid hE2;have AEs:L.o≤7:=FB.out.2 L (Ak hL);have M0:=hid BS;clear XO hA htd hf0 hfa ah ha ho2 hk2 hpr hL hE2 hdn BS e0 e1 e2 Ep;go_wp2_with fail;go_region_held3 (fun w'=>(∀b o,b<w2.heap.size→w'.cell? ⟨b,o,none⟩=w2.cell? ⟨b,o,none⟩)∧AA (fun _=>True) w2 w')
     (first|exact Au (by repeat(first|exact AJ.drew|exact AA.refl _ _|refine AA.trans ?_ (AA.of_below (by assumption)))))
     (first|(go_at_call 163;refine(AJ5 a L.o uY.out hao ha0 _).mono ?_;rintro e w5 ⟨⟨c,rfl,hcp,hc1⟩,rfl⟩)|(go_at_call 142;refine(DY.out _ (.slice (some ⟨g2,0,none⟩) T.length c2) rest c (by omega) (Zv.out.keep (by repeat(first|exact AJ.drew|exact AA.refl _ _|exact AJ.alloc _|exact(AJ.alloc _).drew|refine AA.trans ?_ (AA.of_below (by assumption))))) (HR2.out.keep (by repeat(first|exact AJ.drew|exact AA.refl _ _|exact AJ.alloc _|exact(AJ.alloc _).drew|refine AA.trans ?_ (AA.of_below (by assumption))))) HE2.out).mono ?_;rintro e w6 ⟨v6,rfl,A8,hb6⟩))
    have uZ:Below w2.heap.size w2 w6:=(by repeat(first|exact A7 _ _|exact AX.drew|refine Below.step ?_ AR (by assumption)));obtain⟨y,hy⟩:∃y,y=npow (mul T) (AB.one T) rest c:=⟨_,rfl⟩;rw[←hy]at A8;have EF:El T y:=by rw[hy];exact HG.out.npow HE2.out c
    have hy1:fF d y=1:=by
     rw[hy,HF.out.J5 Mm HA.out.1,HA.out.2.2.1,HA.out.2.2.2,Oh];exact hc1
    have HY:=hid (And.intro hy (And.intro EF hy1));obtain⟨gy,cy,hv6⟩:=A8.form (by rw[BL,AZ EF];exact hn0);rw[BL,AZ EF]at hv6;subst hv6;have XP:=hid (X6 (A8.mono (B':=w.heap.size+2) (by have h1:=(show AA (fun _=>True) w2 w2.drew from AJ.drew).size;omega)) (by rw[AZ EF];exact hn0));have Ab:=hid (HW2.out.below uZ);have Tz:tl[d]?=some []:=by
     cases htd:tl[d]? with
     |none=>have:=List.getElem?_eq_none_iff.1 htd;omega
     |some r=>cases r with
      |nil=>rfl
      |cons q r=>have h:=Jy htd (by simp);rw[HA.out.2.1]at h;simp at h
    obtain⟨ut,hct,hft,_⟩:=Ab.out.tb.at Tz;have mO:=hid Tz;obtain⟨w7,hw7⟩:∃w7,w7=w6.setCell ⟨w.heap.size+1,d,none⟩ (.slice (some ⟨gy,0,none⟩) T.length cy):=⟨_,rfl⟩;have ET:=hid (show St w W0 w7 _ (tl.set d y) rs by rw[hw7];exact Ab.out.put d XP.out);have QS:=hid (show Ck 2 (w.heap.size+2) w7 (.slice (some ⟨g2,0,none⟩) T.length c2) rest by rw[hw7];exact Ck.keep (Ck.keep HRW.out (S:=Any) (AA.of_below uZ) (fun _ _=>trivial)) (S:=fun k=>w.heap.size+2≤k) (AJ.setCell (p:=⟨w.heap.size+1,d,none⟩) (by simp) (.slice (some ⟨gy,0,none⟩) T.length cy)) (fun _ h=>h));have AEt:=hid (show Ck 2 (w.heap.size+2) w7 (.slice (some ⟨gy,0,none⟩) T.length cy) y by rw[hw7];exact Ck.keep XP.out (S:=fun k=>w.heap.size+2≤k) (AJ.setCell (p:=⟨w.heap.size+1,d,none⟩) (by simp) (.slice (some ⟨gy,0,none⟩) T.length cy)) (fun _ h=>h));clear hy EF hy1 A8 hb6 uZ Tz Td s2 f0 f1 f2 hb2;obtain⟨us,h1,h2,h4⟩:=ET.out.wk;rw[LC.out]at h1;have Kz:=hid (And.intro h2 h4);have hs7:=ET.out.sz;clear h2 h4;go_upto_region 11 with fail;rw[←hw7];clear hw7 hct hft;go_wp2_with (at_builtin;(refine Fz _ rfl _ _ 25 rfl (w.heap.size+2) 24 i0 (.slice none 0 0) 1 24 Tryz.underlying25 hi hz0 hz1 hz2 rfl (by decide) _ _ _ rfl (Br h1 (S:=Any) (AJ.alloc _) (fun _ _=>trivial)) ⟨w7.heap.size,0,none⟩ 1 1 [.slice (some ⟨g2,0,none⟩) T.length c2] rfl rfl ?c1 ?c2 ?c3 ?c4 ?c5 ?_));case c1=>
     intro j u hj
     match j,hj with
     |0,hj=>simp at hj;subst hj;simp[Addr.add]
    case c2=>intro u hu;simp at hu;subst hu;rfl
    case c3=>unfold maxLen;omega
    case c4=>omega
    case c5=>simp;omega
    ·intro v8 w8 hown hgrow _;have DZ:=hid (show St w W0 w8 v8 (tl.set d y) (rs++[rest]) from
      St.grow (ET.out.below (AX.alloc AR _)) (us:=us) (by rw[LC.out];exact Br h1 (S:=Any) (AJ.alloc _) (fun _ _=>trivial)) Kz.out.1 (fun i r u hr hu=>(Kz.out.2 i r u hr hu).keep (S:=Any) (AJ.alloc _) (fun _ _=>trivial)) (QS.out.keep (S:=Any) (AJ.alloc _) (fun _ _=>trivial)) (by rw[LC.out];exact hown) hgrow)
     have uf:=hid (show Ck 2 (w.heap.size+2) w8 (.slice (some ⟨gy,0,none⟩) T.length cy) y from
      qD (AEt.out.keep (S:=Any) (AJ.alloc _) (fun _ _=>trivial)) (Br h1 (S:=Any) (AJ.alloc _) (fun _ _=>trivial)) hgrow)
     have Uh:=HB0.out.trans DZ.out.bl;have MF:=Dc Uh Any;obtain⟨f0,f1,f2⟩:=Cq Uh;have ANC:=(MF.cell (b:=bO) (o:=oO+d) trivial CQ).trans M0.out;have K7:=DZ.out.sz;have ANE:w.heap.size<w8.heap.size:=by omega
     have ANF:bO<w8.heap.size:=by omega
     have IW:=hid (HP.out.keep MF);have aj:=hid (uf.out.sl.mono (S':=Any) (fun _ _=>trivial));have ak:=hid (HG.out.npow HY.out.2.1 L.o);obtain⟨Uw,q1,q2,q4⟩:=DZ.out.wk;rw[show(rs++[rest]).length=lr+1 by simp[LC.out]]at q1;have PK:=hid (And.intro q1 (And.intro q2 q4));have EN:=hid (show(rs++[rest]).length=lr+1 by simp[LC.out]);clear hown hgrow h1 Kz Uh MF q1 q2 q4 ET QS AEt M0;go_upto_region 12 with fail;go_cut [7] (fun wv W=>Hid (St w W0 W wv (tl.set d y) (rs++[rest]++[npow (mul T) (AB.one T) y L.o]))∧Hid (Ck 2 (w.heap.size+2) W (.slice (some ⟨gy,0,none⟩) T.length cy) y));case first=>
      go_region_law
       (first|(go_simp;go_at_call 142;refine(DY.out _ (.slice (some ⟨gy,0,none⟩) T.length cy) y L.o (by omega) (IW.out.keep (by repeat(first|exact AJ.drew|exact AA.refl _ _|exact AJ.alloc _|exact(AJ.alloc _).drew|refine AA.trans ?_ (AA.of_below (by assumption))))) (aj.out.keep (by repeat(first|exact AJ.drew|exact AA.refl _ _|exact AJ.alloc _|exact(AJ.alloc _).drew|refine AA.trans ?_ (AA.of_below (by assumption))))) HY.out.2.1).mono ?_;rintro e w9 ⟨v9,rfl,OM,EG⟩;obtain⟨g9,c9,az⟩:=OM.form (by rw[BL,AZ ak.out];exact hn0);rw[BL,AZ ak.out]at az;subst az;have MB:=EG.size;have AEu:w8.heap.size≤w9.heap.size:=(show AA (fun _=>True) w8 w9 from(by repeat(first|exact AJ.drew|exact AA.refl _ _|exact AJ.alloc _|exact(AJ.alloc _).drew|refine AA.trans ?_ (AA.of_below (by assumption))))).size)|(refine Pv _ (by rfl) _ _ _ (by rfl) (w.heap.size+2) 24 i0 (.slice none 0 0) 1 24 Tryz.underlying25 hi hz0 hz1 hz2 rfl (by omega) v8 (lr+1) Uw (by rfl) ((Br PK.out.1 (S:=Any) (by repeat(first|exact AJ.drew|exact AA.refl _ _|exact AJ.alloc _|exact(AJ.alloc _).drew|refine AA.trans ?_ (AA.of_below (by assumption)))) (fun _ _=>trivial)).alloc _) ⟨w9.heap.size,0,none⟩ 1 1 [.slice (some ⟨g9,0,none⟩) T.length c9] (by rfl) (by rfl) (GN (cs:= #[.slice (some ⟨g9,0,none⟩) T.length c9]) (t:=24) (fr:=(0,0)) (BA w9 _)) (by simp[Value.oneCell']) (by omega) (by unfold maxLen;omega) (by omega) (by simp;omega) _ rfl ?_;intro gg cap Bj IG Ef LW Me))
      all_goals (go_wp2_with fail;go_meet)
      all_goals
       have RY:Below w8.heap.size w8 w9:=(by repeat(first|exact A7 _ _|exact AX.drew|refine Below.step ?_ AR (by assumption)));have RZ:AA (fun _=>True) w8 w9:=AA.of_below RY;have Qf:=Br PK.out.1 (S:=Any) (AA.alloc RZ (.cells #[.slice (some ⟨g9,0,none⟩) T.length c9] 24)) (fun _ _=>trivial);have ANG:St w W0 Bj (.slice (some ⟨gg,0,none⟩) (lr+1+1) cap) (tl.set d y) (rs++[rest]++[npow (mul T) (AB.one T) y L.o]):=
        St.grow (DZ.out.below (RY.alloc RY.size _)) (us:=Uw) (by rw[EN.out];exact Qf) PK.out.2.1 (fun i r u hr hu=>(PK.out.2.2 i r u hr hu).keep (S:=Any) (AA.alloc RZ _) (fun _ _=>trivial)) ((X6 (OM.mono (B':=w.heap.size+2) K7) (by rw[AZ ak.out];exact hn0)).keep (S:=Any) (AA.alloc AJ _) (fun _ _=>trivial)) (by rw[EN.out];exact IG) Ef
       have ANH:Ck 2 (w.heap.size+2) Bj (.slice (some ⟨gy,0,none⟩) T.length cy) y:=qD (uf.out.keep (S:=Any) (AA.alloc RZ _) (fun _ _=>trivial)) Qf Ef;exact⟨hid ANG,hid ANH⟩
     case rest=>
      obtain⟨I7,HY9⟩:=hcut;clear DZ uf IW aj PK ANC f0 f1 f2 K7 ANE ANF Ab XP HRW HW2 yX HB2 Zv HR2 EE;go_wp2_with fail;go_loopw [7,12] (fun wv ev wr=>∃(e:Nat) (EW:List (List Nat)),e≤T.length∧ev= .int .i64 (e:Int)∧EW.length≤lr+2+e∧Hid (EW=rs++[rest]++[npow (mul T) (AB.one T) y L.o]++cm T tl d y e)∧Hid (St w W0 wr wv (tl.set d y) EW)∧Hid (Ck 2 (w.heap.size+2) wr (.slice (some ⟨gy,0,none⟩) T.length cy) y)) (fun _ ev _=>T.length-(intOf ev).toNat);case atStart=>exact⟨0,_,AU _,rfl,by simp[LC.out],hid (by simp[cm]),I7,HY9⟩
      case round=>
       obtain⟨e,EW,he,rfl,hrl2,hR2,hS2,hY2⟩:=hrel;have PL:=HB0.out.trans hS2.out.bl;have hke:=Dc PL Any;obtain⟨f0,f1,f2⟩:=Cq PL;have hse:=hS2.out.sz;have AP7:w.heap.size<wr.heap.size:=by omega
       clear I7 HY9;by_cases hlt:e<T.length
       ·by_cases Ux:e=d
        ·have hq:((e:Int) !=(d:Int))=false:=by simp[Ux]
         have MH:=hid (show EW=rs++[rest]++[npow (mul T) (AB.one T) y L.o]++cm T tl d y (e+1) by rw[cm,Bo Ux,La];exact hR2.out);subst Ux;clear PL hke hlt;go_wp2_with fail;go_roundw;case rel=>exact⟨e+1,EW,by omega,by go_num,by omega,MH,hS2,hY2⟩
         case measure=>simp[intOf]<;>omega
        ·have hq:((e:Int) !=(d:Int))=true:=by simp;omega
         have hei:(e:Int)<(T.length:Int):=by omega
         have ANI:(0:Int)≤(e:Int):=by omega
         obtain⟨q,Kw⟩:∃q,tl[e]?=some q:=⟨_,AO (by omega)⟩;obtain⟨uq,hcq,_,Gz⟩:=hS2.out.tb.at (i:=e) (r:=q) (by rw[Q9 (fun h=>Ux h.symm)];exact Kw);have hRs:=Gz.sl;obtain⟨aQ,cQ,rfl,_⟩:=AL.open hRs;obtain⟨lq,hlq⟩:∃lq,q.length=lq:=⟨_,rfl⟩;rw[hlq]at hcq hRs;have HQS:=hid hRs;have yY:=hid Kw;have HED:=hid Ux;have HPe:=hid (HP.out.keep hke);have HYe:=hid (hY2.out.sl.mono (S':=Any) (fun _ _=>trivial));clear Gz hRs Kw PL hke;by_cases hq0:q=[]
         ·obtain rfl:0=lq:=by rw[←hlq,hq0];rfl
          have NK:decide (((0:Nat):Int)>0)=false:=by simp
          have MH:=hid (show EW=rs++[rest]++[npow (mul T) (AB.one T) y L.o]++cm T tl d y (e+1) by rw[cm,BD HED.out,Pe (by rw[yY.out,hq0]),La];exact hR2.out);clear hlq hq0 hlt Ux;go_wp2_with fail;go_roundw;case rel=>exact⟨e+1,EW,by omega,by go_num,by omega,MH,hS2,hY2⟩
          case measure=>simp[intOf]<;>omega
         ·have AEn:0<lq:=by
           have:q.length≠0:=fun h=>hq0 (D8 h);omega
          have NK:decide ((lq:Int)>0)=true:=by simp;omega
          have Qd:=hid (Ip.out.tb e q (Jy yY.out hq0)).2.1.1;have Lr:=hid (show El T (CF (mul T) (Ap T) y q) from(by
           have h1:=HG.out.cl Qd.out HY.out.2.1;have h2:=HG.out.cl HY.out.2.1 Qd.out;exact HG.out.cl (HF.out.iM h1) h2))
          have MH:=hid (show EW++[CF (mul T) (Ap T) y q]=rs++[rest]++[npow (mul T) (AB.one T) y L.o]++cm T tl d y (e+1) by rw[cm,BD HED.out,Jy yY.out hq0,hR2.out,Ih]);obtain⟨Uw,q1,q2,q4⟩:=hS2.out.wk;have PK:=hid (And.intro q1 (And.intro q2 q4));clear hlq hq0 hlt Ux q1 q2 q4;go_upto_region 17 with fail;rename World=>w8;go_region_law
           (first|(go_simp;go_at_call 164;refine(HCM.out _ (.slice (some ⟨gy,0,none⟩) T.length cy) (.slice aQ lq cQ) y q (HPe.out.keep (by repeat(first|exact AJ.drew|exact AA.refl _ _|exact AJ.alloc _|exact(AJ.alloc _).drew|refine AA.trans ?_ (AA.of_below (by assumption))))) (HYe.out.keep (by repeat(first|exact AJ.drew|exact AA.refl _ _|exact AJ.alloc _|exact(AJ.alloc _).drew|refine AA.trans ?_ (AA.of_below (by assumption))))) (HQS.out.keep (by repeat(first|exact AJ.drew|exact AA.refl _ _|exact AJ.alloc _|exact(AJ.alloc _).drew|refine AA.trans ?_ (AA.of_below (by assumption))))) HY.out.2.1 Qd.out).mono ?_;rintro e' w9 ⟨v9,rfl,OM,EG⟩;obtain⟨g9,c9,az⟩:=OM.form (by rw[BL,AZ Lr.out];exact hn0);rw[BL,AZ Lr.out]at az;subst az;have MB:=EG.size;have AEu:w8.heap.size≤w9.heap.size:=(show AA (fun _=>True) w8 w9 from(by repeat(first|exact AJ.drew|exact AA.refl _ _|exact AJ.alloc _|exact(AJ.alloc _).drew|refine AA.trans ?_ (AA.of_below (by assumption))))).size)|(refine Pv _ (by rfl) _ _ _ (by rfl) (w.heap.size+2) 24 i0 (.slice none 0 0) 1 24 Tryz.underlying25 hi hz0 hz1 hz2 rfl (by omega) _ EW.length Uw (by rfl) ((Br PK.out.1 (S:=Any) (by repeat(first|exact AJ.drew|exact AA.refl _ _|exact AJ.alloc _|exact(AJ.alloc _).drew|refine AA.trans ?_ (AA.of_below (by assumption)))) (fun _ _=>trivial)).alloc _) ⟨w9.heap.size,0,none⟩ 1 1 [.slice (some ⟨g9,0,none⟩) T.length c9] (by rfl) (by rfl) (GN (cs:= #[.slice (some ⟨g9,0,none⟩) T.length c9]) (t:=24) (fr:=(0,0)) (BA w9 _)) (by simp[Value.oneCell']) (by omega) (by unfold maxLen;omega) (by omega) (by simp;omega) _ rfl ?_;intro gg cap Bj IG Ef LW Me))
          all_goals
           have RY:Below w8.heap.size w8 w9:=(by repeat(first|exact A7 _ _|exact AX.drew|refine Below.step ?_ AR (by assumption)));have RZ:AA (fun _=>True) w8 w9:=AA.of_below RY;have Qf:=Br PK.out.1 (S:=Any) (AA.alloc RZ (.cells #[.slice (some ⟨g9,0,none⟩) T.length c9] 24)) (fun _ _=>trivial);have uh:=hid (show St w W0 Bj (.slice (some ⟨gg,0,none⟩) (EW.length+1) cap) (tl.set d y) (EW++[CF (mul T) (Ap T) y q]) from
            St.grow (hS2.out.below (RY.alloc RY.size _)) (us:=Uw) Qf PK.out.2.1 (fun i r u hr hu=>(PK.out.2.2 i r u hr hu).keep (S:=Any) (AA.alloc RZ _) (fun _ _=>trivial)) ((X6 (OM.mono (B':=w.heap.size+2) hse) (by rw[AZ Lr.out];exact hn0)).keep (S:=Any) (AA.alloc AJ _) (fun _ _=>trivial)) IG Ef)
           have uj:=hid (show Ck 2 (w.heap.size+2) Bj (.slice (some ⟨gy,0,none⟩) T.length cy) y from qD (hY2.out.keep (S:=Any) (AA.alloc RZ _) (fun _ _=>trivial)) Qf Ef);clear RY RZ Qf IG Ef LW Me OM EG MB AEu;go_wp2_with fail;go_roundw;case rel=>exact⟨e+1,_,by omega,by go_num,by simp;omega,MH,uh,uj⟩
           case measure=>simp[intOf]<;>omega
       ·obtain rfl:e=T.length:=by omega
        have hem:=qb mO.out (y:=y) (fun h=>by have:=AZ HY.out.2.1;rw[h]at this;simp only[List.length_nil]at this;omega);have IY:=hid (show emp (tl.set d y)*(T.length+3)+(lr+2+(cm T tl d y T.length).length)<gk from AEo (by rw[hem];exact SG.out) (AA1 T tl d y T.length));have HL2:=hid (show EW.length=lr+2+(cm T tl d y T.length).length by rw[hR2.out];simp[LC.out];omega);have Uv:=hid (show INV T im (tl.set d y) EW from by
         unfold INV;rw[fJ (by omega) (fun h=>by have:=AZ HY.out.2.1;rw[h]at this;simp only[List.length_nil]at this;omega),hR2.out];refine Ip.out.enter HF.out Jg.out rT.out Mm HY.out.1 HY.out.2.2 (fun w hw=>by simp[hw]) (by simp) (by rw[HA.out.2.2.2];simp) (fun j z hj hz=>?_) (fun w hw=>?_)
         ·exact TK _ (ACv (Ip.out.tb j z hz).1 hj hz)
         ·rcases GY.1 hw with h|h
          ·rcases GY.1 h with h|h
           ·rcases GY.1 h with h|h
            ·exact .inl h
            ·exact .inr (.inl (GU.1 h))
           ·exact .inr (.inr (.inl (by rw[HA.out.2.2.2];exact GU.1 h)))
          ·exact .inr (.inr (.inr (ACw h))))
        clear hem PL hke hlt;go_wp2_with fail;go_roundg (emp (tl.set d y)*(T.length+3)+EW.length);case measure=>rw[HL2.out];exact IY.out
        case rel=>exact⟨tl.set d y,EW,by simp[htl],Ad (DT (by rw[HL2.out];exact IY.out)) Yi,rfl,Uv,hS2⟩
end Go.Proofs.YtaadbccidfdniaaGreat.V5
