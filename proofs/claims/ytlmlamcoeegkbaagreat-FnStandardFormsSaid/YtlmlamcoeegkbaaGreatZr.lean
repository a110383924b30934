import Derived.Test.YtlmlamcoeegkbaaGreatZ0
import Derived.Test.YtlmlamcoeegkbaaGreatZb
import Derived.Test.YtlmlamcoeegkbaaGreatZq
/-
  Lemmas for the law FnStandardForms, in short spelling.
-/
open Go.Lib (hid)
set_option linter.unusedVariables false
set_option linter.unusedSimpArgs false
set_option maxRecDepth 100000
set_option maxHeartbeats 40000000
namespace Go.Proofs.YtlmlamcoeegkbaaGreat.R5
open Go.RowKit Go.Proofs.YtlmlamcoeegkbaaGreat AJ Gen Dq
def BQ (tl:List (List Nat))(d:Nat):Option (List Nat):=match tl[d]? with
 |some (a::y)=>some (a::y)
 |_=>none
theorem NW {tl:List (List Nat)}{d:Nat}{r:List Nat}(h:tl[d]?=some r)(hr:r≠[]):BQ tl d=some r:=by
 unfold BQ;rw[h];cases r with
 |nil=>exact absurd rfl hr
 |cons a y=>rfl
theorem Vh {tl:List (List Nat)}{d:Nat}(h:tl[d]?=some []):BQ tl d=none:=by unfold BQ;rw[h]
theorem AF0 {tl:List (List Nat)}{d:Nat}(h:tl.length≤d):BQ tl d=none:=by unfold BQ;rw[MZ h]
theorem zJ {tl:List (List Nat)}{d:Nat}{y:List Nat}(hd:d<tl.length)(hy:y≠[]):BQ (tl.set d y)=put (BQ tl) d y:=by
 funext j;unfold put;by_cases hj:j=d
 ·subst hj;rw[CU rfl,NW (by rw[Oz hd]) hy]
 ·rw[BU hj];unfold BQ;rw[Pz (fun h=>hj h.symm)]
theorem jP (n:Nat):BQ (List.replicate n [])=fun _=>none:=by
 funext j;unfold BQ;rw[Nl];split<;>first|rfl|(next h=>split at h<;>simp at h)
def Ep (R:World→Value→List Nat→Prop)(w:World)(g:Nat)(tl:List (List Nat)):Prop:=
 ∃us,w.ownsRow 0 24 1 (.slice (some ⟨g,0,none⟩) tl.length tl.length) tl.length us∧us.length=tl.length∧∀(i:Nat) (r:List Nat) (u:Value),tl[i]?=some r→us[i]?=some u→R w u r
theorem Ep.lt {R:World→Value→List Nat→Prop}{w:World}{g:Nat}{tl:List (List Nat)}(h:Ep R w g tl):g<w.heap.size:=by
 obtain⟨us,h1,_⟩:=h;exact(BH h1 g rfl).2
theorem Ep.at {R:World→Value→List Nat→Prop}{w:World}{g:Nat}{tl:List (List Nat)}(h:Ep R w g tl){i:Nat}{r:List Nat}(hr:tl[i]?=some r):∃u,w.cell? ⟨g,i,none⟩=some u∧w.frozen? ⟨g,i,none⟩=false∧R w u r:=by
 obtain⟨us,h1,h2,h3⟩:=h;have hi:=(Ak.1 hr).1;obtain⟨u,hu⟩:∃u,us[i]?=some u:=⟨_,AP (by omega)⟩;exact⟨u,by rw[Ma h1 i (by omega)];exact hu,WH h1 i,h3 i r u hr hu⟩
theorem Ep.set {R:World→Value→List Nat→Prop}{w:World}{g:Nat}{tl:List (List Nat)}(h:Ep R w g tl)(d:Nat){u:Value}{y:List Nat}(hk:∀u r,R w u r→R (w.setCell ⟨g,d,none⟩ u) u r→True)
  (hR:∀v r,R w v r→R (w.setCell ⟨g,d,none⟩ u) v r) (hu:R w u y):Ep R (w.setCell ⟨g,d,none⟩ u) g (tl.set d y):=by
 obtain⟨us,h1,h2,h3⟩:=h;refine⟨us.set d u,?_,by simp[h2],fun i r v hr hv=>?_⟩
 ·have:=(Py h1 d u).1;simpa using this
 ·by_cases hi:i=d
  ·subst hi;have hil:i<tl.length:=by
    have:=(Ak.1 hr).1;simpa using this
   rw[Oz hil]at hr;rw[Oz (by omega)]at hv;injection hr with hr;injection hv with hv;subst hr;subst hv;exact hR _ _ hu
  ·rw[Pz (fun h=>hi h.symm)]at hr hv;exact hR _ _ (h3 i r v hr hv)
theorem Ep.keep {R:World→Value→List Nat→Prop}{S:Nat→Prop}{w w':World}{g:Nat}{tl:List (List Nat)}(h:Ep R w g tl)(hk:AA S w w')(hg:S g)(hR:∀v r,R w v r→R w' v r):Ep R w' g tl:=by
 obtain⟨us,h1,h2,h3⟩:=h;refine⟨us,⟨h1.1,?_⟩,h2,fun i r v hr hv=>hR _ _ (h3 i r v hr hv)⟩;rcases h1.2 with⟨h,_⟩|⟨g',cap,cur,h,hb,hgg,hrest⟩
 ·cases h
 ·cases h;refine .inr ⟨g,_,cur,rfl,hb,?_,hrest⟩;rw[hk.block g hg (BX.1 hgg).1];exact hgg
theorem Ep.sl2 {R:World→Value→List Nat→Prop}{w:World}{g:Nat}{tl:List (List Nat)}(h:Ep R w g tl)(hR:∀v r,R w v r→AL (fun _=>True) w v (ints r)):AV (fun _=>True) w (.slice (some ⟨g,0,none⟩) tl.length tl.length) (tl.map ints):=by
 have hlt:=h.lt;have hm:tl.length≤maxLen:=by
  obtain⟨us,h1,_⟩:=h;rcases h1.2 with⟨h,_⟩|⟨g',cap,cur,h,hb,hgg,_,hm,_⟩
  ·cases h
  ·cases h;exact hm
 refine⟨some ⟨g,0,none⟩,tl.length,by simp,by simp,hm,by simp,fun i r hr=>?_⟩;simp only[Em,Oy]at hr;obtain⟨r',hr',rfl⟩:=hr;obtain⟨u,hu,_,hok⟩:=h.at hr';exact⟨g,0,rfl,trivial,hlt,u,by rw[D5];exact hu,hR _ _ hok⟩
theorem Ep.made {R:World→Value→List Nat→Prop}(w:World)(n:Nat)(hn:n≤maxLen)(hR:R (w.alloc (.cells (madeCells #[.slice none 0 0] n) 24)) (.slice none 0 0) []):Ep R (w.alloc (.cells (madeCells #[.slice none 0 0] n) 24)) w.heap.size (List.replicate n []):=by
 refine⟨List.replicate n (.slice none 0 0),?_,by simp,fun i r u hr hu=>?_⟩
 ·have:=KT (base:=0) (e:=24) (size:=1) w (madeCells #[.slice none 0 0] n) n (AU _) hn (by simp[madeCells]);rw[Ni]at this;simpa using this
 ·rw[Nl]at hr hu;split at hr
  ·next h=>
   rw[CU h]at hu;injection hr with hr;injection hu with hu;subst hr;subst hu;exact hR
  ·simp at hr
theorem AAM (S:Nat→Prop)(w:World):AL S w (.slice none 0 0) (ints []):=⟨none,0,rfl,Ap _,by simp,fun _=>rfl,fun i x hx=>by simp[ints]at hx⟩
theorem Own2.pop {e2 e:TypeId}{B:Nat}{w:World}{g c:Nat}{rows:List (List Nat)}{r:List Nat}(h:Own2 e2 e B w (.slice (some ⟨g,0,none⟩) (rows++[r]).length c) (rows++[r])):Own2 e2 e B w (.slice (some ⟨g,0,none⟩) rows.length c) rows:=by
 obtain⟨us,h1,h2,h3⟩:=h;have hl:us.length=rows.length+1:=by rw[h2];simp
 refine⟨us.take rows.length,⟨by simp;omega,?_⟩,by simp;omega,fun i r' u hr hu=>?_⟩
 ·rcases h1.2 with⟨h,_⟩|⟨g',cap,cur,h,hb,hgg,hn,hm,hs,ht⟩
  ·cases h
  ·cases h;refine .inr ⟨g,c,cur,rfl,hb,hgg,by simp at hn;omega,hm,hs,?_⟩;rw[←ht,List.take_take];congr 1;simp
 ·have hi:=(Ak.1 hr).1;rw[WL hi]at hu;exact h3 i r' u (by rw[GN hi];exact hr) hu
end Go.Proofs.YtlmlamcoeegkbaaGreat.R5
namespace Go.Proofs.YtlmlamcoeegkbaaGreat.ABP
open Go.RowKit Go.Proofs.YtlmlamcoeegkbaaGreat AJ Gen Dq R5 IK DL JA LD JB Nj P8 LF
noncomputable abbrev IY (T:Tw)(tl:List (List Nat))(k d:Nat)(x:List Nat):Nat×List Nat:=strip (mul T) (AJ.one T) fF (BS T) (BQ tl) k d x
def Zt (T:Tw)(tl:List (List Nat))(x:List Nat)(w:World)(e:Ending)(w':World):Prop:=
 ∃v,e= .returned (.tuple #[.int .i64 ((IY T tl T.length 0 x).1:Int),v])∧Own w.heap.size w' v (ints (IY T tl T.length 0 x).2)∧El T (IY T tl T.length 0 x).2∧Below w.heap.size w w'
theorem AE8 (T:Tw)(hT:Wf T)(hs:Small T)(hg:AJ.Good T)(w:World)(vO vP vC vt vx:Value)(tl:List (List Nat))(x:List Nat)(hP:Aw Any w vO vP vC (AX T))(ht:AV Any w vt (tl.map ints))(htl:tl.length=T.length)(hx:AL Any w vx (ints x))(hE:El T x)(hr:∀r∈tl,r≠[]→El T r):
  Calls Tryz.prog 206 #[.agg #[vO,vP,vC],vt,vx] w (Zt T tl x w):=by
 have HP:=hid hP;have HT:=hid ht;have HX:=hid hx;have HE:=hid hE;have uu:=hid hr;have HG:=hid (Ba hT hg);have JP:=hid hs;have Ev:=hid (fun r (h:El T r)=>(FH hT hg h).1);have HM:=hid (fun W va vb a b hP ha hb hA hB=>Q8 T hT hs W vO vP vC va vb a b hP ha hb hA hB);have Cy:=hid (fun W va a K hK Pg hP ha hA=>xR T hT hs hg W vO vP vC va a K hK Pg hP ha hA);obtain⟨aU,cU,JU⟩:=AV.form ht;rw[htl]at JU;subst JU;have hxl:(ints x).length≤1000000:=by rw[A7,Af hE];have:=hs.1;omega
 have hs6:=hs.1;clear hP ht hx hE hr hT hs hg;go_enter Tryz.func206,Tryz.ntmps206;go_wp2_with fail;refine(MM Any _ _ _ (HX.out.keep (AB.alloc _)) hxl).mono ?_;rintro e w1 ⟨g1,c1,rfl,ho1,hb1⟩;have HB1:=hid (show Below (w.heap.size+1) (w.alloc (.cells #[vO,vP,vC] 28)) w1 from hb1.mono (by simp));have Db:=hid (ho1.mono (B':=w.heap.size) (by simp));clear ho1 hb1;go_wp2_with fail;go_loopw [8,9] (fun ov iv wr=>∃(k:Nat) (y:List Nat),k≤T.length∧iv= .int .i64 (k:Int)∧Hid (Own w.heap.size wr ov (ints y))∧Hid (El T y∧IY T tl (T.length-k) k y=IY T tl T.length 0 x)∧Below (w.heap.size+1) (w.alloc (.cells #[vO,vP,vC] 28)) wr) (fun _ iv _=>T.length-(intOf iv).toNat);case atStart=>exact⟨0,x,AU _,rfl,Db,hid ⟨HE.out,rfl⟩,HB1.out⟩
 case round=>
  obtain⟨k,y,hk,rfl,hO,hY,hB⟩:=hrel;have AZ:=hid hB;have hk5:=DW hB Any;obtain⟨e0,e1,e2⟩:=Cc hB;have hsw:w.heap.size+1≤wr.heap.size:=by have:=hB.size;simp at this;omega
  have hyl:=Af hY.out.1;clear hB;by_cases hlt:k<T.length
  ·obtain⟨j,hj⟩:∃j,T.length-k=j+1:=⟨T.length-k-1,by omega⟩;have uw:=hY.out.2;rw[hj]at uw;obtain⟨a,ha⟩:∃a,y[k]?=some a:=⟨_,AP (by omega)⟩;obtain⟨r,hr⟩:∃r,tl[k]?=some r:=⟨_,AP (by omega)⟩;have fo:a<7:=JP.out.lt (s:=0) hY.out.1 (AU _) ha;have hfa:fF k y=a:=by unfold fF;rw[Bg,ha];rfl
   obtain⟨gv,cv,hov⟩:=hO.out.form (by rw[A7];omega);rw[A7,hyl]at hov;subst hov;obtain⟨s1,f1⟩:=hO.out.cell (j:=k) (a:=(a:Int)) (by rw[Gg,ha];rfl);obtain⟨bU,oU,Mm,vr,he,Lc,Ic,hrU⟩:=AV.Og HT.out hr;obtain⟨rfl,rfl⟩:aU=some ⟨bU,oU,none⟩∧cU=Mm:=by simp only[C8]at he;exact⟨he.1,he.2.2⟩
   have Wm:=(hk5.cell (b:=bU) (o:=oU+k) trivial Lc).trans Ic;have R8:w.heap.size<wr.heap.size:=by omega
   have ACy:bU<wr.heap.size:=by omega
   have hgv:gv<wr.heap.size:=hO.out.lt.2;obtain⟨aR,cR,rfl,_⟩:=AL.open hrU;have C9:=hid (HP.out.keep hk5);have NK:=hid (AL.keep hrU hk5);have Dc:=hid (hO.out.sl.mono (S':=Any) (fun _ _=>trivial));have hkl:(k:Int)<(T.length:Int):=by omega
   have AJ6:(k:Int)<(tl.length:Int):=by omega
   have hk0:(0:Int)≤(k:Int):=by omega
   have Mv:=hid (uu.out r (Ar hr));have Ip:=hid hr;have u7:=hid uw;have Kh:=hid hfa;have HJ:=hid hj;clear ha hr he hrU Ic uw hfa hk5 hj;by_cases ha0:a=0
   ·subst ha0;have vB:=hid (show IY T tl (T.length-(k+1)) (k+1) y=IY T tl T.length 0 x by
     rw[←u7.out,IY,IY,K4 Kh.out,show T.length-(k+1)=j by have:=HJ.out;omega])
    go_wp2_with fail;go_roundw;case rel=>exact⟨k+1,y,by omega,by go_num,hO,hid ⟨hY.out.1,vB.out⟩,AZ.out⟩
    case measure=>simp[intOf];omega
   ·have hz:((a:Int)==0)=false:=by simp;omega
    by_cases hr0:r=[]
    ·subst hr0;have HS:=hid (show IY T tl T.length 0 x=(k,y) by
      rw[←u7.out,IY,OY (by rw[Kh.out];exact ha0) (Vh Ip.out)])
     have Mo:=hid (Dx AZ.out);go_wp2_with fail;exact Am (v:=.tuple #[.int .i64 (k:Int),.slice (some ⟨gv,0,none⟩) T.length cv]) (by simp[results,Tryz.results206,go_sem]) rfl (by
      unfold Zt;rw[HS.out];exact⟨_,rfl,hO.out,hY.out.1,Mo.out⟩)
    ·have hrl:((r.length:Int)==0)=false:=by
      have:r.length≠0:=fun h=>hr0 (EY h);simp;omega
     have ACz:=hid (Mv.out hr0);have M9:=hid (HG.out.npow (Ev.out r ACz.out) a);have Fp:=hid (HG.out.cl hY.out.1 M9.out);have vB:=hid (show IY T tl (T.length-(k+1)) (k+1) (mul T y (npow (mul T) (AJ.one T) (BS T r) a))=IY T tl T.length 0 x by
      rw[←u7.out,IY,IY,NV (by rw[Kh.out];exact ha0) (NW Ip.out hr0),Kh.out,show T.length-(k+1)=j by have:=HJ.out;omega])
     have hap:0<a:=by omega
     have hwn:IntKind.i64.wrap (-(a:Int))= -(a:Int):=AY _ (by omega);clear hr0;go_wp2_with fail;go_region_held3 (fun w'=>(∀b o,b<wr.heap.size→w'.cell? ⟨b,o,none⟩=wr.cell? ⟨b,o,none⟩)∧AA (fun _=>True) wr w')
      (first|exact Aj (by repeat(first|exact AB.drew|exact AA.refl _ _|refine AA.trans ?_ (AA.of_below (by assumption)))))
      (first|(go_at_call 93;refine(Cy.out _ (.slice aR r.length cR) r a (by omega) hap (C9.out.keep (by repeat(first|exact AB.drew|exact AA.refl _ _|exact AB.alloc _|exact(AB.alloc _).drew|refine AA.trans ?_ (AA.of_below (by assumption))))) (NK.out.keep (by repeat(first|exact AB.drew|exact AA.refl _ _|exact AB.alloc _|exact(AB.alloc _).drew|refine AA.trans ?_ (AA.of_below (by assumption))))) ACz.out).mono ?_;rintro e w6 ⟨v6,rfl,Al,hb6⟩)|(go_at_call_of 92 v6;refine(HM.out _ _ v6 _ _ (C9.out.keep (by repeat(first|exact AB.drew|exact AA.refl _ _|exact AB.alloc _|exact(AB.alloc _).drew|refine AA.trans ?_ (AA.of_below (by assumption))))) (Dc.out.keep (by repeat(first|exact AB.drew|exact AA.refl _ _|exact AB.alloc _|exact(AB.alloc _).drew|refine AA.trans ?_ (AA.of_below (by assumption))))) ((Al.sl.mono (fun _ _=>trivial)).keep (by repeat(first|exact AB.drew|exact AA.refl _ _|exact AB.alloc _|exact(AB.alloc _).drew|refine AA.trans ?_ (AA.of_below (by assumption))))) hY.out.1 M9.out).mono ?_;rintro e w8 ⟨v8,rfl,Cx,CP⟩))
     have hs7:w.heap.size≤w6.heap.size:=by
      have:=(show AA (fun _=>True) wr w6 from(by repeat(first|exact AB.drew|exact AA.refl _ _|exact AB.alloc _|exact(AB.alloc _).drew|refine AA.trans ?_ (AA.of_below (by assumption))))).size;omega
     have Cr:=hid (show Below (w.heap.size+1) (w.alloc (.cells #[vO,vP,vC] 28)) w8 from(by repeat(first|exact AZ.out|exact AZ.out.drew|refine Below.step ?_ (by simp) (by assumption))));have Jk:=hid (Cx.mono hs7);clear Al Cx hb6 CP;go_wp2_with fail;go_roundw;case rel=>exact⟨k+1,_,by omega,by go_num,Jk,hid ⟨Fp.out,vB.out⟩,Cr.out⟩
     case measure=>simp[intOf];omega
  ·obtain rfl:k=T.length:=by omega
   have Mo:=hid (Dx AZ.out);have HS:=hid (show IY T tl T.length 0 x=(T.length,y) by
    have:=hY.out.2;rw[RI]at this;rw[←this];rfl)
   clear hk5;go_wp2_with fail;exact Am (by simp[results,Tryz.results206,go_sem];rfl) rfl (by
    unfold Zt;rw[HS.out];exact⟨_,rfl,hO.out,hY.out.1,Mo.out⟩)
end Go.Proofs.YtlmlamcoeegkbaaGreat.ABP
namespace Go.Proofs.YtlmlamcoeegkbaaGreat.Hf
open Go.RowKit Go.Proofs.YtlmlamcoeegkbaaGreat AJ Gen Dq R5 IK DL JA LD JB Nj P8 LF bQ
theorem Bl.Gh {α:Type}{E E':World→Value→α→Prop}{S:Nat→Prop}{w:World}{v:Value}{l:List α}(h:Bl E S w v l)(hE:∀u x,E w u x→E' w u x):Bl E' (fun k=>k<w.heap.size) w v l:=by
 obtain⟨ao,c,h1,h2,h3,h0,h4⟩:=h;refine⟨ao,c,h1,h2,h3,h0,fun i x hx=>?_⟩;obtain⟨b,o,e1,e2,e3,u,e4,e5⟩:=h4 i x hx;exact⟨b,o,e1,e3,e3,u,e4,hE _ _ e5⟩
theorem AL.Gh {S:Nat→Prop}{w:World}{v:Value}{l:List Int}(h:AL S w v l):AL (fun k=>k<w.heap.size) w v l:=Bl.Gh h (fun _ _ e=>e)
theorem AV.Gh {S:Nat→Prop}{w:World}{v:Value}{l:List (List Int)}(h:AV S w v l):AV (fun k=>k<w.heap.size) w v l:=Bl.Gh h (fun _ _ e=>AL.Gh e)
def Rp (B:Nat)(w:World)(v:Value)(rows:List (List Nat)):Prop:=
 ∃us,w.ownsRow B 24 1 v rows.length us∧us.length=rows.length∧∀(i:Nat) (r:List Nat) (u:Value),rows[i]?=some r→us[i]?=some u→AL (fun k=>k<B) w u (ints r)
theorem Rp.push {B n:Nat}{w w':World}{v v' u:Value}{rows:List (List Nat)}{r:List Nat}{us:List Value}(hn:rows.length=n)(hB:B≤w.heap.size)
  (h1:w.ownsRow B 24 1 v n us) (h2:us.length=rows.length) (h4:∀(i:Nat) (r:List Nat) (u:Value),rows[i]?=some r→us[i]?=some u→AL (fun k=>k<B) w u (ints r))
  (hu:AL (fun k=>k<B) w u (ints r)) (ho:w'.ownsRow B 24 1 v' (n+1) (us++[u])) (hg:w.grownBy w' v.ownBlock):Rp B w' v' (rows++[r]):=by
 subst hn;have hk:AA (fun k=>k<B) w w':=AA.grown hg (fun k hk e=>by have:=(BH h1 k e.symm).1;omega);refine⟨us++[u],by simpa using ho,by simp[h2],fun i r' u' hr' hu'=>AL.keep ?_ hk⟩;rcases Fe i rows.length with hi|hi
 ·rw[GN hi]at hr';rw[GN (by omega)]at hu';exact h4 i r' u' hr' hu'
 ·rw[Fb hi]at hr';rw[Fb (by omega)]at hu';rw[h2]at hu';rcases hj:i-rows.length with _|j
  ·rw[hj]at hr' hu';simp at hr' hu';subst hr';subst hu';exact hu
  ·rw[hj]at hr';simp at hr'
theorem Rp.sl2 {B:Nat}{w:World}{v:Value}{rows:List (List Nat)}(h:Rp B w v rows):AV Any w v (rows.map ints):=by
 obtain⟨us,h1,h2,h3⟩:=h;rcases h1.2 with⟨rfl,hn⟩|⟨g,cap,cur,rfl,hb,hgg,hn,hm,hs,ht⟩
 ·obtain rfl:rows=[]:=EY hn;exact⟨none,0,rfl,Ap _,by simp,fun _=>rfl,fun i x hx=>by simp at hx⟩
 ·refine⟨some ⟨g,0,none⟩,cap,by simp,by simpa using hn,hm,by simp,fun i r hr=>?_⟩;simp only[Em,Oy]at hr;obtain⟨r',hr',rfl⟩:=hr;have hi:=(Ak.1 hr').1;obtain⟨u,hu⟩:∃u,us[i]?=some u:=⟨_,AP (by omega)⟩;refine⟨g,0,rfl,trivial,(BX.1 hgg).1,u,?_,(h3 i r' u hr' hu).mono (fun _ _=>trivial)⟩;rw[D5,Ma h1 i (by omega)];exact hu
abbrev SD (T:Tw)(tl:List (List Nat))(d:Nat)(x:List Nat):Prop:=Sd (El T) (mul T) (AJ.one T) T.length fF (BS T) (BQ tl) d x
abbrev N8 (T:Tw)(im:List (List Nat))(tl:List (List Nat)):Prop:=tJ (El T) (mul T) (AJ.one T) T.length fF (BS T) im (BQ tl)
def FD (T:Tw)(tl dn:List (List Nat))(k:Nat):Prop:=
 ∀d,(k≤d→(BQ tl d=none→BQ dn d=none)∧∀y,BQ tl d=some y→∃s,SD T tl (d+1) s∧BQ dn d=some (mul T y s)∧Zs fF (BQ tl) (d+1) T.length (mul T y s))∧(d<k→BQ dn d=none)
theorem ABQ {T:Tw}{tl:List (List Nat)}{d d':Nat}{x:List Nat}(h:SD T tl d x)(hd:d'≤d):SD T tl d' x:=⟨XE h.1 hd,h.2⟩
theorem FD.row {T:Tw}{tl dn im:List (List Nat)}{k j:Nat}(h:FD T tl dn k)(hc:N8 T im tl)(hk:k≤j){r:List Nat}(hr:BQ dn j=some r)(hj:j<T.length):SD T tl j r:=by
 have h1:=(h j).1 hk;cases ht:BQ tl j with
 |none=>rw[h1.1 ht]at hr;simp at hr
 |some y=>
  obtain⟨s,hs,e,_⟩:=h1.2 y ht;rw[e]at hr;injection hr with hr;rw[←hr];exact(hc.sub j (EG hj)).cl (hc.mem j y ht) (ABQ hs (by omega))
theorem FD.skip {T:Tw}{tl dn:List (List Nat)}{k:Nat}(h:FD T tl dn (k+1))(ht:BQ tl k=none):FD T tl dn k:=fun d=>by
 refine⟨fun hk=>?_,fun hk=>(h d).2 (by omega)⟩;rcases Fe k d with h1|h1
 ·exact(h d).1 h1
 ·obtain rfl:d=k:=by omega
  exact⟨fun _=>(h d).2 (by omega),fun y hy=>by rw[ht]at hy;simp at hy⟩
theorem FD.put {T:Tw}{tl dn:List (List Nat)}{k:Nat}{y s:List Nat}(h:FD T tl dn (k+1))(ht:BQ tl k=some y)(hs:SD T tl (k+1) s)(hk:k<dn.length)(hne:mul T y s≠[])(hzs:Zs fF (BQ tl) (k+1) T.length (mul T y s)):FD T tl (dn.set k (mul T y s)) k:=fun d=>by
 rw[zJ hk hne];unfold Gen.put;refine⟨fun hd=>?_,fun hd=>?_⟩
 ·by_cases e:d=k
  ·subst e;rw[CU rfl];exact⟨fun h0=>by rw[ht]at h0;simp at h0,fun z hz=>by rw[ht]at hz;injection hz with hz;subst hz;exact⟨s,hs,rfl,hzs⟩⟩
  ·rw[BU e];exact(h d).1 (by omega)
 ·rw[BU (by omega)];exact(h d).2 (by omega)
theorem FD.none {T:Tw}{tl dn:List (List Nat)}{k j:Nat}(h:FD T tl dn k)(hk:k≤j)(hn:BQ dn j=Option.none):BQ tl j=Option.none:=by
 cases ht:BQ tl j with
 |none=>rfl
 |some y=>
  obtain⟨s,_,e,_⟩:=((h j).1 hk).2 y ht;rw[e]at hn;simp at hn
theorem AG3 {T:Tw}(hT:Wf T)(hg:AJ.Good T){tl im:List (List Nat)}(hc:N8 T im tl)(dn:List (List Nat))(k j:Nat)(q x:List Nat)(d0:Nat)(h:FD T tl dn k)(hk:k≤j)(hj:j<T.length)(hq:BQ dn j=some q)(hx:El T x)(hz:Zs fF (BQ tl) d0 j x):
  Zs fF (BQ tl) d0 (j+1) (mul T x (npow (mul T) (AJ.one T) (BS T q) (fF j x))):=by
 have F:=R6 hT hg;have iX:=h.row hc hk hq hj;have hS:=hc.sub j (EG hj);have hp:=hS.npow (F.Nb hS iX) (fF j x);have fq:=hS.npow iX (fF j x);have hR:=nS.fr hT hj hx hp.1;have h1:fF j q=1:=by
  have h1:=(h j).1 hk;cases ht:BQ tl j with
  |none=>rw[h1.1 ht]at hq;simp at hq
  |some y=>
   obtain⟨s,hs,e,_⟩:=h1.2 y ht;rw[e]at hq;injection hq with hq;obtain⟨_,EJ,hy1⟩:=hc.tb j y ht;have hsA:=GM.1 hs.1;rw[←hq,F.fm hj EJ.1 hsA.1.1 EJ.2 hsA.1.2,hy1,hsA.2];exact J3 (F.o2 j hj)
 have e1:fF j (mul T (npow (mul T) (AJ.one T) q (fF j x)) (npow (mul T) (AJ.one T) (BS T q) (fF j x)))=0:=by rw[(F.Te iX.1.1 _).1,F.fe j hj]
 rw[F.fm hj fq.1.1 hp.1.1 fq.1.2 hp.1.2,F.Nf hj iX.1,h1,Ol,Nat.mod_add_mod]at e1;intro i hi hij hne;rcases Fe i j with h3|h3
 ·rw[hR.1 i h3];exact hz i hi h3 hne
 ·obtain rfl:i=j:=by omega
  rw[hR.2];exact e1
theorem mX (n:Nat)(hn:n≤6)(w:World):(Instr.makeSlice 25 (.int .i64 (n:Int)) (.int .i64 (n:Int))).run Tryz.prog w= .ok (.slice (some ⟨w.heap.size,0,none⟩) n n) (w.alloc (.cells (madeCells #[.slice none 0 0] n) 24)):=
 run_make_row' (P:=Tryz.prog) 25 24 (.slice none 0 0) 24 Tryz.underlying25 JC rfl .i64 .i64 n (by omega) (by omega) w
def ABR (T:Tw)(tl:List (List Nat))(w:World)(e:Ending)(w':World):Prop:=
 ∃v dn,e= .returned v∧dn.length=T.length∧FD T tl dn 0∧AV Any w' v ((Ed (BQ dn) T.length 0).map ints)∧Below w.heap.size w w'
theorem AF1 (T:Tw)(hT:Wf T)(hs:Small T)(hg:AJ.Good T)(hn0:0<T.length)(w:World)(vO vP vC vt:Value)(tl im:List (List Nat))(hP:Aw Any w vO vP vC (AX T))(ht:AV Any w vt (tl.map ints))(htl:tl.length=T.length)(hc:N8 T im tl):
  Calls Tryz.prog 209 #[.agg #[vO,vP,vC],vt] w (ABR T tl w):=by
 obtain⟨i0,hi,hz0,hz1,hz2⟩:=CO JC;have HP:=hid hP;have HT:=hid (AV.Gh ht);have HG:=hid (Ba hT hg);have JP:=hid hs;have HC:=hid hc;have U4:=hid (AG3 hT hg hc);have HF:=hid (R6 hT hg);have Ev:=hid (fun r (h:El T r)=>(FH hT hg h).1);have HM:=hid (fun W va vb a b hP ha hb hA hB=>Q8 T hT hs W vO vP vC va vb a b hP ha hb hA hB);have Cy:=hid (fun W va a K hK Pg hP ha hA=>xR T hT hs hg W vO vP vC va a K hK Pg hP ha hA);obtain⟨aU,cU,JU⟩:=AV.form ht;rw[htl]at JU;subst JU;have hs6:=hs.1;have hmk:=mX T.length hs6;obtain⟨wb,hwb⟩:∃wb,wb=w.alloc (.cells #[vO,vP,vC] 28):=⟨_,rfl⟩;have AJ7:wb.heap.size=w.heap.size+1:=by rw[hwb];simp
 clear hP ht hT hs hg hc;obtain⟨g,hgg⟩:∃g,g=w.heap.size+1:=⟨_,rfl⟩;have HD0:=hid (show Ep (fun W u r=>AL (fun k=>k≠g) W u (ints r)) (wb.alloc (.cells (madeCells #[.slice none 0 0] T.length) 24)) g (List.replicate T.length []) by
  have:=Ep.made (R:=fun W u r=>AL (fun k=>k≠g) W u (ints r)) wb T.length (by unfold maxLen;omega) (AAM _ _);rw[AJ7,←hgg]at this;exact this)
 have HB0:=hid (show Below (w.heap.size+1) (w.alloc (.cells #[vO,vP,vC] 28)) (wb.alloc (.cells (madeCells #[.slice none 0 0] T.length) 24)) by rw[←hwb];exact AR.alloc (by omega) _);have Jr:=hid hgg;clear hgg;go_enter Tryz.func209,Tryz.ntmps209;go_upto_region 1 with fail;rw[←hwb];clear hwb;have d0:True:=trivial;have w9:IntKind.i64.wrap ((T.length:Int)-1)=(T.length:Int)-1:=AY _ (by omega);go_wp2_with fail;rw[←Jr.out];go_loopw [6] (fun dv wr=>∃(k:Nat) (dn:List (List Nat)),k≤T.length∧dv= .int .i64 ((k:Int)-1)∧dn.length=T.length∧Hid (FD T tl dn k)∧Hid (Ep (fun W u r=>AL (fun k=>k≠g) W u (ints r)) wr g dn)∧Below (w.heap.size+1) (w.alloc (.cells #[vO,vP,vC] 28)) wr) (fun dv _=>(intOf dv+1).toNat);case atStart=>exact⟨T.length,List.replicate T.length [],Ap _,rfl,by simp,hid (fun d=>by
   rw[jP];refine⟨fun hd=>⟨fun _=>rfl,fun y hy=>?_⟩,fun _=>rfl⟩;rw[AF0 (by omega)]at hy;simp at hy),HD0,HB0.out⟩
 case round=>
  obtain⟨k,dn,hk,rfl,hdl,VM,Yk,hB⟩:=hrel;have vD:=hid hB;have hk5:=DW hB Any;obtain⟨e0,e1,e2⟩:=Cc hB;have hsw:w.heap.size+1≤wr.heap.size:=by have:=hB.size;simp at this;omega
  have AJ8:=Yk.out.lt;have hgw:w.heap.size<g:=by have:=Jr.out;omega
  clear hB HD0 HB0;by_cases h0:k=0
  ·subst h0;rw[show(((0:Nat):Int)-1)= -1 from rfl];have hd3:decide ((-1:Int)≥0)=false:=by simp
   have HTW:=hid (show Ep (fun W u r=>AL (fun k=>k<wr.heap.size) W u (ints r)) wr g dn from by
    obtain⟨us,h1,h2,h3⟩:=Yk.out;exact⟨us,h1,h2,fun i r u hr hu=>AL.Gh (h3 i r u hr hu)⟩)
   have Au:=hid (Dx vD.out);have h00:=FL (base:=wr.heap.size) (e:=24) (size:=1) wr #[] 0 AQ (AU _) rfl;clear hk5 Yk;go_wp2_with fail;rename World=>wo;go_loopw [9,10] (fun ov iv wr=>∃(k:Nat) (rows:List (List Nat)),k≤T.length∧iv= .int .i64 (k:Int)∧rows.length≤k∧Hid (rows++Ed (BQ dn) (T.length-k) k=Ed (BQ dn) T.length 0)∧Hid (Rp wo.heap.size wr ov rows)∧Below wo.heap.size wo wr) (fun _ iv _=>T.length-(intOf iv).toNat);case atStart=>exact⟨0,[],AU _,rfl,Ap _,hid rfl,hid ⟨[],h00,rfl,by simp⟩,AR.alloc AQ _⟩
   case round=>
    obtain⟨k,rows,hk',rfl,hrl,hR,iY,hb⟩:=hrel;have HB:=hid hb;have NM:Ep (fun W u r=>AL (fun k=>k<wo.heap.size) W u (ints r)) wr g dn:=HTW.out.keep (AA.lt hb) AJ8 (fun v r h=>AL.keep h (AA.lt hb));have Iq:=NM.lt;clear hb h00;by_cases hlt:k<T.length
    ·obtain⟨j,hj⟩:∃j,T.length-k=j+1:=⟨T.length-k-1,by omega⟩;obtain⟨q,hq⟩:∃q,dn[k]?=some q:=⟨_,AP (by omega)⟩;have hR2:=hR.out;rw[hj]at hR2;obtain⟨uq,hcq,_,MF⟩:=NM.at hq;obtain⟨aQ,cQ,rfl,_⟩:=AL.open MF;obtain⟨lq,hlq⟩:∃lq,q.length=lq:=⟨_,rfl⟩;rw[hlq]at hcq MF;have hkl:(k:Int)<(T.length:Int):=by omega
     have hk0:(0:Int)≤(k:Int):=by omega
     have VN:=hid hq;have HJ:=hid hj;have HR2:=hid hR2;have HRQ:=hid MF;clear hq MF NM hj hR2;by_cases hq0:q=[]
     ·obtain rfl:0=lq:=by rw[←hlq,hq0];rfl
      have Ki:decide (((0:Nat):Int)>0)=false:=by simp
      have Ph:=hid (show rows++Ed (BQ dn) (T.length-(k+1)) (k+1)=Ed (BQ dn) T.length 0 by
       rw[←HR2.out,Ed,Vh (by rw[VN.out,hq0]),show T.length-(k+1)=j by have:=HJ.out;omega])
      clear hlt hlq hq0;go_wp2_with fail;go_roundw;case rel=>exact⟨k+1,rows,by omega,by go_num,by omega,Ph,iY,HB.out⟩
      case measure=>simp[intOf]<;>omega
     ·have AC0:0<lq:=by
       have:q.length≠0:=fun h=>hq0 (EY h);omega
      have Ki:decide ((lq:Int)>0)=true:=by simp;omega
      have hqi:(0:Int)<(lq:Int):=by omega
      have Ph:=hid (show(rows++[q])++Ed (BQ dn) (T.length-(k+1)) (k+1)=Ed (BQ dn) T.length 0 by
       rw[←HR2.out,Ed,NW VN.out hq0,show T.length-(k+1)=j by have:=HJ.out;omega];simp)
      obtain⟨us,h1,h2,h4⟩:=iY.out;have HU:=hid (And.intro h2 h4);clear hlq hlt h2 h4 iY hq0;go_wp2_with (at_builtin;(refine GQ _ rfl _ _ 25 rfl wo.heap.size 24 i0 (.slice none 0 0) 1 24 Tryz.underlying25 hi hz0 hz1 hz2 rfl (by decide) _ _ _ rfl (BM h1 (S:=Any) (AB.alloc _) (fun _ _=>trivial)) ⟨wr.heap.size,0,none⟩ 1 1 [.slice aQ lq cQ] rfl rfl ?c1 ?c2 ?c3 ?c4 ?c5 ?_));case c1=>
       intro j u hj
       match j,hj with
       |0,hj=>simp at hj;subst hj;simp[Addr.add]
      case c2=>intro u hu;simp at hu;subst hu;rfl
      case c3=>unfold maxLen;omega
      case c4=>omega
      case c5=>have:=HB.out.size;simp;omega
      ·intro v' w2 hown hgrow _;have HN:=hid (show Rp wo.heap.size w2 v' (rows++[q]) from
        Rp.push (w:=wr.alloc _) (us:=us) rfl (by have:=HB.out.size;simp;omega) (BM h1 (S:=Any) (AB.alloc _) (fun _ _=>trivial)) HU.out.1 (fun i r u hr hu=>AL.keep (HU.out.2 i r u hr hu) (AB.alloc _)) (AL.keep HRQ.out (AB.alloc _)) hown hgrow)
       have HB2:=hid (show Below wo.heap.size wo w2 from(HB.out.alloc (by have:=HB.out.size;omega) _).grown hgrow (by simp;have:=HB.out.size;omega) (fun g hg=>(BH h1 g hg).1));clear hown hgrow h1 HU;go_wp2_with fail;go_roundw;case rel=>exact⟨k+1,rows++[q],by omega,by go_num,by simp;omega,Ph,HN,HB2.out⟩
       case measure=>simp[intOf]<;>omega
    ·obtain rfl:k=T.length:=by omega
     have HE:=hid (show rows=Ed (BQ dn) T.length 0 by
      have:=hR.out;rw[RI]at this;rw[←this];simp[Ed])
     have HR:=hid (show ABR T tl w (.returned _) wr from⟨_,dn,rfl,hdl,VM.out,by rw[←HE.out];exact iY.out.sl2,Au.out.trans (HB.out.mono Au.out.size)⟩);clear NM;go_wp2_with fail;go_ret;exact HR.out
  ·obtain⟨d,rfl⟩:∃d,k=d+1:=⟨k-1,by omega⟩;have hii:(((d+1:Nat):Int)-1)=(d:Int):=by omega
   rw[hii];obtain⟨r,hr⟩:∃r,tl[d]?=some r:=⟨_,AP (by omega)⟩;obtain⟨bU,oU,Mm,vr,he,Lc,Ic,hrU⟩:=AV.Og HT.out hr;obtain⟨rfl,rfl⟩:aU=some ⟨bU,oU,none⟩∧cU=Mm:=by simp only[C8]at he;exact⟨he.1,he.2.2⟩
   have Wm:=(hk5.cell (b:=bU) (o:=oU+d) trivial Lc).trans Ic;have R8:w.heap.size<wr.heap.size:=by omega
   have ACy:bU<wr.heap.size:=by omega
   have hwd:IntKind.i64.wrap ((d:Int)-1)=(d:Int)-1:=AY _ (by omega);have hdn:(d:Int)<(T.length:Int):=by omega
   have hd0:(0:Int)≤(d:Int):=by omega
   have Gd:=hid hk5;have NK:=hid (AL.mono (S':=fun k=>k≠g) (AL.keep hrU (hk5.mono (fun _ _=>trivial))) (fun k (hk:k<w.heap.size)=>by omega));obtain⟨aR,cR,rfl,_⟩:=AL.open hrU;have Ip:=hid hr;clear hr he hrU Ic hk5 h0 hii;by_cases hr0:r=[]
   ·subst hr0;have pM:=hid (VM.out.skip (Vh Ip.out));go_wp2_with fail;go_roundw;case rel=>exact⟨d,dn,by omega,rfl,hdl,pM,Yk,vD.out⟩
    case measure=>simp[intOf]<;>omega
   ·have hrl:((r.length:Int)==0)=false:=by
     have:r.length≠0:=fun h=>hr0 (EY h);simp;omega
    have iZ:=hid (NW Ip.out hr0);have qc:=hid (HC.out.mem d r iZ.out);have vE:=hid qc.out.1.1;have HSub:=hid (HC.out.sub (d+1) (by omega));have AJ9:=hid (show AL (fun k=>k≠g) wr (.slice aR r.length cR) (ints (mul T r (AJ.one T))) by rw[HG.out.eR vE.out];exact NK.out);have hwd2:IntKind.i64.wrap ((d:Int)+1)=(d:Int)+1:=AY _ (by omega);clear hr0;go_wp2_with fail;rename World=>wo;go_loopw [7,8] (fun xv ev wr=>∃(j:Nat) (s:List Nat),d+1≤j∧j≤T.length∧ev= .int .i64 (j:Int)∧Hid (SD T tl (d+1) s∧Zs fF (BQ tl) (d+1) j (mul T r s))∧Hid (AL (fun k=>k≠g) wr xv (ints (mul T r s)))∧Below wo.heap.size wo wr) (fun _ ev _=>T.length-(intOf ev).toNat);case atStart=>exact⟨d+1,AJ.one T,Ap _,by omega,by go_num,hid ⟨HSub.out.me,fun i h1 h2=>by omega⟩,AJ9,Ag _ _⟩
    case round=>
     obtain⟨j,s,hj1,hj,rfl,hS,hX,hbq⟩:=hrel;have VO:Below (w.heap.size+1) (w.alloc (.cells #[vO,vP,vC] 28)) wr:=vD.out.trans (hbq.mono hsw);have AZ:=hid VO;have hkq:=AA.of_below (S:=Any) hbq;have NM:Ep (fun W u r=>AL (fun k=>k≠g) W u (ints r)) wr g dn:=Yk.out.keep hkq trivial (fun v r h=>AL.keep h (AA.of_below hbq));have hsq:w.heap.size+1≤wr.heap.size:=Ab hsw hbq.size;have IB:=hid hS.out.1.1.1;have TC:=hid (HG.out.cl vE.out IB.out);have hxl:=Af TC.out;obtain⟨aX,cX,hxv,hcx⟩:=hX.out.open;rw[hxl]at hxv hcx;subst hxv;obtain⟨f0,f1,f2⟩:=Cc VO;have AMC:w.heap.size<wr.heap.size:=by omega
     have Iq:=NM.lt;by_cases hlt:j<T.length
     ·obtain⟨a,ha⟩:∃a,(mul T r s)[j]?=some a:=⟨_,AP (by omega)⟩;obtain⟨q,hq⟩:∃q,dn[j]?=some q:=⟨_,AP (by omega)⟩;have fo:a<7:=JP.out.lt (s:=0) TC.out (AU _) ha;have vG:=hX.out;rw[←hxl]at vG;obtain⟨bX,oX,he,_,hbX,FV⟩:=vG.at ha;subst he;obtain⟨uq,hcq,_,MF⟩:=NM.at hq;obtain⟨aQ,cQ,rfl,_⟩:=AL.open MF;obtain⟨lq,hlq⟩:∃lq,q.length=lq:=⟨_,rfl⟩;rw[hlq]at hcq MF;have hjl:(j:Int)<(T.length:Int):=by omega
      have hj0:(0:Int)≤(j:Int):=by omega
      have Xm:=hid (AL.mono (S':=Any) MF (fun _ _=>trivial));have M6:=hid (AL.mono (S':=Any) hX.out (fun _ _=>trivial));have C9:=hid (HP.out.keep (DW VO Any));have VN:=hid hq;have Kh:=hid (nS.AHT ha);clear ha hq MF vG NM VO hkq;by_cases hq0:q=[]
      ·obtain rfl:0=lq:=by rw[←hlq,hq0];rfl
       have Ki:decide (((0:Nat):Int)>0)=false:=by simp
       have Bn:=hid (And.intro hS.out.1 (show Zs fF (BQ tl) (d+1) (j+1) (mul T r s) from fun i h1 h2 hne=>by
        rcases Fe i j with h3|h3
        ·exact hS.out.2 i h1 h3 hne
        ·obtain rfl:i=j:=by omega
         exact absurd (VM.out.none hj1 (Vh (by rw[VN.out,hq0]))) hne))
       clear hlt hlq hq0;go_wp2_with fail;go_roundw;case rel=>exact⟨j+1,s,by omega,by omega,by go_num,Bn,hX,hbq⟩
       case measure=>simp[intOf]<;>omega
      ·have AC0:0<lq:=by
        have:q.length≠0:=fun h=>hq0 (EY h);omega
       have Ki:decide ((lq:Int)>0)=true:=by simp;omega
       have hqi:(0:Int)<(lq:Int):=by omega
       have HLQ:=hid hlq;clear hlq;by_cases ha0:a=0
       ·subst ha0;have hz:(((0:Nat):Int) !=0)=false:=by simp
        have Bn:=hid (And.intro hS.out.1 (show Zs fF (BQ tl) (d+1) (j+1) (mul T r s) from fun i h1 h2 hne=>by
         rcases Fe i j with h3|h3
         ·exact hS.out.2 i h1 h3 hne
         ·obtain rfl:i=j:=by omega
          exact Kh.out))
        clear hlt;go_wp2_with fail;go_roundw;case rel=>exact⟨j+1,s,by omega,by omega,by go_num,Bn,hX,hbq⟩
        case measure=>simp[intOf]<;>omega
       ·have hz:((a:Int) !=0)=true:=by simp;omega
        have vH:=VM.out.row HC.out hj1 (NW VN.out hq0) hlt;have Kk:=hid vH.1.1;have M9:=hid (HG.out.npow (Ev.out q Kk.out) a);have HAS:=hid (HG.out.Ae vE.out IB.out M9.out);have HS':=hid (And.intro (HSub.out.cl hS.out.1 (HSub.out.npow (HF.out.Nb HSub.out (ABQ vH hj1)) a)) (show Zs fF (BQ tl) (d+1) (j+1) (mul T r (mul T s (npow (mul T) (AJ.one T) (BS T q) a))) by
         rw[←HAS.out];have hzs:=U4.out dn (d+1) j q _ (d+1) VM.out hj1 hlt (NW VN.out hq0) TC.out hS.out.2;rw[Kh.out]at hzs;exact hzs))
        have hap:0<a:=by omega
        have hwn:IntKind.i64.wrap (-(a:Int))= -(a:Int):=AY _ (by omega);clear vH hq0 hlt;go_wp2_with fail;go_region_held3 (fun w'=>(∀b o,b<wr.heap.size→w'.cell? ⟨b,o,none⟩=wr.cell? ⟨b,o,none⟩)∧AA (fun _=>True) wr w')
         (first|exact Aj (by repeat(first|exact AB.drew|exact AA.refl _ _|refine AA.trans ?_ (AA.of_below (by assumption)))))
         (first|(go_at_call 93;refine(Cy.out _ (.slice aQ lq cQ) q a (by omega) hap (C9.out.keep (by repeat(first|exact AB.drew|exact AA.refl _ _|exact AB.alloc _|exact(AB.alloc _).drew|refine AA.trans ?_ (AA.of_below (by assumption))))) (Xm.out.keep (by repeat(first|exact AB.drew|exact AA.refl _ _|exact AB.alloc _|exact(AB.alloc _).drew|refine AA.trans ?_ (AA.of_below (by assumption))))) Kk.out).mono ?_;rintro e w6 ⟨v6,rfl,Al,hb6⟩)|(go_at_call_of 92 v6;refine(HM.out _ _ v6 _ _ (C9.out.keep (by repeat(first|exact AB.drew|exact AA.refl _ _|exact AB.alloc _|exact(AB.alloc _).drew|refine AA.trans ?_ (AA.of_below (by assumption))))) (M6.out.keep (by repeat(first|exact AB.drew|exact AA.refl _ _|exact AB.alloc _|exact(AB.alloc _).drew|refine AA.trans ?_ (AA.of_below (by assumption))))) ((Al.sl.mono (fun _ _=>trivial)).keep (by repeat(first|exact AB.drew|exact AA.refl _ _|exact AB.alloc _|exact(AB.alloc _).drew|refine AA.trans ?_ (AA.of_below (by assumption))))) TC.out M9.out).mono ?_;rintro e w8 ⟨v8,rfl,Cx,CP⟩))
        have hs7:wr.heap.size≤w6.heap.size:=(show AA (fun _=>True) wr w6 from(by repeat(first|exact AB.drew|exact AA.refl _ _|exact AB.alloc _|exact(AB.alloc _).drew|refine AA.trans ?_ (AA.of_below (by assumption))))).size;have TD:=hid (show Below wo.heap.size wo w8 from(by repeat(first|exact hbq|exact hbq.drew|refine Below.step ?_ AQ (by assumption))));rw[HAS.out]at Cx;have Jk:=hid (Cx.sl.mono (S':=fun k=>k≠g) (fun k hk=>by omega));clear Al Cx hb6 CP hbq;go_wp2_with fail;go_roundw;case rel=>exact⟨j+1,_,by omega,by omega,by go_num,HS',Jk,TD.out⟩
        case measure=>simp[intOf]<;>omega
     ·obtain rfl:j=T.length:=by omega
      obtain⟨q,hq⟩:∃q,dn[d]?=some q:=⟨_,AP (by omega)⟩;obtain⟨uq,hcq,vJ,_⟩:=NM.at hq;have pM:=hid (VM.out.put iZ.out hS.out.1 (by omega) (fun h=>by have:=hxl;rw[h]at this;simp at this;omega) hS.out.2);have AKA:=hid (Ep.set (u:=.slice aX T.length cX) (y:=mul T r s) NM d (fun _ _ _ _=>trivial) (fun v r h=>AL.keep h (AB.setCell (by simp) _)) hX.out);have uE:=hid (VO.setCell (p:=⟨g,d,none⟩) (by have:=Jr.out;show _≤g;omega) (.slice aX T.length cX));clear NM VO hkq hq hlt;go_wp2_with fail;go_roundw;case rel=>exact⟨d,dn.set d (mul T r s),by omega,rfl,by simp[hdl],pM,AKA,uE.out⟩
      case measure=>simp[intOf]<;>omega
end Go.Proofs.YtlmlamcoeegkbaaGreat.Hf
