import Derived.Test.YtlmlamcoeegkbaaGreatZ0
import Derived.Test.YtlmlamcoeegkbaaGreatZb
import Derived.Test.YtlmlamcoeegkbaaGreatZq
/-
  Lemmas for the law FnOrbits, in short spelling.
-/
open Go.Lib (hid)
set_option linter.unusedVariables false
set_option linter.unusedSimpArgs false
set_option maxRecDepth 100000
set_option maxHeartbeats 40000000
namespace Go.Proofs.YtlmlamcoeegkbaaGreat.Tab
open Go.RowKit Go.Proofs.YtlmlamcoeegkbaaGreat Tow Gen GenC
def tabF (tl:List (List Nat))(d:Nat):Option (List Nat):=match tl[d]? with
 |some (a::y)=>some (a::y)
 |_=>none
theorem tabF_some {tl:List (List Nat)}{d:Nat}{r:List Nat}(h:tl[d]?=some r)(hr:r≠[]):tabF tl d=some r:=by
 unfold tabF;rw[h];cases r with
 |nil=>exact absurd rfl hr
 |cons a y=>rfl
theorem tabF_none {tl:List (List Nat)}{d:Nat}(h:tl[d]?=some []):tabF tl d=none:=by unfold tabF;rw[h]
theorem tabF_out {tl:List (List Nat)}{d:Nat}(h:tl.length≤d):tabF tl d=none:=by unfold tabF;rw[zq51 h]
theorem tabF_set {tl:List (List Nat)}{d:Nat}{y:List Nat}(hd:d<tl.length)(hy:y≠[]):tabF (tl.set d y)=put (tabF tl) d y:=by
 funext j;unfold put;by_cases hj:j=d
 ·subst hj;rw[zq57 rfl,tabF_some (by rw[zq94 hd]) hy]
 ·rw[zq37 hj];unfold tabF;rw[zq111 (fun h=>hj h.symm)]
theorem tabF_replicate (n:Nat):tabF (List.replicate n [])=fun _=>none:=by
 funext j;unfold tabF;rw[zq64];split<;>first|rfl|(next h=>split at h<;>simp at h)
def TabR (R:World→Value→List Nat→Prop)(w:World)(g:Nat)(tl:List (List Nat)):Prop:=
 ∃us,w.ownsRow 0 24 1 (.slice (some ⟨g,0,none⟩) tl.length tl.length) tl.length us∧us.length=tl.length∧∀(i:Nat) (r:List Nat) (u:Value),tl[i]?=some r→us[i]?=some u→R w u r
theorem TabR.lt {R:World→Value→List Nat→Prop}{w:World}{g:Nat}{tl:List (List Nat)}(h:TabR R w g tl):g<w.heap.size:=by
 obtain⟨us,h1,_⟩:=h;exact(zq8 h1 g rfl).2
theorem TabR.at {R:World→Value→List Nat→Prop}{w:World}{g:Nat}{tl:List (List Nat)}(h:TabR R w g tl){i:Nat}{r:List Nat}(hr:tl[i]?=some r):∃u,w.cell? ⟨g,i,none⟩=some u∧w.frozen? ⟨g,i,none⟩=false∧R w u r:=by
 obtain⟨us,h1,h2,h3⟩:=h;have hi:=(zq2.1 hr).1;obtain⟨u,hu⟩:∃u,us[i]?=some u:=⟨_,zq0 (by omega)⟩;exact⟨u,by rw[zq59 h1 i (by omega)];exact hu,zq130 h1 i,h3 i r u hr hu⟩
theorem TabR.set {R:World→Value→List Nat→Prop}{w:World}{g:Nat}{tl:List (List Nat)}(h:TabR R w g tl)(d:Nat){u:Value}{y:List Nat}(hk:∀u r,R w u r→R (w.setCell ⟨g,d,none⟩ u) u r→True)
  (hR:∀v r,R w v r→R (w.setCell ⟨g,d,none⟩ u) v r) (hu:R w u y):TabR R (w.setCell ⟨g,d,none⟩ u) g (tl.set d y):=by
 obtain⟨us,h1,h2,h3⟩:=h;refine⟨us.set d u,?_,by simp[h2],fun i r v hr hv=>?_⟩
 ·have:=(zq109 h1 d u).1;simpa using this
 ·by_cases hi:i=d
  ·subst hi;have hil:i<tl.length:=by
    have:=(zq2.1 hr).1;simpa using this
   rw[zq94 hil]at hr;rw[zq94 (by omega)]at hv;injection hr with hr;injection hv with hv;subst hr;subst hv;exact hR _ _ hu
  ·rw[zq111 (fun h=>hi h.symm)]at hr hv;exact hR _ _ (h3 i r v hr hv)
theorem TabR.keep {R:World→Value→List Nat→Prop}{S:Nat→Prop}{w w':World}{g:Nat}{tl:List (List Nat)}(h:TabR R w g tl)(hk:Keep S w w')(hg:S g)(hR:∀v r,R w v r→R w' v r):TabR R w' g tl:=by
 obtain⟨us,h1,h2,h3⟩:=h;refine⟨us,⟨h1.1,?_⟩,h2,fun i r v hr hv=>hR _ _ (h3 i r v hr hv)⟩;rcases h1.2 with⟨h,_⟩|⟨g',cap,cur,h,hb,hgg,hrest⟩
 ·cases h
 ·cases h;refine .inr ⟨g,_,cur,rfl,hb,?_,hrest⟩;rw[hk.block g hg (zq10.1 hgg).1];exact hgg
theorem TabR.sl2 {R:World→Value→List Nat→Prop}{w:World}{g:Nat}{tl:List (List Nat)}(h:TabR R w g tl)(hR:∀v r,R w v r→SlI (fun _=>True) w v (ints r)):Sl2 (fun _=>True) w (.slice (some ⟨g,0,none⟩) tl.length tl.length) (tl.map ints):=by
 have hlt:=h.lt;have hm:tl.length≤maxLen:=by
  obtain⟨us,h1,_⟩:=h;rcases h1.2 with⟨h,_⟩|⟨g',cap,cur,h,hb,hgg,_,hm,_⟩
  ·cases h
  ·cases h;exact hm
 refine⟨some ⟨g,0,none⟩,tl.length,by simp,by simp,hm,by simp,fun i r hr=>?_⟩;simp only[zq20,zq46]at hr;obtain⟨r',hr',rfl⟩:=hr;obtain⟨u,hu,_,hok⟩:=h.at hr';exact⟨g,0,rfl,trivial,hlt,u,by rw[zq39];exact hu,hR _ _ hok⟩
theorem TabR.made {R:World→Value→List Nat→Prop}(w:World)(n:Nat)(hn:n≤maxLen)(hR:R (w.alloc (.cells (madeCells #[.slice none 0 0] n) 24)) (.slice none 0 0) []):TabR R (w.alloc (.cells (madeCells #[.slice none 0 0] n) 24)) w.heap.size (List.replicate n []):=by
 refine⟨List.replicate n (.slice none 0 0),?_,by simp,fun i r u hr hu=>?_⟩
 ·have:=zq98 (base:=0) (e:=24) (size:=1) w (madeCells #[.slice none 0 0] n) n (zq4 _) hn (by simp[madeCells]);rw[zq108]at this;simpa using this
 ·rw[zq64]at hr hu;split at hr
  ·next h=>
   rw[zq57 h]at hu;injection hr with hr;injection hu with hu;subst hr;subst hu;exact hR
  ·simp at hr
theorem SlI_nil (S:Nat→Prop)(w:World):SlI S w (.slice none 0 0) (ints []):=⟨none,0,rfl,zq1 _,by simp,fun _=>rfl,fun i x hx=>by simp[ints]at hx⟩
theorem Own2.pop {e2 e:TypeId}{B:Nat}{w:World}{g c:Nat}{rows:List (List Nat)}{r:List Nat}(h:Own2 e2 e B w (.slice (some ⟨g,0,none⟩) (rows++[r]).length c) (rows++[r])):Own2 e2 e B w (.slice (some ⟨g,0,none⟩) rows.length c) rows:=by
 obtain⟨us,h1,h2,h3⟩:=h;have hl:us.length=rows.length+1:=by rw[h2];simp
 refine⟨us.take rows.length,⟨by simp;omega,?_⟩,by simp;omega,fun i r' u hr hu=>?_⟩
 ·rcases h1.2 with⟨h,_⟩|⟨g',cap,cur,h,hb,hgg,hn,hm,hs,ht⟩
  ·cases h
  ·cases h;refine .inr ⟨g,c,cur,rfl,hb,hgg,by simp at hn;omega,hm,hs,?_⟩;rw[←ht,List.take_take];congr 1;simp
 ·have hi:=(zq2.1 hr).1;rw[zq138 hi]at hu;exact h3 i r' u (by rw[zq28 hi];exact hr) hu
end Go.Proofs.YtlmlamcoeegkbaaGreat.Tab
namespace Go.Proofs.YtlmlamcoeegkbaaGreat.SpecM
open Go.RowKit Go.Proofs.YtlmlamcoeegkbaaGreat Tow Gen GenC Tab SpecA SpecB SpecD SpecE SpecI SpecJ SpecK SpecL
noncomputable abbrev strp (T:Tw)(tl:List (List Nat))(k d:Nat)(x:List Nat):Nat×List Nat:=strip (mul T) (Tow.one T) fF (vinv T) (tabF tl) k d x
def StripR (T:Tw)(tl:List (List Nat))(x:List Nat)(w:World)(e:Ending)(w':World):Prop:=
 ∃v,e= .returned (.tuple #[.int .i64 ((strp T tl T.length 0 x).1:Int),v])∧Own w.heap.size w' v (ints (strp T tl T.length 0 x).2)∧El T (strp T tl T.length 0 x).2∧Below w.heap.size w w'
theorem strip_any (T:Tw)(hT:Wf T)(hs:Small T)(hg:Tow.Good T)(w:World)(vO vP vC vt vx:Value)(tl:List (List Nat))(x:List Nat)(hP:ValP Any w vO vP vC (ofTw T))(ht:Sl2 Any w vt (tl.map ints))(htl:tl.length=T.length)(hx:SlI Any w vx (ints x))(hE:El T x)(hr:∀r∈tl,r≠[]→El T r):
  Calls Tryz.prog 206 #[.agg #[vO,vP,vC],vt,vx] w (StripR T tl x w):=by
 have HP:=hid hP;have HT:=hid ht;have HX:=hid hx;have HE:=hid hE;have HRS:=hid hr;have HG:=hid (grp hT hg);have HSM:=hid hs;have HVE:=hid (fun r (h:El T r)=>(vinv_spec hT hg h).1);have HM:=hid (fun W va vb a b hP ha hb hA hB=>mul_any T hT hs W vO vP vC va vb a b hP ha hb hA hB);have HPW:=hid (fun W va a K hK hK0 hP ha hA=>pow_neg_any T hT hs hg W vO vP vC va a K hK hK0 hP ha hA);obtain⟨aU,cU,hvt⟩:=Sl2.form ht;rw[htl]at hvt;subst hvt;have hxl:(ints x).length≤1000000:=by rw[ints_length,El_length hE];have:=hs.1;omega
 have hs6:=hs.1;clear hP ht hx hE hr hT hs hg;go_enter Tryz.func206,Tryz.ntmps206;go_wp2_with fail;refine(own_any Any _ _ _ (HX.out.keep (zqK.alloc _)) hxl).mono ?_;rintro e w1 ⟨g1,c1,rfl,ho1,hb1⟩;have HB1:=hid (show Below (w.heap.size+1) (w.alloc (.cells #[vO,vP,vC] 28)) w1 from hb1.mono (by simp));have HO1:=hid (ho1.mono (B':=w.heap.size) (by simp));clear ho1 hb1;go_wp2_with fail;go_loopw [8,9] (fun ov iv wr=>∃(k:Nat) (y:List Nat),k≤T.length∧iv= .int .i64 (k:Int)∧Hid (Own w.heap.size wr ov (ints y))∧Hid (El T y∧strp T tl (T.length-k) k y=strp T tl T.length 0 x)∧Below (w.heap.size+1) (w.alloc (.cells #[vO,vP,vC] 28)) wr) (fun _ iv _=>T.length-(intOf iv).toNat);case atStart=>exact⟨0,x,zq4 _,rfl,HO1,hid ⟨HE.out,rfl⟩,HB1.out⟩
 case round=>
  obtain⟨k,y,hk,rfl,hO,hY,hB⟩:=hrel;have HB5:=hid hB;have hk5:=keep_boxed hB Any;obtain⟨e0,e1,e2⟩:=box_cells hB;have hsw:w.heap.size+1≤wr.heap.size:=by have:=hB.size;simp at this;omega
  have hyl:=El_length hY.out.1;clear hB;by_cases hlt:k<T.length
  ·obtain⟨j,hj⟩:∃j,T.length-k=j+1:=⟨T.length-k-1,by omega⟩;have hYS:=hY.out.2;rw[hj]at hYS;obtain⟨a,ha⟩:∃a,y[k]?=some a:=⟨_,zq0 (by omega)⟩;obtain⟨r,hr⟩:∃r,tl[k]?=some r:=⟨_,zq0 (by omega)⟩;have ha7:a<7:=HSM.out.lt (s:=0) hY.out.1 (zq4 _) ha;have hfa:fF k y=a:=by unfold fF;rw[zq9,ha];rfl
   obtain⟨gv,cv,hov⟩:=hO.out.form (by rw[ints_length];omega);rw[ints_length,hyl]at hov;subst hov;obtain⟨s1,f1⟩:=hO.out.cell (j:=k) (a:=(a:Int)) (by rw[ints_get,ha];rfl);obtain⟨bU,oU,cU',vr,he,hbU,hcU,hrU⟩:=Sl2.at_row HT.out hr;obtain⟨rfl,rfl⟩:aU=some ⟨bU,oU,none⟩∧cU=cU':=by simp only[zq40]at he;exact⟨he.1,he.2.2⟩
   have hcU5:=(hk5.cell (b:=bU) (o:=oU+k) trivial hbU).trans hcU;have hww:w.heap.size<wr.heap.size:=by omega
   have hbU5:bU<wr.heap.size:=by omega
   have hgv:gv<wr.heap.size:=hO.out.lt.2;obtain⟨aR,cR,rfl,_⟩:=SlI.open hrU;have HP5:=hid (HP.out.keep hk5);have HR5:=hid (SlI.keep hrU hk5);have HO5:=hid (hO.out.sl.mono (S':=Any) (fun _ _=>trivial));have hkl:(k:Int)<(T.length:Int):=by omega
   have hkl2:(k:Int)<(tl.length:Int):=by omega
   have hk0:(0:Int)≤(k:Int):=by omega
   have HRE:=hid (HRS.out r (zq5 hr));have HTR:=hid hr;have HYS:=hid hYS;have HFA:=hid hfa;have HJ:=hid hj;clear ha hr he hrU hcU hYS hfa hk5 hj;by_cases ha0:a=0
   ·subst ha0;have HY':=hid (show strp T tl (T.length-(k+1)) (k+1) y=strp T tl T.length 0 x by
     rw[←HYS.out,strp,strp,strip_zero HFA.out,show T.length-(k+1)=j by have:=HJ.out;omega])
    go_wp2_with fail;go_roundw;case rel=>exact⟨k+1,y,by omega,by go_num,hO,hid ⟨hY.out.1,HY'.out⟩,HB5.out⟩
    case measure=>simp[intOf];omega
   ·have hz:((a:Int)==0)=false:=by simp;omega
    by_cases hr0:r=[]
    ·subst hr0;have HS:=hid (show strp T tl T.length 0 x=(k,y) by
      rw[←HYS.out,strp,strip_none (by rw[HFA.out];exact ha0) (tabF_none HTR.out)])
     have HBU:=hid (below_unboxed HB5.out);go_wp2_with fail;exact zq12 (v:=.tuple #[.int .i64 (k:Int),.slice (some ⟨gv,0,none⟩) T.length cv]) (by simp[results,Tryz.results206,go_sem]) rfl (by
      unfold StripR;rw[HS.out];exact⟨_,rfl,hO.out,hY.out.1,HBU.out⟩)
    ·have hrl:((r.length:Int)==0)=false:=by
      have:r.length≠0:=fun h=>hr0 (zq21 h);simp;omega
     have HREl:=hid (HRE.out hr0);have HPE:=hid (HG.out.npow (HVE.out r HREl.out) a);have HCL:=hid (HG.out.cl hY.out.1 HPE.out);have HY':=hid (show strp T tl (T.length-(k+1)) (k+1) (mul T y (npow (mul T) (Tow.one T) (vinv T r) a))=strp T tl T.length 0 x by
      rw[←HYS.out,strp,strp,strip_some (by rw[HFA.out];exact ha0) (tabF_some HTR.out hr0),HFA.out,show T.length-(k+1)=j by have:=HJ.out;omega])
     have hap:0<a:=by omega
     have hwn:IntKind.i64.wrap (-(a:Int))= -(a:Int):=zq6 _ (by omega);clear hr0;go_wp2_with fail;go_region_held3 (fun w'=>(∀b o,b<wr.heap.size→w'.cell? ⟨b,o,none⟩=wr.cell? ⟨b,o,none⟩)∧Keep (fun _=>True) wr w')
      (first|exact ks_mk (by repeat(first|exact zqK.drew|exact Keep.refl _ _|refine Keep.trans ?_ (Keep.of_below (by assumption)))))
      (first|(go_at_call 93;refine(HPW.out _ (.slice aR r.length cR) r a (by omega) hap (HP5.out.keep (by repeat(first|exact zqK.drew|exact Keep.refl _ _|exact zqK.alloc _|exact(zqK.alloc _).drew|refine Keep.trans ?_ (Keep.of_below (by assumption))))) (HR5.out.keep (by repeat(first|exact zqK.drew|exact Keep.refl _ _|exact zqK.alloc _|exact(zqK.alloc _).drew|refine Keep.trans ?_ (Keep.of_below (by assumption))))) HREl.out).mono ?_;rintro e w6 ⟨v6,rfl,ho6,hb6⟩)|(go_at_call_of 92 v6;refine(HM.out _ _ v6 _ _ (HP5.out.keep (by repeat(first|exact zqK.drew|exact Keep.refl _ _|exact zqK.alloc _|exact(zqK.alloc _).drew|refine Keep.trans ?_ (Keep.of_below (by assumption))))) (HO5.out.keep (by repeat(first|exact zqK.drew|exact Keep.refl _ _|exact zqK.alloc _|exact(zqK.alloc _).drew|refine Keep.trans ?_ (Keep.of_below (by assumption))))) ((ho6.sl.mono (fun _ _=>trivial)).keep (by repeat(first|exact zqK.drew|exact Keep.refl _ _|exact zqK.alloc _|exact(zqK.alloc _).drew|refine Keep.trans ?_ (Keep.of_below (by assumption))))) hY.out.1 HPE.out).mono ?_;rintro e w8 ⟨v8,rfl,ho8,hb8⟩))
     have hs7:w.heap.size≤w6.heap.size:=by
      have:=(show Keep (fun _=>True) wr w6 from(by repeat(first|exact zqK.drew|exact Keep.refl _ _|exact zqK.alloc _|exact(zqK.alloc _).drew|refine Keep.trans ?_ (Keep.of_below (by assumption))))).size;omega
     have HB8:=hid (show Below (w.heap.size+1) (w.alloc (.cells #[vO,vP,vC] 28)) w8 from(by repeat(first|exact HB5.out|exact HB5.out.drew|refine Below.step ?_ (by simp) (by assumption))));have HO8:=hid (ho8.mono hs7);clear ho6 ho8 hb6 hb8;go_wp2_with fail;go_roundw;case rel=>exact⟨k+1,_,by omega,by go_num,HO8,hid ⟨HCL.out,HY'.out⟩,HB8.out⟩
     case measure=>simp[intOf];omega
  ·obtain rfl:k=T.length:=by omega
   have HBU:=hid (below_unboxed HB5.out);have HS:=hid (show strp T tl T.length 0 x=(T.length,y) by
    have:=hY.out.2;rw[zq127]at this;rw[←this];rfl)
   clear hk5;go_wp2_with fail;exact zq12 (by simp[results,Tryz.results206,go_sem];rfl) rfl (by
    unfold StripR;rw[HS.out];exact⟨_,rfl,hO.out,hY.out.1,HBU.out⟩)
end Go.Proofs.YtlmlamcoeegkbaaGreat.SpecM
namespace Go.Proofs.YtlmlamcoeegkbaaGreat.SpecO
open Go.RowKit Go.Proofs.YtlmlamcoeegkbaaGreat Tow Gen GenC Tab SpecA SpecB SpecD SpecE SpecI SpecJ SpecK SpecL GenL
theorem SlG.strongS {α:Type}{E E':World→Value→α→Prop}{S:Nat→Prop}{w:World}{v:Value}{l:List α}(h:SlG E S w v l)(hE:∀u x,E w u x→E' w u x):SlG E' (fun k=>k<w.heap.size) w v l:=by
 obtain⟨ao,c,h1,h2,h3,h0,h4⟩:=h;refine⟨ao,c,h1,h2,h3,h0,fun i x hx=>?_⟩;obtain⟨b,o,e1,e2,e3,u,e4,e5⟩:=h4 i x hx;exact⟨b,o,e1,e3,e3,u,e4,hE _ _ e5⟩
theorem SlI.strongS {S:Nat→Prop}{w:World}{v:Value}{l:List Int}(h:SlI S w v l):SlI (fun k=>k<w.heap.size) w v l:=SlG.strongS h (fun _ _ e=>e)
theorem Sl2.strongS {S:Nat→Prop}{w:World}{v:Value}{l:List (List Int)}(h:Sl2 S w v l):Sl2 (fun k=>k<w.heap.size) w v l:=SlG.strongS h (fun _ _ e=>SlI.strongS e)
def OutS (B:Nat)(w:World)(v:Value)(rows:List (List Nat)):Prop:=
 ∃us,w.ownsRow B 24 1 v rows.length us∧us.length=rows.length∧∀(i:Nat) (r:List Nat) (u:Value),rows[i]?=some r→us[i]?=some u→SlI (fun k=>k<B) w u (ints r)
theorem OutS.push {B n:Nat}{w w':World}{v v' u:Value}{rows:List (List Nat)}{r:List Nat}{us:List Value}(hn:rows.length=n)(hB:B≤w.heap.size)
  (h1:w.ownsRow B 24 1 v n us) (h2:us.length=rows.length) (h4:∀(i:Nat) (r:List Nat) (u:Value),rows[i]?=some r→us[i]?=some u→SlI (fun k=>k<B) w u (ints r))
  (hu:SlI (fun k=>k<B) w u (ints r)) (ho:w'.ownsRow B 24 1 v' (n+1) (us++[u])) (hg:w.grownBy w' v.ownBlock):OutS B w' v' (rows++[r]):=by
 subst hn;have hk:Keep (fun k=>k<B) w w':=Keep.grown hg (fun k hk e=>by have:=(zq8 h1 k e.symm).1;omega);refine⟨us++[u],by simpa using ho,by simp[h2],fun i r' u' hr' hu'=>SlI.keep ?_ hk⟩;rcases zq36 i rows.length with hi|hi
 ·rw[zq28 hi]at hr';rw[zq28 (by omega)]at hu';exact h4 i r' u' hr' hu'
 ·rw[zq27 hi]at hr';rw[zq27 (by omega)]at hu';rw[h2]at hu';rcases hj:i-rows.length with _|j
  ·rw[hj]at hr' hu';simp at hr' hu';subst hr';subst hu';exact hu
  ·rw[hj]at hr';simp at hr'
theorem OutS.sl2 {B:Nat}{w:World}{v:Value}{rows:List (List Nat)}(h:OutS B w v rows):Sl2 Any w v (rows.map ints):=by
 obtain⟨us,h1,h2,h3⟩:=h;rcases h1.2 with⟨rfl,hn⟩|⟨g,cap,cur,rfl,hb,hgg,hn,hm,hs,ht⟩
 ·obtain rfl:rows=[]:=zq21 hn;exact⟨none,0,rfl,zq1 _,by simp,fun _=>rfl,fun i x hx=>by simp at hx⟩
 ·refine⟨some ⟨g,0,none⟩,cap,by simp,by simpa using hn,hm,by simp,fun i r hr=>?_⟩;simp only[zq20,zq46]at hr;obtain⟨r',hr',rfl⟩:=hr;have hi:=(zq2.1 hr').1;obtain⟨u,hu⟩:∃u,us[i]?=some u:=⟨_,zq0 (by omega)⟩;refine⟨g,0,rfl,trivial,(zq10.1 hgg).1,u,?_,(h3 i r' u hr' hu).mono (fun _ _=>trivial)⟩;rw[zq39,zq59 h1 i (by omega)];exact hu
abbrev SD (T:Tw)(tl:List (List Nat))(d:Nat)(x:List Nat):Prop:=Sd (El T) (mul T) (Tow.one T) T.length fF (vinv T) (tabF tl) d x
abbrev CLO (T:Tw)(im:List (List Nat))(tl:List (List Nat)):Prop:=Clo (El T) (mul T) (Tow.one T) T.length fF (vinv T) im (tabF tl)
def FD (T:Tw)(tl dn:List (List Nat))(k:Nat):Prop:=
 ∀d,(k≤d→(tabF tl d=none→tabF dn d=none)∧∀y,tabF tl d=some y→∃s,SD T tl (d+1) s∧tabF dn d=some (mul T y s)∧Zs fF (tabF tl) (d+1) T.length (mul T y s))∧(d<k→tabF dn d=none)
theorem SD_le {T:Tw}{tl:List (List Nat)}{d d':Nat}{x:List Nat}(h:SD T tl d x)(hd:d'≤d):SD T tl d' x:=⟨A_le h.1 hd,h.2⟩
theorem FD.row {T:Tw}{tl dn im:List (List Nat)}{k j:Nat}(h:FD T tl dn k)(hc:CLO T im tl)(hk:k≤j){r:List Nat}(hr:tabF dn j=some r)(hj:j<T.length):SD T tl j r:=by
 have h1:=(h j).1 hk;cases ht:tabF tl j with
 |none=>rw[h1.1 ht]at hr;simp at hr
 |some y=>
  obtain⟨s,hs,e,_⟩:=h1.2 y ht;rw[e]at hr;injection hr with hr;rw[←hr];exact(hc.sub j (zq44 hj)).cl (hc.mem j y ht) (SD_le hs (by omega))
theorem FD.skip {T:Tw}{tl dn:List (List Nat)}{k:Nat}(h:FD T tl dn (k+1))(ht:tabF tl k=none):FD T tl dn k:=fun d=>by
 refine⟨fun hk=>?_,fun hk=>(h d).2 (by omega)⟩;rcases zq36 k d with h1|h1
 ·exact(h d).1 h1
 ·obtain rfl:d=k:=by omega
  exact⟨fun _=>(h d).2 (by omega),fun y hy=>by rw[ht]at hy;simp at hy⟩
theorem FD.put {T:Tw}{tl dn:List (List Nat)}{k:Nat}{y s:List Nat}(h:FD T tl dn (k+1))(ht:tabF tl k=some y)(hs:SD T tl (k+1) s)(hk:k<dn.length)(hne:mul T y s≠[])(hzs:Zs fF (tabF tl) (k+1) T.length (mul T y s)):FD T tl (dn.set k (mul T y s)) k:=fun d=>by
 rw[tabF_set hk hne];unfold Gen.put;refine⟨fun hd=>?_,fun hd=>?_⟩
 ·by_cases e:d=k
  ·subst e;rw[zq57 rfl];exact⟨fun h0=>by rw[ht]at h0;simp at h0,fun z hz=>by rw[ht]at hz;injection hz with hz;subst hz;exact⟨s,hs,rfl,hzs⟩⟩
  ·rw[zq37 e];exact(h d).1 (by omega)
 ·rw[zq37 (by omega)];exact(h d).2 (by omega)
theorem FD.none {T:Tw}{tl dn:List (List Nat)}{k j:Nat}(h:FD T tl dn k)(hk:k≤j)(hn:tabF dn j=Option.none):tabF tl j=Option.none:=by
 cases ht:tabF tl j with
 |none=>rfl
 |some y=>
  obtain⟨s,_,e,_⟩:=((h j).1 hk).2 y ht;rw[e]at hn;simp at hn
theorem zs_step {T:Tw}(hT:Wf T)(hg:Tow.Good T){tl im:List (List Nat)}(hc:CLO T im tl)(dn:List (List Nat))(k j:Nat)(q x:List Nat)(d0:Nat)(h:FD T tl dn k)(hk:k≤j)(hj:j<T.length)(hq:tabF dn j=some q)(hx:El T x)(hz:Zs fF (tabF tl) d0 j x):
  Zs fF (tabF tl) d0 (j+1) (mul T x (npow (mul T) (Tow.one T) (vinv T q) (fF j x))):=by
 have F:=fil hT hg;have hSq:=h.row hc hk hq hj;have hS:=hc.sub j (zq44 hj);have hp:=hS.npow (F.sub_inv hS hSq) (fF j x);have hqa:=hS.npow hSq (fF j x);have hR:=GenM.fr hT hj hx hp.1;have h1:fF j q=1:=by
  have h1:=(h j).1 hk;cases ht:tabF tl j with
  |none=>rw[h1.1 ht]at hq;simp at hq
  |some y=>
   obtain⟨s,hs,e,_⟩:=h1.2 y ht;rw[e]at hq;injection hq with hq;obtain⟨_,hyA,hy1⟩:=hc.tb j y ht;have hsA:=A_succ.1 hs.1;rw[←hq,F.fm hj hyA.1 hsA.1.1 hyA.2 hsA.1.2,hy1,hsA.2];exact zq43 (F.o2 j hj)
 have e1:fF j (mul T (npow (mul T) (Tow.one T) q (fF j x)) (npow (mul T) (Tow.one T) (vinv T q) (fF j x)))=0:=by rw[(F.inv_pow hSq.1.1 _).1,F.fe j hj]
 rw[F.fm hj hqa.1.1 hp.1.1 hqa.1.2 hp.1.2,F.f_npow hj hSq.1,h1,zq100,Nat.mod_add_mod]at e1;intro i hi hij hne;rcases zq36 i j with h3|h3
 ·rw[hR.1 i h3];exact hz i hi h3 hne
 ·obtain rfl:i=j:=by omega
  rw[hR.2];exact e1
theorem mk23 (n:Nat)(hn:n≤6)(w:World):(Instr.makeSlice 25 (.int .i64 (n:Int)) (.int .i64 (n:Int))).run Tryz.prog w= .ok (.slice (some ⟨w.heap.size,0,none⟩) n n) (w.alloc (.cells (madeCells #[.slice none 0 0] n) 24)):=
 run_make_row' (P:=Tryz.prog) 25 24 (.slice none 0 0) 24 Tryz.underlying25 infoR rfl .i64 .i64 n (by omega) (by omega) w
def FullR (T:Tw)(tl:List (List Nat))(w:World)(e:Ending)(w':World):Prop:=
 ∃v dn,e= .returned v∧dn.length=T.length∧FD T tl dn 0∧Sl2 Any w' v ((usF (tabF dn) T.length 0).map ints)∧Below w.heap.size w w'
theorem full_any (T:Tw)(hT:Wf T)(hs:Small T)(hg:Tow.Good T)(hn0:0<T.length)(w:World)(vO vP vC vt:Value)(tl im:List (List Nat))(hP:ValP Any w vO vP vC (ofTw T))(ht:Sl2 Any w vt (tl.map ints))(htl:tl.length=T.length)(hc:CLO T im tl):
  Calls Tryz.prog 209 #[.agg #[vO,vP,vC],vt] w (FullR T tl w):=by
 obtain⟨i0,hi,hz0,hz1,hz2⟩:=zq41 infoR;have HP:=hid hP;have HT:=hid (Sl2.strongS ht);have HG:=hid (grp hT hg);have HSM:=hid hs;have HC:=hid hc;have HZS:=hid (zs_step hT hg hc);have HF:=hid (fil hT hg);have HVE:=hid (fun r (h:El T r)=>(vinv_spec hT hg h).1);have HM:=hid (fun W va vb a b hP ha hb hA hB=>mul_any T hT hs W vO vP vC va vb a b hP ha hb hA hB);have HPW:=hid (fun W va a K hK hK0 hP ha hA=>pow_neg_any T hT hs hg W vO vP vC va a K hK hK0 hP ha hA);obtain⟨aU,cU,hvt⟩:=Sl2.form ht;rw[htl]at hvt;subst hvt;have hs6:=hs.1;have hmk:=mk23 T.length hs6;obtain⟨wb,hwb⟩:∃wb,wb=w.alloc (.cells #[vO,vP,vC] 28):=⟨_,rfl⟩;have hwbs:wb.heap.size=w.heap.size+1:=by rw[hwb];simp
 clear hP ht hT hs hg hc;obtain⟨g,hgg⟩:∃g,g=w.heap.size+1:=⟨_,rfl⟩;have HD0:=hid (show TabR (fun W u r=>SlI (fun k=>k≠g) W u (ints r)) (wb.alloc (.cells (madeCells #[.slice none 0 0] T.length) 24)) g (List.replicate T.length []) by
  have:=TabR.made (R:=fun W u r=>SlI (fun k=>k≠g) W u (ints r)) wb T.length (by unfold maxLen;omega) (SlI_nil _ _);rw[hwbs,←hgg]at this;exact this)
 have HB0:=hid (show Below (w.heap.size+1) (w.alloc (.cells #[vO,vP,vC] 28)) (wb.alloc (.cells (madeCells #[.slice none 0 0] T.length) 24)) by rw[←hwb];exact zqB.alloc (by omega) _);have HGG:=hid hgg;clear hgg;go_enter Tryz.func209,Tryz.ntmps209;go_upto_region 1 with fail;rw[←hwb];clear hwb;have d0:True:=trivial;have w9:IntKind.i64.wrap ((T.length:Int)-1)=(T.length:Int)-1:=zq6 _ (by omega);go_wp2_with fail;rw[←HGG.out];go_loopw [6] (fun dv wr=>∃(k:Nat) (dn:List (List Nat)),k≤T.length∧dv= .int .i64 ((k:Int)-1)∧dn.length=T.length∧Hid (FD T tl dn k)∧Hid (TabR (fun W u r=>SlI (fun k=>k≠g) W u (ints r)) wr g dn)∧Below (w.heap.size+1) (w.alloc (.cells #[vO,vP,vC] 28)) wr) (fun dv _=>(intOf dv+1).toNat);case atStart=>exact⟨T.length,List.replicate T.length [],zq1 _,rfl,by simp,hid (fun d=>by
   rw[tabF_replicate];refine⟨fun hd=>⟨fun _=>rfl,fun y hy=>?_⟩,fun _=>rfl⟩;rw[tabF_out (by omega)]at hy;simp at hy),HD0,HB0.out⟩
 case round=>
  obtain⟨k,dn,hk,rfl,hdl,hFD,hTB,hB⟩:=hrel;have HBo:=hid hB;have hk5:=keep_boxed hB Any;obtain⟨e0,e1,e2⟩:=box_cells hB;have hsw:w.heap.size+1≤wr.heap.size:=by have:=hB.size;simp at this;omega
  have hglt:=hTB.out.lt;have hgw:w.heap.size<g:=by have:=HGG.out;omega
  clear hB HD0 HB0;by_cases h0:k=0
  ·subst h0;rw[show(((0:Nat):Int)-1)= -1 from rfl];have hd3:decide ((-1:Int)≥0)=false:=by simp
   have HTW:=hid (show TabR (fun W u r=>SlI (fun k=>k<wr.heap.size) W u (ints r)) wr g dn from by
    obtain⟨us,h1,h2,h3⟩:=hTB.out;exact⟨us,h1,h2,fun i r u hr hu=>SlI.strongS (h3 i r u hr hu)⟩)
   have HBW:=hid (below_unboxed HBo.out);have h00:=zq47 (base:=wr.heap.size) (e:=24) (size:=1) wr #[] 0 zqN (zq4 _) rfl;clear hk5 hTB;go_wp2_with fail;rename World=>wo;go_loopw [9,10] (fun ov iv wr=>∃(k:Nat) (rows:List (List Nat)),k≤T.length∧iv= .int .i64 (k:Int)∧rows.length≤k∧Hid (rows++usF (tabF dn) (T.length-k) k=usF (tabF dn) T.length 0)∧Hid (OutS wo.heap.size wr ov rows)∧Below wo.heap.size wo wr) (fun _ iv _=>T.length-(intOf iv).toNat);case atStart=>exact⟨0,[],zq4 _,rfl,zq1 _,hid rfl,hid ⟨[],h00,rfl,by simp⟩,zqB.alloc zqN _⟩
   case round=>
    obtain⟨k,rows,hk',rfl,hrl,hR,hOS,hb⟩:=hrel;have HB:=hid hb;have hTq:TabR (fun W u r=>SlI (fun k=>k<wo.heap.size) W u (ints r)) wr g dn:=HTW.out.keep (Keep.lt hb) hglt (fun v r h=>SlI.keep h (Keep.lt hb));have hgq:=hTq.lt;clear hb h00;by_cases hlt:k<T.length
    ·obtain⟨j,hj⟩:∃j,T.length-k=j+1:=⟨T.length-k-1,by omega⟩;obtain⟨q,hq⟩:∃q,dn[k]?=some q:=⟨_,zq0 (by omega)⟩;have hR2:=hR.out;rw[hj]at hR2;obtain⟨uq,hcq,_,hRq⟩:=hTq.at hq;obtain⟨aQ,cQ,rfl,_⟩:=SlI.open hRq;obtain⟨lq,hlq⟩:∃lq,q.length=lq:=⟨_,rfl⟩;rw[hlq]at hcq hRq;have hkl:(k:Int)<(T.length:Int):=by omega
     have hk0:(0:Int)≤(k:Int):=by omega
     have HQD:=hid hq;have HJ:=hid hj;have HR2:=hid hR2;have HRQ:=hid hRq;clear hq hRq hTq hj hR2;by_cases hq0:q=[]
     ·obtain rfl:0=lq:=by rw[←hlq,hq0];rfl
      have hql:decide (((0:Nat):Int)>0)=false:=by simp
      have HR':=hid (show rows++usF (tabF dn) (T.length-(k+1)) (k+1)=usF (tabF dn) T.length 0 by
       rw[←HR2.out,usF,tabF_none (by rw[HQD.out,hq0]),show T.length-(k+1)=j by have:=HJ.out;omega])
      clear hlt hlq hq0;go_wp2_with fail;go_roundw;case rel=>exact⟨k+1,rows,by omega,by go_num,by omega,HR',hOS,HB.out⟩
      case measure=>simp[intOf]<;>omega
     ·have hlq0:0<lq:=by
       have:q.length≠0:=fun h=>hq0 (zq21 h);omega
      have hql:decide ((lq:Int)>0)=true:=by simp;omega
      have hqi:(0:Int)<(lq:Int):=by omega
      have HR':=hid (show(rows++[q])++usF (tabF dn) (T.length-(k+1)) (k+1)=usF (tabF dn) T.length 0 by
       rw[←HR2.out,usF,tabF_some HQD.out hq0,show T.length-(k+1)=j by have:=HJ.out;omega];simp)
      obtain⟨us,h1,h2,h4⟩:=hOS.out;have HU:=hid (And.intro h2 h4);clear hlq hlt h2 h4 hOS hq0;go_wp2_with (at_builtin;(refine zq55 _ rfl _ _ 25 rfl wo.heap.size 24 i0 (.slice none 0 0) 1 24 Tryz.underlying25 hi hz0 hz1 hz2 rfl (by decide) _ _ _ rfl (ownsRow_keep h1 (S:=Any) (zqK.alloc _) (fun _ _=>trivial)) ⟨wr.heap.size,0,none⟩ 1 1 [.slice aQ lq cQ] rfl rfl ?c1 ?c2 ?c3 ?c4 ?c5 ?_));case c1=>
       intro j u hj
       match j,hj with
       |0,hj=>simp at hj;subst hj;simp[Addr.add]
      case c2=>intro u hu;simp at hu;subst hu;rfl
      case c3=>unfold maxLen;omega
      case c4=>omega
      case c5=>have:=HB.out.size;simp;omega
      ·intro v' w2 hown hgrow _;have HN:=hid (show OutS wo.heap.size w2 v' (rows++[q]) from
        OutS.push (w:=wr.alloc _) (us:=us) rfl (by have:=HB.out.size;simp;omega) (ownsRow_keep h1 (S:=Any) (zqK.alloc _) (fun _ _=>trivial)) HU.out.1 (fun i r u hr hu=>SlI.keep (HU.out.2 i r u hr hu) (zqK.alloc _)) (SlI.keep HRQ.out (zqK.alloc _)) hown hgrow)
       have HB2:=hid (show Below wo.heap.size wo w2 from(HB.out.alloc (by have:=HB.out.size;omega) _).grown hgrow (by simp;have:=HB.out.size;omega) (fun g hg=>(zq8 h1 g hg).1));clear hown hgrow h1 HU;go_wp2_with fail;go_roundw;case rel=>exact⟨k+1,rows++[q],by omega,by go_num,by simp;omega,HR',HN,HB2.out⟩
       case measure=>simp[intOf]<;>omega
    ·obtain rfl:k=T.length:=by omega
     have HE:=hid (show rows=usF (tabF dn) T.length 0 by
      have:=hR.out;rw[zq127]at this;rw[←this];simp[usF])
     have HR:=hid (show FullR T tl w (.returned _) wr from⟨_,dn,rfl,hdl,hFD.out,by rw[←HE.out];exact hOS.out.sl2,HBW.out.trans (HB.out.mono HBW.out.size)⟩);clear hTq;go_wp2_with fail;go_ret;exact HR.out
  ·obtain⟨d,rfl⟩:∃d,k=d+1:=⟨k-1,by omega⟩;have hii:(((d+1:Nat):Int)-1)=(d:Int):=by omega
   rw[hii];obtain⟨r,hr⟩:∃r,tl[d]?=some r:=⟨_,zq0 (by omega)⟩;obtain⟨bU,oU,cU',vr,he,hbU,hcU,hrU⟩:=Sl2.at_row HT.out hr;obtain⟨rfl,rfl⟩:aU=some ⟨bU,oU,none⟩∧cU=cU':=by simp only[zq40]at he;exact⟨he.1,he.2.2⟩
   have hcU5:=(hk5.cell (b:=bU) (o:=oU+d) trivial hbU).trans hcU;have hww:w.heap.size<wr.heap.size:=by omega
   have hbU5:bU<wr.heap.size:=by omega
   have hwd:IntKind.i64.wrap ((d:Int)-1)=(d:Int)-1:=zq6 _ (by omega);have hdn:(d:Int)<(T.length:Int):=by omega
   have hd0:(0:Int)≤(d:Int):=by omega
   have HKW:=hid hk5;have HR5:=hid (SlI.mono (S':=fun k=>k≠g) (SlI.keep hrU (hk5.mono (fun _ _=>trivial))) (fun k (hk:k<w.heap.size)=>by omega));obtain⟨aR,cR,rfl,_⟩:=SlI.open hrU;have HTR:=hid hr;clear hr he hrU hcU hk5 h0 hii;by_cases hr0:r=[]
   ·subst hr0;have HFD':=hid (hFD.out.skip (tabF_none HTR.out));go_wp2_with fail;go_roundw;case rel=>exact⟨d,dn,by omega,rfl,hdl,HFD',hTB,HBo.out⟩
    case measure=>simp[intOf]<;>omega
   ·have hrl:((r.length:Int)==0)=false:=by
     have:r.length≠0:=fun h=>hr0 (zq21 h);simp;omega
    have HTD:=hid (tabF_some HTR.out hr0);have HSr:=hid (HC.out.mem d r HTD.out);have HrE:=hid HSr.out.1.1;have HSub:=hid (HC.out.sub (d+1) (by omega));have HR50:=hid (show SlI (fun k=>k≠g) wr (.slice aR r.length cR) (ints (mul T r (Tow.one T))) by rw[HG.out.eR HrE.out];exact HR5.out);have hwd2:IntKind.i64.wrap ((d:Int)+1)=(d:Int)+1:=zq6 _ (by omega);clear hr0;go_wp2_with fail;rename World=>wo;go_loopw [7,8] (fun xv ev wr=>∃(j:Nat) (s:List Nat),d+1≤j∧j≤T.length∧ev= .int .i64 (j:Int)∧Hid (SD T tl (d+1) s∧Zs fF (tabF tl) (d+1) j (mul T r s))∧Hid (SlI (fun k=>k≠g) wr xv (ints (mul T r s)))∧Below wo.heap.size wo wr) (fun _ ev _=>T.length-(intOf ev).toNat);case atStart=>exact⟨d+1,Tow.one T,zq1 _,by omega,by go_num,hid ⟨HSub.out.me,fun i h1 h2=>by omega⟩,HR50,zq3 _ _⟩
    case round=>
     obtain⟨j,s,hj1,hj,rfl,hS,hX,hbq⟩:=hrel;have hBq:Below (w.heap.size+1) (w.alloc (.cells #[vO,vP,vC] 28)) wr:=HBo.out.trans (hbq.mono hsw);have HB5:=hid hBq;have hkq:=Keep.of_below (S:=Any) hbq;have hTq:TabR (fun W u r=>SlI (fun k=>k≠g) W u (ints r)) wr g dn:=hTB.out.keep hkq trivial (fun v r h=>SlI.keep h (Keep.of_below hbq));have hsq:w.heap.size+1≤wr.heap.size:=zq11 hsw hbq.size;have HSE:=hid hS.out.1.1.1;have HME:=hid (HG.out.cl HrE.out HSE.out);have hxl:=El_length HME.out;obtain⟨aX,cX,hxv,hcx⟩:=hX.out.open;rw[hxl]at hxv hcx;subst hxv;obtain⟨f0,f1,f2⟩:=box_cells hBq;have hwwq:w.heap.size<wr.heap.size:=by omega
     have hgq:=hTq.lt;by_cases hlt:j<T.length
     ·obtain⟨a,ha⟩:∃a,(mul T r s)[j]?=some a:=⟨_,zq0 (by omega)⟩;obtain⟨q,hq⟩:∃q,dn[j]?=some q:=⟨_,zq0 (by omega)⟩;have ha7:a<7:=HSM.out.lt (s:=0) HME.out (zq4 _) ha;have hX':=hX.out;rw[←hxl]at hX';obtain⟨bX,oX,he,_,hbX,hcX⟩:=hX'.at ha;subst he;obtain⟨uq,hcq,_,hRq⟩:=hTq.at hq;obtain⟨aQ,cQ,rfl,_⟩:=SlI.open hRq;obtain⟨lq,hlq⟩:∃lq,q.length=lq:=⟨_,rfl⟩;rw[hlq]at hcq hRq;have hjl:(j:Int)<(T.length:Int):=by omega
      have hj0:(0:Int)≤(j:Int):=by omega
      have HQ5:=hid (SlI.mono (S':=Any) hRq (fun _ _=>trivial));have HX5:=hid (SlI.mono (S':=Any) hX.out (fun _ _=>trivial));have HP5:=hid (HP.out.keep (keep_boxed hBq Any));have HQD:=hid hq;have HFA:=hid (GenM.fF_get ha);clear ha hq hRq hX' hTq hBq hkq;by_cases hq0:q=[]
      ·obtain rfl:0=lq:=by rw[←hlq,hq0];rfl
       have hql:decide (((0:Nat):Int)>0)=false:=by simp
       have HSZ:=hid (And.intro hS.out.1 (show Zs fF (tabF tl) (d+1) (j+1) (mul T r s) from fun i h1 h2 hne=>by
        rcases zq36 i j with h3|h3
        ·exact hS.out.2 i h1 h3 hne
        ·obtain rfl:i=j:=by omega
         exact absurd (hFD.out.none hj1 (tabF_none (by rw[HQD.out,hq0]))) hne))
       clear hlt hlq hq0;go_wp2_with fail;go_roundw;case rel=>exact⟨j+1,s,by omega,by omega,by go_num,HSZ,hX,hbq⟩
       case measure=>simp[intOf]<;>omega
      ·have hlq0:0<lq:=by
        have:q.length≠0:=fun h=>hq0 (zq21 h);omega
       have hql:decide ((lq:Int)>0)=true:=by simp;omega
       have hqi:(0:Int)<(lq:Int):=by omega
       have HLQ:=hid hlq;clear hlq;by_cases ha0:a=0
       ·subst ha0;have hz:(((0:Nat):Int) !=0)=false:=by simp
        have HSZ:=hid (And.intro hS.out.1 (show Zs fF (tabF tl) (d+1) (j+1) (mul T r s) from fun i h1 h2 hne=>by
         rcases zq36 i j with h3|h3
         ·exact hS.out.2 i h1 h3 hne
         ·obtain rfl:i=j:=by omega
          exact HFA.out))
        clear hlt;go_wp2_with fail;go_roundw;case rel=>exact⟨j+1,s,by omega,by omega,by go_num,HSZ,hX,hbq⟩
        case measure=>simp[intOf]<;>omega
       ·have hz:((a:Int) !=0)=true:=by simp;omega
        have hSQ:=hFD.out.row HC.out hj1 (tabF_some HQD.out hq0) hlt;have HQE:=hid hSQ.1.1;have HPE:=hid (HG.out.npow (HVE.out q HQE.out) a);have HAS:=hid (HG.out.asc HrE.out HSE.out HPE.out);have HS':=hid (And.intro (HSub.out.cl hS.out.1 (HSub.out.npow (HF.out.sub_inv HSub.out (SD_le hSQ hj1)) a)) (show Zs fF (tabF tl) (d+1) (j+1) (mul T r (mul T s (npow (mul T) (Tow.one T) (vinv T q) a))) by
         rw[←HAS.out];have hzs:=HZS.out dn (d+1) j q _ (d+1) hFD.out hj1 hlt (tabF_some HQD.out hq0) HME.out hS.out.2;rw[HFA.out]at hzs;exact hzs))
        have hap:0<a:=by omega
        have hwn:IntKind.i64.wrap (-(a:Int))= -(a:Int):=zq6 _ (by omega);clear hSQ hq0 hlt;go_wp2_with fail;go_region_held3 (fun w'=>(∀b o,b<wr.heap.size→w'.cell? ⟨b,o,none⟩=wr.cell? ⟨b,o,none⟩)∧Keep (fun _=>True) wr w')
         (first|exact ks_mk (by repeat(first|exact zqK.drew|exact Keep.refl _ _|refine Keep.trans ?_ (Keep.of_below (by assumption)))))
         (first|(go_at_call 93;refine(HPW.out _ (.slice aQ lq cQ) q a (by omega) hap (HP5.out.keep (by repeat(first|exact zqK.drew|exact Keep.refl _ _|exact zqK.alloc _|exact(zqK.alloc _).drew|refine Keep.trans ?_ (Keep.of_below (by assumption))))) (HQ5.out.keep (by repeat(first|exact zqK.drew|exact Keep.refl _ _|exact zqK.alloc _|exact(zqK.alloc _).drew|refine Keep.trans ?_ (Keep.of_below (by assumption))))) HQE.out).mono ?_;rintro e w6 ⟨v6,rfl,ho6,hb6⟩)|(go_at_call_of 92 v6;refine(HM.out _ _ v6 _ _ (HP5.out.keep (by repeat(first|exact zqK.drew|exact Keep.refl _ _|exact zqK.alloc _|exact(zqK.alloc _).drew|refine Keep.trans ?_ (Keep.of_below (by assumption))))) (HX5.out.keep (by repeat(first|exact zqK.drew|exact Keep.refl _ _|exact zqK.alloc _|exact(zqK.alloc _).drew|refine Keep.trans ?_ (Keep.of_below (by assumption))))) ((ho6.sl.mono (fun _ _=>trivial)).keep (by repeat(first|exact zqK.drew|exact Keep.refl _ _|exact zqK.alloc _|exact(zqK.alloc _).drew|refine Keep.trans ?_ (Keep.of_below (by assumption))))) HME.out HPE.out).mono ?_;rintro e w8 ⟨v8,rfl,ho8,hb8⟩))
        have hs7:wr.heap.size≤w6.heap.size:=(show Keep (fun _=>True) wr w6 from(by repeat(first|exact zqK.drew|exact Keep.refl _ _|exact zqK.alloc _|exact(zqK.alloc _).drew|refine Keep.trans ?_ (Keep.of_below (by assumption))))).size;have HBQ:=hid (show Below wo.heap.size wo w8 from(by repeat(first|exact hbq|exact hbq.drew|refine Below.step ?_ zqN (by assumption))));rw[HAS.out]at ho8;have HO8:=hid (ho8.sl.mono (S':=fun k=>k≠g) (fun k hk=>by omega));clear ho6 ho8 hb6 hb8 hbq;go_wp2_with fail;go_roundw;case rel=>exact⟨j+1,_,by omega,by omega,by go_num,HS',HO8,HBQ.out⟩
        case measure=>simp[intOf]<;>omega
     ·obtain rfl:j=T.length:=by omega
      obtain⟨q,hq⟩:∃q,dn[d]?=some q:=⟨_,zq0 (by omega)⟩;obtain⟨uq,hcq,hfq,_⟩:=hTq.at hq;have HFD':=hid (hFD.out.put HTD.out hS.out.1 (by omega) (fun h=>by have:=hxl;rw[h]at this;simp at this;omega) hS.out.2);have HTB':=hid (TabR.set (u:=.slice aX T.length cX) (y:=mul T r s) hTq d (fun _ _ _ _=>trivial) (fun v r h=>SlI.keep h (zqK.setCell (by simp) _)) hX.out);have HB':=hid (hBq.setCell (p:=⟨g,d,none⟩) (by have:=HGG.out;show _≤g;omega) (.slice aX T.length cX));clear hTq hBq hkq hq hlt;go_wp2_with fail;go_roundw;case rel=>exact⟨d,dn.set d (mul T r s),by omega,rfl,by simp[hdl],HFD',HTB',HB'.out⟩
      case measure=>simp[intOf]<;>omega
end Go.Proofs.YtlmlamcoeegkbaaGreat.SpecO
