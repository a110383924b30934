import Derived.Test.YtlmlamcoeegkbaaGreatZ0
import Derived.Test.YtlmlamcoeegkbaaGreatZs
import Derived.Deep.RegionLaw
import Derived.Test.YtlmlamcoeegkbaaGreatZt
/-
  Lemmas for the law FnOrbits, in short spelling.
-/
open Go.Lib (hid)
set_option linter.unusedVariables false
set_option linter.unusedSimpArgs false
set_option maxRecDepth 100000
set_option maxHeartbeats 40000000
namespace Go.Proofs.YtlmlamcoeegkbaaGreat.GenE
open Go.Proofs.YtlmlamcoeegkbaaGreat Tow Gen GenC Tab NumT SpecO
theorem usF_get {α:Type}{t:Nat→Option α}{o:Nat→Nat}:∀(k d i:Nat) (u:α),(usF t k d)[i]?=some u→∃j,d≤j∧j<d+k∧t j=some u∧(osF t o k d)[i]?=some (o j)
 |0,d,i,u,h=>by simp[usF]at h
 |k+1,d,i,u,h=>by
  rw[usF]at h;rw[osF];cases ht:t d with
  |none=>
   rw[ht]at h;obtain⟨j,h1,h2,h3,h4⟩:=usF_get (o:=o) k (d+1) i u h;exact⟨j,by omega,by omega,h3,h4⟩
  |some v=>
   rw[ht]at h;cases i with
   |zero=>
    simp at h;subst h;exact⟨d,zq1 _,by omega,ht,rfl⟩
   |succ i=>
    obtain⟨j,h1,h2,h3,h4⟩:=usF_get (o:=o) k (d+1) i u (by simpa using h);exact⟨j,by omega,by omega,h3,by simpa using h4⟩
theorem osF_length {α:Type}{t:Nat→Option α}{o:Nat→Nat}:∀(k d:Nat),(osF t o k d).length=(usF t k d).length
 |0,d=>rfl
 |k+1,d=>by
  rw[osF,usF];cases t d with
  |none=>exact osF_length k (d+1)
  |some v=>simp[osF_length k (d+1)]
theorem usF_len {α:Type}{t:Nat→Option α}:∀(k d:Nat),(usF t k d).length≤k
 |0,d=>zq1 _
 |k+1,d=>by
  rw[usF];have:=usF_len (t:=t) k (d+1);cases t d with
  |none=>simp only;omega
  |some v=>simp only[zq58];omega
def shp (os:List Nat):Tw:=os.map fun o=>⟨o,[],[]⟩
theorem shp_El:∀(os es:List Nat),El (shp os) es↔Lts es os
 |[],[]=>Iff.rfl
 |[],_::_=>Iff.rfl
 |_::_,[]=>Iff.rfl
 |o::os,a::es=>by
  show(a<o∧El (shp os) es)↔(a<o∧Lts es os);rw[shp_El os es]
theorem shp_length (os:List Nat):(shp os).length=os.length:=by simp[shp]
theorem shp_at {os:List Nat}(h:∀o∈os,1≤o)(k:Nat):El (shp os) (at_ (shp os) k):=by
 induction os with
 |nil=>trivial
 |cons o os ih=>exact⟨Nat.mod_lt _ (h o zq24),ih (fun x hx=>h x (zq23 _ hx))⟩
theorem shp_num {os es:List Nat}(h:Lts es os):num (shp os) es<sz (shp os)∧at_ (shp os) (num (shp os) es)=es:=by
 induction os generalizing es with
 |nil=>cases es with
  |nil=>exact⟨by simp[num,shp,sz],rfl⟩
  |cons _ _=>exact h.elim
 |cons o os ih=>cases es with
  |nil=>exact h.elim
  |cons a es=>
   obtain⟨h1,h2⟩:=ih h.2;have ha:=h.1;have e:num (shp (o::os)) (a::es)=a*sz (shp os)+num (shp os) es:=rfl;have hp:0<sz (shp os):=by omega
   refine⟨?_,?_⟩
   ·rw[e];show _<o*sz (shp os);have:(a+1)*sz (shp os)≤o*sz (shp os):=zq84 _ ha;rw[Nat.add_mul,Nat.one_mul]at this;omega
   ·rw[e];show((a*sz (shp os)+num (shp os) es)/sz (shp os)%o)::at_ (shp os) (a*sz (shp os)+num (shp os) es)=a::es;rw[zq89,Nat.add_mul_div_right _ _ hp,Nat.div_eq_of_lt h1,zq39,zq43 ha];congr 1;have hm:∀(T:Tw) (k b:Nat),at_ T (k+b*sz T)=at_ T k:=by
     intro T
     induction T with
     |nil=>intro _ _;rfl
     |cons L T ih=>
      intro k b;show((k+b*(L.o*sz T))/sz T%L.o)::at_ T (k+b*(L.o*sz T))=(k/sz T%L.o)::at_ T k;rw[←Nat.mul_assoc,ih k (b*L.o)];congr 1;rcases Nat.eq_zero_or_pos (sz T)with h0|h0
      ·rw[h0];simp
      ·rw[Nat.add_mul_div_right _ _ h0,Nat.add_mul_mod_self_right]
    rw[hm,h2]
theorem osF_sz {T:Tw}(hT:Wf T)(t:Nat→Option (List Nat)):∀(k d:Nat),d+k=T.length→sz (shp (osF t (oF T) k d))≤sz (T.drop d)∧∀o∈osF t (oF T) k d,2≤o∧∃L∈T,o=L.o
 |0,d,h=>⟨by simp[osF,shp,sz];exact sz_pos (Wf_drop hT d),by simp[osF]⟩
 |k+1,d,h=>by
  obtain⟨L,hL⟩:∃L,T[d]?=some L:=⟨_,zq0 (by omega)⟩;obtain⟨h1,h2⟩:=osF_sz hT t k (d+1) (by omega);have ho:=(lvl' hT hL).2.2.2.2;have hs:=sz_step hL;rw[osF];cases t d with
  |none=>
   refine⟨zq11 h1 ?_,h2⟩;rw[hs];have:1*sz (T.drop (d+1))≤L.o*sz (T.drop (d+1)):=zq84 _ (by omega);omega
  |some v=>
   refine⟨?_,?_⟩
   ·rw[hs];show oF T d*sz (shp (osF t (oF T) k (d+1)))≤_;rw[oF_at hL];exact zq125 _ h1
   ·intro o ho';rcases zq70.1 ho' with rfl|ho'
    ·rw[oF_at hL];exact⟨ho,L,zq5 hL,rfl⟩
    ·exact h2 o ho'
theorem lead {T:Tw}{tl dn im:List (List Nat)}{j:Nat}(hT:Wf T)(hg:Tow.Good T)(h:FD T tl dn 0)(hc:CLO T im tl){r:List Nat}(hr:tabF dn j=some r)(hj:j<T.length):A (El T) fF j r∧fF j r=1:=by
 have F:=fil hT hg;have h1:=(h j).1 (zq4 _);cases ht:tabF tl j with
 |none=>rw[h1.1 ht]at hr;simp at hr
 |some y=>
  obtain⟨s,hs,e,_⟩:=h1.2 y ht;rw[e]at hr;injection hr with hr;obtain⟨_,hyA,hy1⟩:=hc.tb j y ht;have hsA:=A_succ.1 hs.1;rw[←hr];refine⟨F.A_mul (zq44 hj) hyA hsA.1,?_⟩;rw[F.fm hj hyA.1 hsA.1.1 hyA.2 hsA.1.2,hy1,hsA.2];exact zq43 (F.o2 j hj)
theorem lead_row {T:Tw}{j:Nat}{r:List Nat}(h:A (El T) fF j r)(h1:fF j r=1):(∀i,i<j→r[i]?=some 0)∧r[j]?=some 1:=by
 have hj:r[j]?=some 1:=by
  unfold fF at h1;rw[zq9]at h1;cases hr:r[j]? with
  |none=>rw[hr]at h1;simp at h1
  |some a=>rw[hr]at h1;simp at h1;rw[h1]
 refine⟨fun i hi=>?_,hj⟩;have hl:=(zq2.1 hj).1;have h2:=h.2 i hi;unfold fF at h2;rw[zq9,zq0 (by omega)]at h2;rw[zq0 (by omega)];simpa using h2
theorem gen_iff {T:Tw}{tl dn im:List (List Nat)}(hT:Wf T)(hg:Tow.Good T)(h:FD T tl dn 0)(hc:CLO T im tl)(x:List Nat):
  Gen (mul T) (Tow.one T) im x↔∃k,k<sz (shp (osF (tabF dn) (oF T) T.length 0))∧ev (mul T) (Tow.one T) (usF (tabF dn) T.length 0) (at_ (shp (osF (tabF dn) (oF T) T.length 0)) k)=x:=by
 have F:=fil hT hg;have h2:Chd (El T) (mul T) (Tow.one T) T.length fF (vinv T) (tabF tl) (tabF dn):=fun d=>⟨((h d).1 (zq4 _)).1,fun y hy=>(((h d).1 (zq4 _)).2 y hy).imp fun s q=>⟨q.1,q.2.1⟩⟩;rw[hc.gen x,F.full hc.tb hc.sub hc.mem h2 T.length 0 (by omega) x];have hpos:∀o∈osF (tabF dn) (oF T) T.length 0,1≤o:=fun o ho=>by have:=((osF_sz hT (tabF dn) T.length 0 (by omega)).2 o ho).1;omega
 constructor
 ·rintro⟨es,h3,h4⟩;obtain⟨h5,h6⟩:=shp_num h3;exact⟨_,h5,by rw[h6];exact h4⟩
 ·rintro⟨k,hk,e⟩;exact⟨_,(shp_El _ _).1 (shp_at hpos k),e⟩
end Go.Proofs.YtlmlamcoeegkbaaGreat.GenE
namespace Go.Proofs.YtlmlamcoeegkbaaGreat.SpecQ
open Go.RowKit Go.Proofs.YtlmlamcoeegkbaaGreat Tow NumT GenC GenE SpecA SpecB SpecD SpecE SpecI SpecJ SpecL
def LdOk (T:Tw)(us:List (List Nat))(os:List Nat):Prop:=
 us.length=os.length∧us.length≤6∧∀(i:Nat) (u:List Nat),us[i]?=some u→∃(j:Nat) (L:Lv),T[j]?=some L∧os[i]?=some L.o∧(∀i,i<j→u[i]?=some 0)∧u[j]?=some 1∧u.length≤1000
theorem shp_take {os:List Nat}{k o:Nat}(h:os[k]?=some o):sz (shp (os.take (k+1)))=sz (shp (os.take k))*o:=by
 induction os generalizing k with
 |nil=>simp at h
 |cons a os ih=>cases k with
  |zero=>simp at h;subst h;simp[shp,sz]
  |succ k=>
   have:=ih (k:=k) (by simpa using h);show a*sz (shp (os.take (k+1)))=a*sz (shp (os.take k))*o;rw[this,Nat.mul_assoc]
theorem shp_bound {os:List Nat}(h:∀o∈os,o≤7)(hl:os.length≤6):sz (shp os)≤117649:=by
 have:∀os:List Nat,(∀o∈os,o≤7)→sz (shp os)≤7^os.length:=by
  intro os
  induction os with
  |nil=>intro _;simp[shp,sz]
  |cons a os ih=>
   intro h;show a*sz (shp os)≤7^(os.length+1);rw[zq112,zq97];exact Nat.mul_le_mul (ih (fun o ho=>h o (zq23 _ ho))) (h a zq24)
 exact zq11 (this os h) (zq11 (zq110 (by omega) hl) (by decide))
theorem order_any (T:Tw)(hs:Small T)(w:World)(vO vP vC vu:Value)(us:List (List Nat))(os:List Nat)(hP:ValP Any w vO vP vC (ofTw T))(hu:Sl2 Any w vu (us.map ints))(hL:LdOk T us os):
  Calls Tryz.prog 204 #[.agg #[vO,vP,vC],vu] w (SpecN.IntR (sz (shp os)) w):=by
 obtain⟨aO,cO,aP,cP,aC,cC,rfl,rfl,rfl,hO1,hP1,hC1⟩:=hP.open;have HP:=hid hP;have HU:=hid hu;have HL:=hid hL;have HLO:=hid hL.1;have hl6:=hL.2.1;have HO7:=hid (show∀o∈os,o≤7 from fun o ho=>by
  obtain⟨i,hi⟩:=zq45 ho;obtain⟨u,hu⟩:∃u,us[i]?=some u:=⟨_,zq0 (by rw[hL.1];exact(zq2.1 hi).1)⟩;obtain⟨j,L,h1,h2,_⟩:=hL.2.2 i u hu;rw[hi]at h2;injection h2 with h2;rw[h2];exact hs.2 L (zq5 h1))
 obtain⟨aU,cU,rfl⟩:=Sl2.form hu;clear hP hu hL hs;go_enter Tryz.func204,Tryz.ntmps204;go_wp2_with fail;go_loopw [5,6] (fun ov iv wr=>∃k p:Nat,k≤us.length∧iv= .int .i64 (k:Int)∧ov= .int .i64 (p:Int)∧Hid (p=sz (shp (os.take k)))∧Below (w.heap.size+1) (w.alloc (.cells #[.slice aO T.length cO,.slice aP T.length cP,.slice aC T.length cC] 28)) wr) (fun _ iv _=>us.length-(intOf iv).toNat);case atStart=>exact⟨0,1,zq4 _,rfl,rfl,hid (by simp[shp,sz]),zq3 _ _⟩
 case round=>
  obtain⟨k,p,hk,rfl,rfl,hpk,hB⟩:=hrel;have HB5:=hid hB;have hk5:=keep_boxed hB Any;obtain⟨e0,e1,e2⟩:=box_cells hB;have hsw:w.heap.size+1≤wr.heap.size:=by have:=hB.size;simp at this;omega
  clear hB;by_cases hlt:k<us.length
  ·obtain⟨u,hu⟩:∃u,us[k]?=some u:=⟨_,zq0 hlt⟩;obtain⟨j,L,hLj,hos,hz,h1,hul⟩:=HL.out.2.2 k u hu;obtain⟨bU,oU,cU',vr,he,hbU,hcU,hrU⟩:=Sl2.at_row HU.out hu;obtain⟨rfl,rfl⟩:aU=some ⟨bU,oU,none⟩∧cU=cU':=by simp only[zq40]at he;exact⟨he.1,he.2.2⟩
   obtain⟨bO,oO,rfl,_,hbO,hcO⟩:=HP.out.ord hLj;have hcU5:=(hk5.cell (b:=bU) (o:=oU+k) trivial hbU).trans hcU;have hcO5:=(hk5.cell (b:=bO) (o:=oO+j) trivial hbO).trans hcO;have hjT:=(zq2.1 hLj).1;have hji:(j:Int)<(T.length:Int):=by omega
   have hj0:(0:Int)≤(j:Int):=by omega
   have hki:(k:Int)<(us.length:Int):=by omega
   have hk0:(0:Int)≤(k:Int):=by omega
   have HDE:=hid (fun W n (hW:W=wr.drewN n)=>(depth_any W vr u (by rw[hW];exact SlI.keep hrU (hk5.drewN n)) j 1 hz h1 (by omega) (by omega)).mono (fun e w' (h:e= .returned (.int .i64 (j:Int))∧W=w')=>And.intro h.1 h.2.symm));have hst:=shp_take hos;have hbd:p*L.o≤117649:=by
    rw[hpk.out,←hst];exact shp_bound (fun o ho=>HO7.out o (zq137 ho)) (by have:=HLO.out;simp;omega)
   have hmw:IntKind.i64.wrap ((p:Int)*(L.o:Int))=((p*L.o:Nat):Int):=by rw[←Int.natCast_mul];exact zq6 _ (by omega)
   obtain⟨pn,hpn⟩:∃pn,pn=p*L.o:=⟨_,rfl⟩;rw[←hpn]at hmw;have HPN:=hid (show pn=sz (shp (os.take (k+1))) by rw[hpn,hst,hpk.out]);clear he hrU hcU hcO hLj hz h1 hul hst hbd hpn hk5 hos;go_wp2_with fail;go_quiet ((go_at_call 224;exact Calls.quiet_of_same (HDE.out _ _ rfl)));go_wp2_with fail;go_roundw;case rel=>exact⟨k+1,pn,by omega,by go_num,rfl,HPN,zq61 HB5.out _⟩
   case measure=>simp[intOf]<;>omega
  ·obtain rfl:k=us.length:=by omega
   have HE:=hid (show p=sz (shp os) by rw[hpk.out,HLO.out,zq88]);have HBU:=hid (below_unboxed HB5.out);clear hk5;go_wp2_with fail;go_ret;exact⟨zq38 (fun q:Nat=>Ending.returned (.int .i64 (q:Int))) HE.out,HBU.out⟩
theorem orders_any (T:Tw)(hs:Small T)(w:World)(vO vP vC vu:Value)(us:List (List Nat))(os:List Nat)(hP:ValP Any w vO vP vC (ofTw T))(hu:Sl2 Any w vu (us.map ints))(hL:LdOk T us os):
  Calls Tryz.prog 205 #[.agg #[vO,vP,vC],vu] w (NewI (ints os) w):=by
 obtain⟨i0,hi,hz0,hz1,hz2⟩:=zq41 infoI;obtain⟨aO,cO,aP,cP,aC,cC,rfl,rfl,rfl,hO1,hP1,hC1⟩:=hP.open;have HP:=hid hP;have HU:=hid hu;have HL:=hid hL;have HLO:=hid hL.1;have hl6:=hL.2.1;obtain⟨aU,cU,rfl⟩:=Sl2.form hu;obtain⟨W0,hW0⟩:∃W0,W0=w.alloc (.cells #[.slice aO T.length cO,.slice aP T.length cP,.slice aC T.length cC] 28):=⟨_,rfl⟩;have hW0s:W0.heap.size=w.heap.size+1:=by rw[hW0];simp
 have h00:=zq47 (base:=w.heap.size+1) (e:=2) (size:=1) W0 #[] 0 (by omega) (zq4 _) rfl;have HB0:=hid (show Below (w.heap.size+1) (w.alloc (.cells #[.slice aO T.length cO,.slice aP T.length cP,.slice aC T.length cC] 28)) (W0.alloc (.cells #[] 2)) by rw[←hW0];exact zqB.alloc (by omega) _);clear hP hu hL hs;go_enter Tryz.func205,Tryz.ntmps205;go_upto_region 1 with fail;rw[←hW0];have H00:=hid (show Own (w.heap.size+1) (W0.alloc (.cells #[] 2)) (.slice (some ⟨w.heap.size+1,0,none⟩) 0 0) (ints []) by rw[hW0s]at h00;exact h00);clear hW0 h00;go_wp2_with fail;go_loopw [5,6] (fun ov iv wr=>∃k:Nat,k≤us.length∧iv= .int .i64 (k:Int)∧Hid (Own (w.heap.size+1) wr ov (ints (os.take k)))∧Below (w.heap.size+1) (w.alloc (.cells #[.slice aO T.length cO,.slice aP T.length cP,.slice aC T.length cC] 28)) wr) (fun _ iv _=>us.length-(intOf iv).toNat);case atStart=>exact⟨0,zq4 _,rfl,H00,HB0.out⟩
 case round=>
  obtain⟨k,hk,rfl,hOw,hB⟩:=hrel;have HB5:=hid hB;have hk5:=keep_boxed hB Any;obtain⟨e0,e1,e2⟩:=box_cells hB;have hsw:w.heap.size+1≤wr.heap.size:=by have:=hB.size;simp at this;omega
  clear hB H00 HB0;by_cases hlt:k<us.length
  ·obtain⟨u,hu⟩:∃u,us[k]?=some u:=⟨_,zq0 hlt⟩;obtain⟨j,L,hLj,hos,hz,h1,hul⟩:=HL.out.2.2 k u hu;obtain⟨bU,oU,cU',vr,he,hbU,hcU,hrU⟩:=Sl2.at_row HU.out hu;obtain⟨rfl,rfl⟩:aU=some ⟨bU,oU,none⟩∧cU=cU':=by simp only[zq40]at he;exact⟨he.1,he.2.2⟩
   obtain⟨bO,oO,rfl,_,hbO,hcO⟩:=HP.out.ord hLj;have hcU5:=(hk5.cell (b:=bU) (o:=oU+k) trivial hbU).trans hcU;have hcO5:=(hk5.cell (b:=bO) (o:=oO+j) trivial hbO).trans hcO;have hjT:=(zq2.1 hLj).1;have hji:(j:Int)<(T.length:Int):=by omega
   have hj0:(0:Int)≤(j:Int):=by omega
   have hki:(k:Int)<(us.length:Int):=by omega
   have hk0:(0:Int)≤(k:Int):=by omega
   have HDE:=hid (fun W (hW:Keep Any wr W)=>depth_any W vr u (SlI.keep (SlI.keep hrU hk5) hW) j 1 hz h1 (by omega) (by omega));have HTK:=hid (show ints (os.take (k+1))=ints (os.take k)++[(L.o:Int)] by rw[zq69,hos];simp[ints]);have htl:(ints (os.take k)).length=k:=by rw[ints_length,zq75];have:=HLO.out;omega
   have HTL:=hid htl;have hOw':=hOw.out;unfold Own at hOw';rw[htl]at hOw';have HOW:=hid hOw';have hww:w.heap.size<wr.heap.size:=by omega
   clear he hrU hcU hcO hLj hz h1 hul hk5 hos hOw' htl;go_upto_region 5 with fail;rename World=>w8;go_region_law
    (first|(go_simp;go_at_call 224;refine(HDE.out _ (by repeat(first|exact zqK.drew|exact Keep.refl _ _|exact zqK.alloc _|exact(zqK.alloc _).drew|refine Keep.trans ?_ (Keep.of_below (by assumption))))).mono ?_;rintro e w5 ⟨rfl,rfl⟩)|(refine zq119 _ (by rfl) _ _ _ (by rfl) (w.heap.size+1) 2 i0 (.int .i64 0) 1 8 Tryz.underlying24 hi hz0 hz1 hz2 rfl (by omega) _ k _ (by rfl) ((ownsRow_keep HOW.out (S:=Any) (by repeat(first|exact zqK.drew|exact Keep.refl _ _|exact zqK.alloc _|exact(zqK.alloc _).drew|refine Keep.trans ?_ (Keep.of_below (by assumption)))) (fun _ _=>trivial)).alloc _) ⟨w8.heap.size,0,none⟩ 1 1 [.int .i64 (L.o:Int)] (by rfl) (by rfl) (zq50 (cs:= #[.int .i64 (L.o:Int)]) (t:=2) (fr:=(0,0)) (zq17 _ _)) (by simp[Value.oneCell']) (by omega) (by unfold maxLen;omega) (by omega) (by simp;omega) _ rfl ?_;intro gg cap w10 hown10 hgrow10 hat10 hlt10))
   all_goals
    have HN:=hid (show Own (w.heap.size+1) w10 (.slice (some ⟨gg,0,none⟩) (k+1) cap) (ints (os.take (k+1))) from by
     unfold Own;rw[HTK.out,zq31,HTL.out];simpa[vals]using hown10)
    have HBN:=hid (show Below (w.heap.size+1) (w.alloc (.cells #[.slice (some ⟨bO,oO,none⟩) T.length cO,.slice aP T.length cP,.slice aC T.length cC] 28)) w10 from by
     first
     |exact(HB5.out.alloc (by simp;omega) _).grown hgrow10 (by simp;omega) (fun g hg=>(zq8 HOW.out g hg).1)
     |exact(HB5.out.drew.alloc (by simp;omega) _).grown hgrow10 (by simp;omega) (fun g hg=>(zq8 HOW.out g hg).1))
    clear hown10 hgrow10 hat10 hlt10;go_wp2_with fail;go_roundw;case rel=>exact⟨k+1,by omega,by go_num,HN,HBN.out⟩
    case measure=>simp[intOf]<;>omega
  ·obtain rfl:k=us.length:=by omega
   have HBU:=hid (below_unboxed HB5.out);have HE:=hid (show os.take us.length=os by rw[HLO.out,zq88]);clear hk5;go_wp2_with fail;go_ret;have h:=hOw.out;rw[HE.out]at h;exact⟨_,rfl,h.mono (by omega),HBU.out⟩
end Go.Proofs.YtlmlamcoeegkbaaGreat.SpecQ
namespace Go.Proofs.YtlmlamcoeegkbaaGreat.SpecR
open Go.RowKit Go.Proofs.YtlmlamcoeegkbaaGreat Tow NumT GenC GenE SpecA SpecB SpecD SpecE SpecI SpecJ SpecL SpecQ
theorem infoBl:(Tryz.prog.info? 4).map (fun i=>(i.zero,i.size,i.bytes))=some (some (.bool false),1,1):=by kernel_rfl
def OwnB (B:Nat)(w:World)(v:Value)(l:List Bool):Prop:=w.ownsRow B 4 1 v l.length (l.map Value.bool)
theorem OwnB.keep {B:Nat}{S:Nat→Prop}{w w':World}{v:Value}{l:List Bool}(h:OwnB B w v l)(hk:Keep S w w')(hS:∀k,B≤k→S k):OwnB B w' v l:=ownsRow_keep h hk hS
theorem OwnB.made {B:Nat}(w:World)(n:Nat)(hB:B≤w.heap.size)(hn:n≤maxLen):OwnB B (w.alloc (.cells (madeCells #[.bool false] n) 4)) (.slice (some ⟨w.heap.size,0,none⟩) n n) (List.replicate n false):=by
 have:=zq98 (base:=B) (e:=4) (size:=1) w (madeCells #[.bool false] n) n hB hn (by simp[madeCells]);rw[zq108]at this;unfold OwnB;simpa using this
theorem OwnB.cell {B:Nat}{w:World}{g n c:Nat}{l:List Bool}(h:OwnB B w (.slice (some ⟨g,0,none⟩) n c) l){j:Nat}{b:Bool}(hb:l[j]?=some b):w.cell? ⟨g,j,none⟩=some (.bool b)∧w.frozen? ⟨g,j,none⟩=false:=by
 have hl:=(zq2.1 hb).1;unfold OwnB at h;have hn:n=l.length:=by
  rcases h.2 with⟨h',_⟩|⟨g',cap,cur,h',_⟩
  ·cases h'
  ·simp only[zq40]at h';exact h'.2.1
 subst hn;exact⟨by rw[zq59 h j (by omega)];simp[hb],zq130 h j⟩
theorem OwnB.set {B:Nat}{w:World}{g n c:Nat}{l:List Bool}(h:OwnB B w (.slice (some ⟨g,0,none⟩) n c) l)(j:Nat)(b:Bool):OwnB B (w.setCell ⟨g,j,none⟩ (.bool b)) (.slice (some ⟨g,0,none⟩) n c) (l.set j b):=by
 unfold OwnB at h ⊢;have hn:n=l.length:=by
  rcases h.2 with⟨h',_⟩|⟨g',cap,cur,h',_⟩
  ·cases h'
  ·simp only[zq40]at h';exact h'.2.1
 subst hn;have:=(zq109 h j (.bool b)).1;rw[show(l.map Value.bool).set j (.bool b)=(l.set j b).map Value.bool by simp]at this;simpa using this
theorem mkB66 (n:Nat)(hn:n≤729)(w:World):(Instr.makeSlice 74 (.int .i64 (n:Int)) (.int .i64 (n:Int))).run Tryz.prog w= .ok (.slice (some ⟨w.heap.size,0,none⟩) n n) (w.alloc (.cells (madeCells #[.bool false] n) 4)):=
 run_make_row' (P:=Tryz.prog) 74 4 (.bool false) 1 Tryz.underlying74 infoBl rfl .i64 .i64 n (by omega) (by omega) w
def mks (f:Nat→Nat):Nat→Nat→Bool
 |0,_=>false
 |k+1,t=>mks f k t||(f k==t)
theorem mks_iff (f:Nat→Nat)(k t:Nat):mks f k t=true↔∃j,j<k∧f j=t:=by
 induction k with
 |zero=>simp[mks]
 |succ k ih=>
  rw[mks,zq135,ih];constructor
  ·rintro(⟨j,h1,h2⟩|h)
   ·exact⟨j,by omega,h2⟩
   ·exact⟨k,by omega,by simpa using h⟩
  ·rintro⟨j,h1,h2⟩;rcases zq30.1 h1 with h|h
   ·exact .inl ⟨j,h,h2⟩
   ·subst h;exact .inr (by simpa using h2)
def mkl (f:Nat→Nat)(n k:Nat):List Bool:=(List.range n).map (mks f k)
theorem mkl_zero (f:Nat→Nat)(n:Nat):mkl f n 0=List.replicate n false:=by
 unfold mkl;apply zq133
 ·simp
 ·intro i h1 h2;simp[mks]
theorem mkl_succ (f:Nat→Nat)(n k:Nat):mkl f n (k+1)=(mkl f n k).set (f k) true:=by
 unfold mkl;apply zq133
 ·simp
 ·intro i h1 h2;simp only[zq107,List.getElem_range,List.getElem_set,mks];by_cases h:f k=i
  ·rw[zq57 h];simp[h]
  ·rw[zq37 h];have:(f k==i)=false:=by simpa using h
   rw[this,Bool.or_false]
theorem mkl_length (f:Nat→Nat)(n k:Nat):(mkl f n k).length=n:=by simp[mkl]
theorem mkl_get {f:Nat→Nat}{n k t:Nat}(h:t<n):(mkl f n k)[t]?=some (mks f k t):=by simp[mkl,h]
def nums (p:Nat→Bool)(n:Nat):List Nat:=(List.range n).filter p
theorem nums_succ (p:Nat→Bool)(n:Nat):nums p (n+1)=nums p n++(if p n then [n]else []):=by
 unfold nums;rw[zq124,List.filter_append];congr 1;by_cases h:p n=true
 ·simp[h]
 ·simp[h]
theorem nums_length (p:Nat→Bool)(n:Nat):(nums p n).length≤n:=by
 have:=List.length_filter_le p (List.range n);simpa[nums]using this
theorem shp_ords:∀os:List Nat,SpecN.ords (shp os)=os
 |[]=>rfl
 |o::os=>zq38 (o:: ·) (shp_ords os)
theorem ValP.strongS {S:Nat→Prop}{w:World}{vO vP vC:Value}{P:Pres}(h:ValP S w vO vP vC P):ValP (fun k=>k<w.heap.size) w vO vP vC P:=
 ⟨SpecO.SlI.strongS h.os,SpecO.Sl2.strongS h.ps,SpecO.SlG.strongS h.cs (fun _ _ e=>SpecO.Sl2.strongS e)⟩
theorem kI_mk {gI:Nat}{wr w':World}(h:Keep (fun k=>k≠gI) wr w'):(∀b o,b<wr.heap.size→¬b=gI→w'.cell? ⟨b,o,none⟩=wr.cell? ⟨b,o,none⟩)∧Keep (fun k=>k≠gI) wr w':=⟨fun b o hb hn=>h.cell hn hb,h⟩
def nk (T:Tw)(us:List (List Nat))(os:List Nat)(k:Nat):Nat:=num T (prodL (mul T) (Tow.one T) us (at_ (shp os) k))
def ElR (T:Tw)(us:List (List Nat))(os:List Nat)(w:World)(e:Ending)(w':World):Prop:=
 New2 24 2 ((nums (mks (nk T us os) (sz (shp os))) (sz T)).map (at_ T)) w e w'
theorem elements_any (T:Tw)(hT:Wf T)(hs:Small T)(hg:Tow.Good T)(hz:sz T≤729)(w:World)(vO vP vC vu:Value)(us:List (List Nat))(os:List Nat)(hP:ValP Any w vO vP vC (ofTw T))(hu:Sl2 Any w vu (us.map ints))(hL:LdOk T us os)(hus:∀u∈us,El T u)(hos:∀o∈os,1≤o)(hle:sz (shp os)≤729):
  Calls Tryz.prog 181 #[.agg #[vO,vP,vC],vu] w (ElR T us os w):=by
 obtain⟨i0,hi,hz0,hz1,hz2⟩:=zq41 infoR;have hO7:∀o∈os,o≤7:=fun o ho=>by
  obtain⟨i,hi⟩:=zq45 ho;obtain⟨u,hu⟩:∃u,us[i]?=some u:=⟨_,zq0 (by rw[hL.1];exact(zq2.1 hi).1)⟩;obtain⟨j,L,h1,h2,_⟩:=hL.2.2 i u hu;rw[hi]at h2;injection h2 with h2;rw[h2];exact hs.2 L (zq5 h1)
 have hos6:os.length≤6:=by rw[←hL.1];exact hL.2.1
 have hOs:SpecN.Os (shp os):=⟨by rw[shp_length];exact hos6,fun L h=>by
  simp only[shp,zq35]at h;obtain⟨o,ho,rfl⟩:=h;exact hos o ho,hle⟩
 have hOsT:=SpecN.Os.of hT hs hz;have hords:=shp_ords os;have HP:=hid hP;have HU:=hid hu;have HOT:=hid (SpecN.ofTw_ords T);have HE:=hid (fun k=>(prodL_inv (El T) (mul T) (fun _ _ p q=>El_mul hT p q) us hus (at_ (shp os) k) (Tow.one T) (El_one hT)));have HNL:=hid (fun k=>num_lt (prodL_inv (El T) (mul T) (fun _ _ p q=>El_mul hT p q) us hus (at_ (shp os) k) (Tow.one T) (El_one hT)) hT);have HORD:=hid (fun W h1 h2=>order_any T hs W vO vP vC vu us os h1 h2 hL);have HORS:=hid (fun W h1 h2=>orders_any T hs W vO vP vC vu us os h1 h2 hL);have HSZ:=hid (fun W hO=>SpecN.order_any T hOsT W vO vP vC hO);have HAT:=hid (fun W a b c q (hq:q≤1000000) hO=>SpecN.at_any (shp os) hOs (fun L h=>by
  simp only[shp,zq35]at h;obtain⟨o,ho,rfl⟩:=h;have:=hO7 o ho;show o≤1000;omega) q hq W a b c hO)
 have HAT2:=hid (fun W q (hq:q≤1000000) hO=>SpecN.at_any T hOsT (fun L h=>by have:=hs.2 L h;omega) q hq W vO vP vC hO);have HPR:=hid (fun W va k hP hu ha=>product_any T hT hs hg W vO vP vC vu va us (at_ (shp os) k) hP hu ha (by rw[at_length,shp_length,hL.1];exact zq1 _) (by have:=hL.2.1;omega) hus (fun a ha=>by
  obtain⟨i,hi⟩:=zq45 ha;obtain⟨L,hLL,hlt⟩:=El_lt (shp_at hos k) hi;have h2:=zq5 hLL;simp only[shp,zq35]at h2;obtain⟨o,ho,rfl⟩:=h2;have:=hO7 o ho;have:a<o:=hlt;omega))
 have HNM:=hid (fun W va x hO hx hE hlt=>SpecN.number_any T hOsT W vO vP vC va x hO hx hE hlt);have HOL:=hid hords;have hmk:=mkB66 (sz T) hz;have hzT:sz T≤729:=hz;have hzS:sz (shp os)≤729:=hle;obtain⟨W0,hW0⟩:∃W0,W0=w.alloc (.cells #[vO,vP,vC] 28):=⟨_,rfl⟩;have HB0:=hid (show Below (w.heap.size+1) (w.alloc (.cells #[vO,vP,vC] 28)) W0 by rw[hW0];exact zq3 _ _);clear hP hu hT hs hg hL hus hos hO7 hOs hOsT hords hz hle hos6;go_enter Tryz.func181,Tryz.ntmps181;go_upto_region 1 with fail;rw[←hW0];clear hW0;obtain⟨e0,e1,e2⟩:=box_cells HB0.out;have hk0:=keep_boxed HB0.out Any;have hsw0:w.heap.size+1≤W0.heap.size:=by have:=HB0.out.size;simp at this;omega
 go_wp2_with fail;refine(HORD.out _ (HP.out.keep hk0) (HU.out.keep hk0)).mono ?_;rintro e w1 ⟨rfl,hb1⟩;have HB1:=hid (HB0.out.trans (hb1.mono hsw0));clear e0 e1 e2 hk0 hb1 HORD;obtain⟨e0,e1,e2⟩:=box_cells HB1.out;have hk1:=keep_boxed HB1.out Any;have hsw1:w.heap.size+1≤w1.heap.size:=by have:=HB1.out.size;simp at this;omega
 go_wp2_with fail;refine(HSZ.out _ (by have h:=(HP.out.keep hk1).os;rwa[HOT.out]at h)).mono ?_;rintro e w2 ⟨rfl,hb2⟩;have HB2:=hid (HB1.out.trans (hb2.mono hsw1));clear e0 e1 e2 hk1 hb2 HSZ;go_upto_region 3 with fail;obtain⟨w3,hw3⟩:∃w3,w3=w2.alloc (.cells (madeCells #[.bool false] (sz T)) 4):=⟨_,rfl⟩;rw[←hw3];have hsw2:w.heap.size+1≤w2.heap.size:=by have:=HB2.out.size;simp at this;omega
 have HI3:=hid (show OwnB w2.heap.size w3 (.slice (some ⟨w2.heap.size,0,none⟩) (sz T) (sz T)) (mkl (nk T us os) (sz T) 0) by
  rw[mkl_zero,hw3];exact OwnB.made w2 (sz T) zqN (by unfold maxLen;omega))
 have HB3:=hid (show Below (w.heap.size+1) (w.alloc (.cells #[vO,vP,vC] 28)) w3 by rw[hw3];exact HB2.out.alloc hsw2 _);have hs3:w2.heap.size<w3.heap.size:=by rw[hw3];simp
 clear hw3;obtain⟨e0,e1,e2⟩:=box_cells HB3.out;have hk3:=keep_boxed HB3.out Any;go_wp2_with fail;refine(HORS.out _ (HP.out.keep hk3) (HU.out.keep hk3)).mono ?_;rintro e w4 ⟨v4,rfl,ho4,hb4⟩;have HB4:=hid (HB3.out.trans (hb4.mono (by omega)));have HI4:=hid (HI3.out.keep (S:=Any) (Keep.of_below hb4) (fun _ _=>trivial));have HO4:=hid (ho4.sl.mono (S':=fun k=>k≠w2.heap.size) (fun k hk=>by omega));have hs4:w2.heap.size<w4.heap.size:=zq7 hs3 hb4.size;obtain⟨aS,cS,rfl,_⟩:=HO4.out.open;clear e0 e1 e2 hk3 hb4 ho4 HORS HI3 HB3 HB2 HB1 HB0;go_upto_region 4 with fail;obtain⟨w5,hw5⟩:∃w5,w5=w4.alloc (.cells #[.slice aS os.length cS,.slice none 0 0,.slice none 0 0] 28):=⟨_,rfl⟩;rw[←hw5];obtain⟨gI,hgI⟩:∃gI,gI=w2.heap.size:=⟨_,rfl⟩;obtain⟨gV,hgV⟩:∃gV,gV=w4.heap.size:=⟨_,rfl⟩;rw[←hgI,←hgV];rw[←hgI]at HI4;have HB5:=hid (show Below (w.heap.size+1) (w.alloc (.cells #[vO,vP,vC] 28)) w5 by rw[hw5];exact HB4.out.alloc (by omega) _);have k45:Keep (fun _=>True) w4 w5:=by rw[hw5];exact zqK.alloc _
 have hk45:=keep_boxed HB5.out Any;have HI5:=hid (HI4.out.keep k45 (fun _ _=>trivial));have HP5:=hid ((ValP.strongS HP.out).keep (hk45.mono (fun _ _=>trivial)) |>.mono (S':=fun k=>k≠gI) (fun k (hk:k<w.heap.size)=>by omega));have HU5:=hid (Sl2.mono (S':=fun k=>k≠gI) (Sl2.keep (SpecO.Sl2.strongS HU.out) (hk45.mono (fun _ _=>trivial))) (fun k (hk:k<w.heap.size)=>by omega));have HS5:=hid (SlI.mono (S':=fun k=>k≠gI) (SlI.keep HO4.out (k45.mono (fun _ _=>trivial))) (fun k hk=>by rw[hgI];exact hk));have c0:w5.cell? ⟨gV,0,none⟩=some (.slice aS os.length cS):=by rw[hw5,hgV];exact(zq15 _ _ _ _ _ (0,0) (zq17 w4 _)).trans rfl
 have c1:w5.cell? ⟨gV,1,none⟩=some (.slice none 0 0):=by rw[hw5,hgV];exact(zq15 _ _ _ _ _ (0,0) (zq17 w4 _)).trans rfl
 have c2:w5.cell? ⟨gV,2,none⟩=some (.slice none 0 0):=by rw[hw5,hgV];exact(zq15 _ _ _ _ _ (0,0) (zq17 w4 _)).trans rfl
 have hV5:gV<w5.heap.size:=by rw[hw5,hgV];simp
 have hn2:¬gV=gI:=by omega
 have hn1:¬w.heap.size=gI:=by omega
 have hI5:gI<w5.heap.size:=by omega
 have hgIw:w.heap.size+1≤gI:=by omega
 have HC5:=hid (And.intro c0 (And.intro c1 c2));clear hw5 hgI hgV k45 hk45 c0 c1 c2 HO4 HI4 HB4 hs4 hs3 hsw2 hsw1 hsw0;go_wp2_with fail;go_loopw [8] (fun iv wr=>∃k:Nat,k≤sz (shp os)∧iv= .int .i64 (k:Int)∧Hid (OwnB gI wr (.slice (some ⟨gI,0,none⟩) (sz T) (sz T)) (mkl (nk T us os) (sz T) k))∧Hid (Keep (fun k=>k≠gI) w5 wr)∧Below (w.heap.size+1) (w.alloc (.cells #[vO,vP,vC] 28)) wr) (fun iv _=>sz (shp os)-(intOf iv).toNat);case atStart=>exact⟨0,zq4 _,rfl,HI5,hid zqK,HB5.out⟩
 case round=>
  obtain⟨k,hk,rfl,hIr,hKr,hB⟩:=hrel;have HB5:=hid hB;obtain⟨e0,e1,e2⟩:=box_cells hB;have hsr:=hKr.out.size;have hwr:w.heap.size<wr.heap.size:=by have:=hB.size;simp at this;omega
  have hVr:gV<wr.heap.size:=by omega
  have hIrr:gI<wr.heap.size:=by omega
  clear hB;by_cases hlt:k<sz (shp os)
  ·have hki:decide ((k:Int)<(sz (shp os):Int))=true:=by simp;omega
   have c0:=(hKr.out.cell (b:=gV) (o:=0) hn2 hV5).trans HC5.out.1;have c1:=(hKr.out.cell (b:=gV) (o:=1) hn2 hV5).trans HC5.out.2.1;have c2:=(hKr.out.cell (b:=gV) (o:=2) hn2 hV5).trans HC5.out.2.2;have HPr:=hid (HP5.out.keep hKr.out);have HUr:=hid (Sl2.keep HU5.out hKr.out);have HOSr:=hid (fun W (h:Keep (fun k=>k≠gI) wr W)=>show SlI Any W vO (ints (SpecN.ords T)) from by
    have h2:=((HPr.out.keep h).mono (S':=Any) (fun _ _=>trivial)).os;rwa[HOT.out]at h2)
   have HSr:=hid (SlI.keep HS5.out hKr.out);obtain⟨q,hq⟩:∃q,q=nk T us os k:=⟨_,rfl⟩;have hqz:q<sz T:=by rw[hq];exact HNL.out k
   have HNQ:=hid (fun W va (hO:SlI Any W vO (ints (SpecN.ords T))) (hx:SlI Any W va (ints (prodL (mul T) (Tow.one T) us (at_ (shp os) k))))=>(show Calls Tryz.prog 80 #[.agg #[vO,vP,vC],va] W (SpecN.IntR q W) from by
    rw[hq];exact HNM.out W va _ hO hx (HE.out k) (HNL.out k)))
   have hq1:(q:Int)<(sz T:Int):=by omega
   have hq0:(0:Int)≤(q:Int):=by omega
   have HIS:=hid (show mkl (nk T us os) (sz T) (k+1)=(mkl (nk T us os) (sz T) k).set q true by rw[hq];exact mkl_succ _ _ _);have hk6:k≤1000000:=by omega
   clear hq;go_upto_region 7 with fail;go_region_held3 (fun w'=>(∀b o,b<wr.heap.size→¬b=gI→w'.cell? ⟨b,o,none⟩=wr.cell? ⟨b,o,none⟩)∧Keep (fun k=>k≠gI) wr w')
    (first|exact kI_mk (by repeat(first|exact zqK.drew|exact Keep.refl _ _|refine Keep.setCell ?_ (by simp) _|refine Keep.trans ?_ (Keep.of_below (by assumption)))))
    (first|(go_at_call 46;refine(HAT.out _ (.slice aS os.length cS) (.slice none 0 0) (.slice none 0 0) k hk6 (by rw[HOL.out];exact SlI.mono (SlI.keep HSr.out (by repeat(first|exact zqK.drew|exact Keep.refl _ _|exact zqK.alloc _|exact(zqK.alloc _).drew|refine Keep.trans ?_ (Keep.of_below (by assumption))))) (fun _ _=>trivial))).mono ?_;rintro e w6 ⟨g6,c6,rfl,ho6,hb6⟩)|(go_at_call 95;refine(HPR.out _ _ k ((HPr.out.keep (by repeat(first|exact zqK.drew|exact Keep.refl _ _|exact zqK.alloc _|exact(zqK.alloc _).drew|refine Keep.trans ?_ (Keep.of_below (by assumption))))).mono (fun _ _=>trivial)) (Sl2.mono (Sl2.keep HUr.out (by repeat(first|exact zqK.drew|exact Keep.refl _ _|exact zqK.alloc _|exact(zqK.alloc _).drew|refine Keep.trans ?_ (Keep.of_below (by assumption))))) (fun _ _=>trivial)) ((ho6.sl.mono (fun _ _=>trivial)).keep (by repeat(first|exact zqK.drew|exact Keep.refl _ _|exact zqK.alloc _|exact(zqK.alloc _).drew|refine Keep.trans ?_ (Keep.of_below (by assumption)))))).mono ?_;rintro e w7 ⟨v7,rfl,ho7,hb7⟩)|(go_at_call 80;refine(HNQ.out _ v7 (HOSr.out _ (by repeat(first|exact zqK.drew|exact Keep.refl _ _|exact zqK.alloc _|exact(zqK.alloc _).drew|refine Keep.trans ?_ (Keep.of_below (by assumption))))) ((ho7.sl.mono (fun _ _=>trivial)).keep (by repeat(first|exact zqK.drew|exact Keep.refl _ _|exact zqK.alloc _|exact(zqK.alloc _).drew|refine Keep.trans ?_ (Keep.of_below (by assumption)))))).mono ?_;rintro e w8 ⟨rfl,hb8⟩;have hI8:=hIr.out.keep (S:=Any) (show Keep Any wr w8 from(by repeat(first|exact zqK.drew|exact Keep.refl _ _|exact zqK.alloc _|exact(zqK.alloc _).drew|refine Keep.trans ?_ (Keep.of_below (by assumption))))) (fun _ _=>trivial);obtain⟨s8,f8⟩:=hI8.cell (mkl_get hqz);have hs8:wr.heap.size≤w8.heap.size:=(show Keep Any wr w8 from(by repeat(first|exact zqK.drew|exact Keep.refl _ _|exact zqK.alloc _|exact(zqK.alloc _).drew|refine Keep.trans ?_ (Keep.of_below (by assumption))))).size))
   have HNI:=hid (show OwnB gI (w8.setCell ⟨gI,q,none⟩ (.bool true)) (.slice (some ⟨gI,0,none⟩) (sz T) (sz T)) (mkl (nk T us os) (sz T) (k+1)) by rw[HIS.out];exact hI8.set q true);have HNK:=hid (show Keep (fun k=>k≠gI) w5 (w8.setCell ⟨gI,q,none⟩ (.bool true)) from(hKr.out.trans (show Keep (fun k=>k≠gI) wr w8 from(by repeat(first|exact zqK.drew|exact Keep.refl _ _|exact zqK.alloc _|exact(zqK.alloc _).drew|refine Keep.trans ?_ (Keep.of_below (by assumption)))))).setCell (by simp) _);have HNB:=hid (show Below (w.heap.size+1) (w.alloc (.cells #[vO,vP,vC] 28)) (w8.setCell ⟨gI,q,none⟩ (.bool true)) from(show Below (w.heap.size+1) _ w8 from(by repeat(first|exact HB5.out|exact HB5.out.drew|refine Below.step ?_ (by simp) (by assumption)))).setCell (p:=⟨gI,q,none⟩) hgIw _);clear ho6 ho7 hb6 hb7 hb8 hI8 s8 f8 hs8 e0 e1 e2 c0 c1 c2;go_wp2_with fail;go_roundw;case rel=>exact⟨k+1,by omega,by go_num,HNI,HNK,HNB.out⟩
   case measure=>simp[intOf]<;>omega
  ·obtain rfl:k=sz (shp os):=by omega
   have h00:=zq47 (base:=wr.heap.size) (e:=24) (size:=1) wr #[] 0 zqN (zq4 _) rfl;have HOSw:=hid (fun W (h:Below wr.heap.size wr W)=>show SlI Any W vO (ints (SpecN.ords T)) from by
    have h2:=((HP5.out.keep (hKr.out.trans (Keep.of_below h))).mono (S':=Any) (fun _ _=>trivial)).os;rwa[HOT.out]at h2)
   have HIR:=hid hIr.out;have hsw:w.heap.size+1≤wr.heap.size:=by omega
   clear e0 e1 e2 hlt;go_wp2_with fail;rename World=>wo;go_loopw [9,10] (fun ov iv wr=>∃t:Nat,t≤sz T∧iv= .int .i64 (t:Int)∧Hid (Own2 24 2 wo.heap.size wr ov ((nums (mks (nk T us os) (sz (shp os))) t).map (at_ T)))∧Below wo.heap.size wo wr) (fun _ iv _=>sz T-(intOf iv).toNat);case atStart=>exact⟨0,zq4 _,rfl,hid ⟨[],h00,rfl,by simp[nums]⟩,zqB.alloc zqN _⟩
   case round=>
    obtain⟨t,ht,rfl,ho2,hb⟩:=hrel;have HB:=hid hb;have HBX:=hid (HB5.out.trans (hb.mono hsw));obtain⟨e0,e1,e2⟩:=box_cells HBX.out;have hww:w.heap.size<wr.heap.size:=by have:=hb.size;omega
    clear hb h00;by_cases hlt:t<sz T
    ·have hIq:=HIR.out.keep (S:=Any) (Keep.of_below HB.out) (fun _ _=>trivial);obtain⟨s8,f8⟩:=hIq.cell (mkl_get hlt);have ht1:(t:Int)<(sz T:Int):=by omega
     have ht0:(0:Int)≤(t:Int):=by omega
     have ht6:t≤1000000:=by omega
     have hns:=nums_succ (mks (nk T us os) (sz (shp os))) t;have hnl:=nums_length (mks (nk T us os) (sz (shp os))) t;obtain⟨nl,hnl2⟩:∃nl,((nums (mks (nk T us os) (sz (shp os))) t).map (at_ T)).length=nl:=⟨_,rfl⟩;have hnl7:nl≤729:=by rw[←hnl2,zq18];omega
     cases hbt:mks (nk T us os) (sz (shp os)) t with
     |false=>
      rw[hbt]at s8 hns;simp only[Bool.false_eq_true,if_false,zq95]at hns;have HNS:=hid hns;clear hIq hbt hns hnl hnl2;go_wp2_with fail;go_roundw;case rel=>exact⟨t+1,by omega,by go_num,hid (by rw[HNS.out];exact ho2.out),HB.out⟩
      case measure=>simp[intOf]<;>omega
     |true=>
      rw[hbt]at s8 hns;simp only[if_true]at hns;have HNS:=hid (show(nums (mks (nk T us os) (sz (shp os))) (t+1)).map (at_ T)=(nums (mks (nk T us os) (sz (shp os))) t).map (at_ T)++[at_ T t] by rw[hns,zq103];rfl);have HNL2:=hid hnl2;clear hIq hbt hns hnl hnl2;go_wp2_with fail;refine(HAT2.out _ t ht6 (HOSw.out _ HB.out)).mono ?_;rintro e w1 ⟨g,c,rfl,ho,hb1⟩;have HB1:=hid (HB.out.trans (hb1.mono HB.out.size));have HRR:=hid (NewS.row (ho.mono (B':=wo.heap.size) HB.out.size));obtain⟨us2,h1,h2,h4⟩:=ho2.out.of_below hb1;have HUU:=hid (And.intro h2 h4);rw[HNL2.out]at h1;clear ho hb1 h2 h4 ho2;go_wp2_with (at_builtin;(refine zq55 _ rfl _ _ 25 rfl wo.heap.size 24 i0 (.slice none 0 0) 1 24 Tryz.underlying25 hi hz0 hz1 hz2 rfl (by decide) _ _ _ rfl (h1.alloc _) ⟨w1.heap.size,0,none⟩ 1 1 [.slice (some ⟨g,0,none⟩) (ints (at_ T t)).length c] rfl rfl ?c1 ?c2 ?c3 ?c4 ?c5 ?_));case c1=>
       intro j u hj
       match j,hj with
       |0,hj=>simp at hj;subst hj;simp[Addr.add]
      case c2=>intro u hu;simp at hu;subst hu;rfl
      case c3=>unfold maxLen;omega
      case c4=>omega
      case c5=>have:=HB1.out.size;simp;omega
      ·intro v' w2 hown hgrow _;have HN:=hid (show Own2 24 2 wo.heap.size w2 v' ((nums (mks (nk T us os) (sz (shp os))) (t+1)).map (at_ T)) from by
        rw[HNS.out];exact Own2.push (w:=w1.alloc _) (us:=us2) (by decide) HNL2.out (h1.alloc _) HUU.out.1 (fun i r u hr hu=>(HUU.out.2 i r u hr hu).keep (S:=fun _=>True) (zqK.alloc _) (fun _ _=>trivial)) (HRR.out.keep (S:=fun _=>True) (zqK.alloc _) (fun _ _=>trivial)) hown hgrow)
       have HB2:=hid (show Below wo.heap.size wo w2 from(HB1.out.alloc (by have:=HB1.out.size;omega) _).grown hgrow (by simp;have:=HB1.out.size;omega) (fun g hg=>(zq8 h1 g hg).1));clear hown hgrow h1 HUU HRR;go_wp2_with fail;go_roundw;case rel=>exact⟨t+1,by omega,by go_num,HN,HB2.out⟩
       case measure=>simp[intOf]<;>omega
    ·obtain rfl:t=sz T:=by omega
     have HR:=hid (show ElR T us os w (.returned _) wr from⟨_,rfl,ho2.out.mono (by omega),(below_unboxed HB5.out).trans (HB.out.mono (by omega))⟩);go_wp2_with fail;go_ret;exact HR.out
end Go.Proofs.YtlmlamcoeegkbaaGreat.SpecR
namespace Go.Proofs.YtlmlamcoeegkbaaGreat.SpecPZ
open Go.RowKit Go.Proofs.YtlmlamcoeegkbaaGreat Tow Gen GenC GenL Tab SpecB SpecO SpecP
theorem bz1 {w wr:World}{a0 a1 a2:Value}{t:TypeId}(hb:Below (w.heap.size+1) (w.alloc (.cells #[a0,a1,a2] t)) wr):
  (wr.cell? ⟨w.heap.size,0,none⟩=some a0∧wr.cell? ⟨w.heap.size,1,none⟩=some a1∧wr.cell? ⟨w.heap.size,2,none⟩=some a2)∧
  Keep Any w wr∧Below w.heap.size w wr∧w.heap.size+1≤wr.heap.size:=⟨box_cells hb,keep_boxed hb _,below_unboxed hb,by have:=hb.size;simpa using this⟩
def NilR (w:World)(e:Ending)(w':World):Prop:=∃v,e= .returned v∧Sl2 Any w' v []∧Below w.heap.size w w'
theorem mk0 (w:World):(Instr.makeSlice 25 (.int .i64 0) (.int .i64 0)).run Tryz.prog w= .ok (.slice (some ⟨w.heap.size,0,none⟩) 0 0) (w.alloc (.cells (madeCells #[.slice none 0 0] 0) 24)):=mk23 0 (by omega) w
theorem sl2_nil (w:World)(b o c:Nat)(hc:c≤maxLen):Sl2 Any w (.slice (some ⟨b,o,none⟩) 0 c) []:=⟨_,c,rfl,zq4 _,hc,fun h=>(by cases h),fun i x hx=>(by simp at hx)⟩
theorem full0_any (w:World)(vO vP vC:Value)(aT:Option Addr)(cT:Nat):Calls Tryz.prog 209 #[.agg #[vO,vP,vC],.slice aT 0 cT] w (NilR w):=by
 have hmk:=mk0;obtain⟨W0,hW0⟩:∃W0,W0=w.alloc (.cells #[vO,vP,vC] 28):=⟨_,rfl⟩;have HB0:=hid (show Below (w.heap.size+1) (w.alloc (.cells #[vO,vP,vC] 28)) W0 by rw[hW0];exact zq3 _ _);have HB1:=hid (show Below (w.heap.size+1) (w.alloc (.cells #[vO,vP,vC] 28)) (W0.alloc (.cells (madeCells #[.slice none 0 0] 0) 24)) from HB0.out.alloc (bz1 HB0.out).2.2.2 _);go_enter Tryz.func209,Tryz.ntmps209;go_upto_region 1 with fail;rw[←hW0];clear hW0;obtain⟨g,hg⟩:∃g,W0.heap.size=g:=⟨_,rfl⟩;go_wp2_with fail;go_loopw [6] (fun dv wr=>dv= .int .i64 (-1)∧Hid (Below (w.heap.size+1) (w.alloc (.cells #[vO,vP,vC] 28)) wr)) (fun _ _=>0);case atStart=>exact⟨by first|rfl|simp,HB1⟩
 case round=>
  obtain⟨rfl,hB⟩:=hrel;have hd:decide ((-1:Int)≥0)=false:=by decide
  clear HB1 HB0;have hsB:=(bz1 hB.out).2.2.2;go_wp2_with fail;rename World=>wo;have HB2:=hid (hB.out.alloc hsB (.cells #[] 24));go_loopw [9,10] (fun ov iv wr=>(∃b,ov= .slice (some ⟨b,0,none⟩) 0 0)∧iv= .int .i64 0∧Hid (Below (w.heap.size+1) (w.alloc (.cells #[vO,vP,vC] 28)) wr)) (fun _ _ _=>0);case atStart=>exact⟨⟨_,rfl⟩,rfl,HB2⟩
  case round=>
   obtain⟨⟨b,rfl⟩,rfl,hB'⟩:=hrel;have hd0:decide ((0:Int)<0)=false:=by decide
   have HR:=hid (show NilR w (.returned (.slice (some ⟨b,0,none⟩) 0 0)) wr from⟨_,rfl,sl2_nil _ _ _ _ (zq4 _),(bz1 hB'.out).2.2.1⟩);clear hB' hB HB2;go_wp2_with fail;go_ret;exact HR.out
theorem close0_any (w:World)(vP vC vi:Value)(aO:Option Addr)(cO:Nat)(hi:Sl2 Any w vi []):Calls Tryz.prog 182 #[.agg #[.slice aO 0 cO,vP,vC],vi] w (NilR w):=by
 have hmk:=mk0;have HF:=hid (fun W a c=>full0_any W (.slice aO 0 cO) vP vC a c);have HI:=hid hi;have HOW:=hid (fun W (h:Sl2 Any W vi [])=>SpecL.own2_any W vi [] h (by simp) (by simp));obtain⟨aI,cI,hvi,_,hmI,_,_⟩:=hi;simp only[List.length_nil]at hvi;subst hvi;obtain⟨W0,hW0⟩:∃W0,W0=w.alloc (.cells #[.slice aO 0 cO,vP,vC] 28):=⟨_,rfl⟩;have HB0:=hid (show Below (w.heap.size+1) (w.alloc (.cells #[.slice aO 0 cO,vP,vC] 28)) W0 by rw[hW0];exact zq3 _ _);have HB1:=hid (show Below (w.heap.size+1) (w.alloc (.cells #[.slice aO 0 cO,vP,vC] 28)) (W0.alloc (.cells (madeCells #[.slice none 0 0] 0) 24)) from HB0.out.alloc (bz1 HB0.out).2.2.2 _);have HOC:=hid (HOW.out _ (Sl2.keep HI.out (bz1 HB1.out).2.1));clear hmI HOW;go_enter Tryz.func182,Tryz.ntmps182;go_upto_region 1 with fail;rw[←hW0];clear hW0;obtain⟨⟨e0,e1,e2⟩,hk0,hbw0,hs0⟩:=bz1 HB0.out;go_wp2_with fail;refine HOC.out.mono ?_;rintro e w1 ⟨v1,rfl,ho1,hb1⟩;obtain⟨a1,c1,hv1,_,_⟩:=ho1.form;simp only[List.length_nil]at hv1;subst hv1;have HB2:=hid (HB1.out.trans (hb1.mono (bz1 HB1.out).2.2.2));clear ho1 hb1 HOC e0 e1 e2 hk0 hbw0 hs0 HB0 HB1;go_wp2_with fail;go_loopw [7] (fun qv wr=>(∃a c,qv= .slice a 0 c)∧Hid (Below (w.heap.size+1) (w.alloc (.cells #[.slice aO 0 cO,vP,vC] 28)) wr)) (fun _ _=>0);case atStart=>exact⟨⟨_,_,rfl⟩,HB2⟩
 case round=>
  obtain⟨⟨a,c,rfl⟩,hB⟩:=hrel;have hd0:decide ((0:Int)>0)=false:=by decide
  obtain⟨⟨e0,e1,e2⟩,-, -, hsB⟩:=bz1 hB.out;have hw0:w.heap.size<wr.heap.size:=by omega
  clear HB2;go_wp2_with fail;refine(HF.out _ _ _).mono ?_;rintro e w3 ⟨v3,rfl,h3,hb3⟩;have HR:=hid (show NilR w (.returned v3) w3 from⟨v3,rfl,h3,(bz1 (hB.out.trans (hb3.mono hsB))).2.2.1⟩);clear h3 hb3;go_wp2_with fail;go_ret;exact HR.out
theorem closeZ_any (w:World)(vO vP vC vi:Value)(hP:ValP Any w vO vP vC (ofTw []))(hi:Sl2 Any w vi []):Calls Tryz.prog 182 #[.agg #[vO,vP,vC],vi] w (CloseR [] [] w):=by
 obtain⟨aO,cO,aP,cP,aC,cC,rfl,rfl,rfl,_,_,_⟩:=hP.open;refine(close0_any w _ _ vi aO cO hi).mono ?_;rintro e w' ⟨v,rfl,h,hb⟩;have htab:tabF ([]:List (List Nat))=fun _=>none:=tabF_replicate 0;refine⟨v,[],[],rfl,?_,rfl,fun d=>⟨fun _=>⟨fun h=>h,fun y hy=>by rw[htab]at hy;cases hy⟩,fun h=>absurd h (zq33 _)⟩,h,hb⟩;have F:=fil (T:=[]) trivial trivial;have:=LInv.clo F (im:=[]) (fun c hc=>absurd hc (by simp)) (LInv.start F (fun c hc=>absurd hc (by simp)));rw[←htab]at this;exact this
end Go.Proofs.YtlmlamcoeegkbaaGreat.SpecPZ
namespace Go.Proofs.YtlmlamcoeegkbaaGreat.GenF
open Go.RowKit Go.Proofs.YtlmlamcoeegkbaaGreat Tow Gen GenC GenD GenE Tab NumT SpecO SpecQ SpecR
abbrev usq (Q:Tw)(dn:List (List Nat)):List (List Nat):=usF (tabF dn) Q.length 0
abbrev osq (Q:Tw)(dn:List (List Nat)):List Nat:=osF (tabF dn) (oF Q) Q.length 0
theorem ldok {Q:Tw}(hQ:Wf Q)(hs:Small Q)(hg:Tow.Good Q){tl dn im:List (List Nat)}(h:FD Q tl dn 0)(hc:CLO Q im tl):
  LdOk Q (usq Q dn) (osq Q dn)∧(∀u∈usq Q dn,El Q u)∧(∀o∈osq Q dn,1≤o)∧sz (shp (osq Q dn))≤sz Q:=by
 have hos:=osF_sz hQ (tabF dn) Q.length 0 (by omega);have hget:∀(i:Nat) (u:List Nat),(usq Q dn)[i]?=some u→∃(j:Nat) (L:Lv),Q[j]?=some L∧(osq Q dn)[i]?=some L.o∧A (El Q) fF j u∧fF j u=1:=fun i u hu=>by
  obtain⟨j,_,h2,h3,h4⟩:=usF_get (o:=oF Q) Q.length 0 i u hu;rw[zq39]at h2;obtain⟨L,hL⟩:∃L,Q[j]?=some L:=⟨_,zq0 h2⟩;obtain⟨hA,h1⟩:=lead hQ hg h hc h3 h2;exact⟨j,L,hL,by rw[←oF_at hL];exact h4,hA,h1⟩
 refine⟨⟨(osF_length _ _).symm,zq11 (usF_len _ _) hs.1,fun i u hu=>?_⟩,fun u hu=>?_,fun o ho=>by have:=(hos.2 o ho).1;omega,by simpa using hos.1⟩
 ·obtain⟨j,L,h1,h2,hA,h3⟩:=hget i u hu;obtain⟨h4,h5⟩:=lead_row hA h3;exact⟨j,L,h1,h2,h4,h5,by rw[El_length hA.1];have:=hs.1;omega⟩
 ·obtain⟨i,hi⟩:=zq45 hu;obtain⟨j,L,_,_,hA,_⟩:=hget i u hi;exact hA.1
theorem span_iff {Q:Tw}(hQ:Wf Q)(hs:Small Q)(hg:Tow.Good Q){tl dn im:List (List Nat)}(h:FD Q tl dn 0)(hc:CLO Q im tl){t:Nat}(ht:t<sz Q):
  mks (nk Q (usq Q dn) (osq Q dn)) (sz (shp (osq Q dn))) t=true↔Gen.Gen (mul Q) (Tow.one Q) im (at_ Q t):=by
 have G:=grp hQ hg;have hus:=(ldok hQ hs hg h hc).2.1;rw[mks_iff,gen_iff hQ hg h hc];constructor
 ·rintro⟨k,hk,e⟩;refine⟨k,hk,?_⟩;unfold nk at e;rw[G.prodL_e hus]at e;rw[←e,at_num hQ (G.ev hus _)]
 ·rintro⟨k,hk,e⟩;refine⟨k,hk,?_⟩;unfold nk;rw[G.prodL_e hus,e,num_at,zq43 ht]
theorem remark (p:Nat→Bool)(n t:Nat)(ht:t<n):mks (fun k=>(nums p n).getD k 0) (nums p n).length t=p t:=by
 cases h:p t with
 |true=>
  rw[mks_iff];have hm:t∈nums p n:=by unfold nums;rw[zq77];exact⟨zq62.2 ht,h⟩
  obtain⟨j,hj,e⟩:=zq87 hm;exact⟨j,hj,by rw[zq9,zq0 hj];exact e⟩
 |false=>
  cases h2:mks (fun k=>(nums p n).getD k 0) (nums p n).length t with
  |false=>rfl
  |true=>
   rw[mks_iff]at h2;obtain⟨j,hj,e⟩:=h2;rw[zq9,zq0 hj]at e;have hm:t∈nums p n:=by
    have:=zq76 hj;simp only[zq131]at e;rwa[e]at this
   unfold nums at hm;rw[zq77]at hm;rw[h]at hm;simp at hm
theorem nums_lt {p:Nat→Bool}{n k t:Nat}(h:(nums p n)[k]?=some t):t<n:=by
 have:=zq5 h;unfold nums at this;exact zq62.1 (zq77.1 this).1
theorem Sl2.tail {S:Nat→Prop}{w:World}{g n c:Nat}{rows:List (List Nat)}(h:Sl2 S w (.slice (some ⟨g,0,none⟩) n c) (rows.map ints))(s:Nat)(hs:s≤n):Sl2 S w (.slice (some ⟨g,s,none⟩) (n-s) (c-s)) ((rows.drop s).map ints):=by
 obtain⟨ao,c',e,h2,h3,h0,h4⟩:=h;simp only[zq40]at e;obtain⟨rfl,rfl,rfl⟩:=e;rw[zq18]at *;refine⟨some ⟨g,s,none⟩,c-s,by simp,by simp;omega,by omega,by simp,fun i x hx=>?_⟩;obtain⟨b,o,e1,e2,e3,u,e4,e5⟩:=h4 (s+i) x (by rw[zq20,zq63]at hx;rw[zq20];exact hx);simp only[zq42,zq96,and_true]at e1;obtain⟨rfl,rfl⟩:=e1;exact⟨g,s,rfl,e2,e3,u,by rw[zq39]at e4;exact e4,e5⟩
end Go.Proofs.YtlmlamcoeegkbaaGreat.GenF
