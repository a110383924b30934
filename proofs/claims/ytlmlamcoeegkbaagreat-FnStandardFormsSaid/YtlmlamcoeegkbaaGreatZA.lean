import Derived.Test.YtlmlamcoeegkbaaGreatZ0
import Derived.Test.YtlmlamcoeegkbaaGreatZs
import Derived.Deep.RegionLaw
import Derived.Test.YtlmlamcoeegkbaaGreatZu
/-
  Lemmas for the law FnStandardForms, in short spelling.
-/
open Go.Lib (hid)
set_option linter.unusedVariables false
set_option linter.unusedSimpArgs false
set_option maxRecDepth 100000
set_option maxHeartbeats 40000000
namespace Go.Proofs.YtlmlamcoeegkbaaGreat.Wl
open Go.Proofs.YtlmlamcoeegkbaaGreat AJ Gen Dq R5 CV Hf
theorem kQ {α:Type}{t:Nat→Option α}{o:Nat→Nat}:∀(k d i:Nat) (u:α),(Ed t k d)[i]?=some u→∃j,d≤j∧j<d+k∧t j=some u∧(Gq t o k d)[i]?=some (o j)
 |0,d,i,u,h=>by simp[Ed]at h
 |k+1,d,i,u,h=>by
  rw[Ed]at h;rw[Gq];cases ht:t d with
  |none=>
   rw[ht]at h;obtain⟨j,h1,h2,h3,h4⟩:=kQ (o:=o) k (d+1) i u h;exact⟨j,by omega,by omega,h3,h4⟩
  |some v=>
   rw[ht]at h;cases i with
   |zero=>
    simp at h;subst h;exact⟨d,Ap _,by omega,ht,rfl⟩
   |succ i=>
    obtain⟨j,h1,h2,h3,h4⟩:=kQ (o:=o) k (d+1) i u (by simpa using h);exact⟨j,by omega,by omega,h3,by simpa using h4⟩
theorem jV {α:Type}{t:Nat→Option α}{o:Nat→Nat}:∀(k d:Nat),(Gq t o k d).length=(Ed t k d).length
 |0,d=>rfl
 |k+1,d=>by
  rw[Gq,Ed];cases t d with
  |none=>exact jV k (d+1)
  |some v=>simp[jV k (d+1)]
theorem zg {α:Type}{t:Nat→Option α}:∀(k d:Nat),(Ed t k d).length≤k
 |0,d=>Ap _
 |k+1,d=>by
  rw[Ed];have:=zg (t:=t) k (d+1);cases t d with
  |none=>simp only;omega
  |some v=>simp only[Eb];omega
def BI (os:List Nat):Tw:=os.map fun o=>⟨o,[],[]⟩
theorem AAU:∀(os es:List Nat),El (BI os) es↔Xc es os
 |[],[]=>Iff.rfl
 |[],_::_=>Iff.rfl
 |_::_,[]=>Iff.rfl
 |o::os,a::es=>by
  show(a<o∧El (BI os) es)↔(a<o∧Xc es os);rw[AAU os es]
theorem xV (os:List Nat):(BI os).length=os.length:=by simp[BI]
theorem AAV {os:List Nat}(h:∀o∈os,1≤o)(k:Nat):El (BI os) (at_ (BI os) k):=by
 induction os with
 |nil=>trivial
 |cons o os ih=>exact⟨Nat.mod_lt _ (h o CE),ih (fun x hx=>h x (Ca _ hx))⟩
theorem AGE {os es:List Nat}(h:Xc es os):num (BI os) es<sz (BI os)∧at_ (BI os) (num (BI os) es)=es:=by
 induction os generalizing es with
 |nil=>cases es with
  |nil=>exact⟨by simp[num,BI,sz],rfl⟩
  |cons _ _=>exact h.elim
 |cons o os ih=>cases es with
  |nil=>exact h.elim
  |cons a es=>
   obtain⟨h1,h2⟩:=ih h.2;have ha:=h.1;have e:num (BI (o::os)) (a::es)=a*sz (BI os)+num (BI os) es:=rfl;have hp:0<sz (BI os):=by omega
   refine⟨?_,?_⟩
   ·rw[e];show _<o*sz (BI os);have:(a+1)*sz (BI os)≤o*sz (BI os):=Nn _ ha;rw[Nat.add_mul,Nat.one_mul]at this;omega
   ·rw[e];show((a*sz (BI os)+num (BI os) es)/sz (BI os)%o)::at_ (BI os) (a*sz (BI os)+num (BI os) es)=a::es;rw[GU,Nat.add_mul_div_right _ _ hp,Nat.div_eq_of_lt h1,D5,J3 ha];congr 1;have hm:∀(T:Tw) (k b:Nat),at_ T (k+b*sz T)=at_ T k:=by
     intro T
     induction T with
     |nil=>intro _ _;rfl
     |cons L T ih=>
      intro k b;show((k+b*(L.o*sz T))/sz T%L.o)::at_ T (k+b*(L.o*sz T))=(k/sz T%L.o)::at_ T k;rw[←Nat.mul_assoc,ih k (b*L.o)];congr 1;rcases Nat.eq_zero_or_pos (sz T)with h0|h0
      ·rw[h0];simp
      ·rw[Nat.add_mul_div_right _ _ h0,Nat.add_mul_mod_self_right]
    rw[hm,h2]
theorem lH {T:Tw}(hT:Wf T)(t:Nat→Option (List Nat)):∀(k d:Nat),d+k=T.length→sz (BI (Gq t (oF T) k d))≤sz (T.drop d)∧∀o∈Gq t (oF T) k d,2≤o∧∃L∈T,o=L.o
 |0,d,h=>⟨by simp[Gq,BI,sz];exact F8 (Ex hT d),by simp[Gq]⟩
 |k+1,d,h=>by
  obtain⟨L,hL⟩:∃L,T[d]?=some L:=⟨_,AP (by omega)⟩;obtain⟨h1,h2⟩:=lH hT t k (d+1) (by omega);have ho:=(lvl' hT hL).2.2.2.2;have hs:=Q7 hL;rw[Gq];cases t d with
  |none=>
   refine⟨Ab h1 ?_,h2⟩;rw[hs];have:1*sz (T.drop (d+1))≤L.o*sz (T.drop (d+1)):=Nn _ (by omega);omega
  |some v=>
   refine⟨?_,?_⟩
   ·rw[hs];show oF T d*sz (BI (Gq t (oF T) k (d+1)))≤_;rw[Ou hL];exact Z5 _ h1
   ·intro o ho';rcases GR.1 ho' with rfl|ho'
    ·rw[Ou hL];exact⟨ho,L,Ar hL,rfl⟩
    ·exact h2 o ho'
theorem lead {T:Tw}{tl dn im:List (List Nat)}{j:Nat}(hT:Wf T)(hg:AJ.Good T)(h:FD T tl dn 0)(hc:N8 T im tl){r:List Nat}(hr:BQ dn j=some r)(hj:j<T.length):A (El T) fF j r∧fF j r=1:=by
 have F:=R6 hT hg;have h1:=(h j).1 (AU _);cases ht:BQ tl j with
 |none=>rw[h1.1 ht]at hr;simp at hr
 |some y=>
  obtain⟨s,hs,e,_⟩:=h1.2 y ht;rw[e]at hr;injection hr with hr;obtain⟨_,EJ,hy1⟩:=hc.tb j y ht;have hsA:=GM.1 hs.1;rw[←hr];refine⟨F.AA1 (EG hj) EJ hsA.1,?_⟩;rw[F.fm hj EJ.1 hsA.1.1 EJ.2 hsA.1.2,hy1,hsA.2];exact J3 (F.o2 j hj)
theorem AFL {T:Tw}{j:Nat}{r:List Nat}(h:A (El T) fF j r)(h1:fF j r=1):(∀i,i<j→r[i]?=some 0)∧r[j]?=some 1:=by
 have hj:r[j]?=some 1:=by
  unfold fF at h1;rw[Bg]at h1;cases hr:r[j]? with
  |none=>rw[hr]at h1;simp at h1
  |some a=>rw[hr]at h1;simp at h1;rw[h1]
 refine⟨fun i hi=>?_,hj⟩;have hl:=(Ak.1 hj).1;have h2:=h.2 i hi;unfold fF at h2;rw[Bg,AP (by omega)]at h2;rw[AP (by omega)];simpa using h2
theorem AGF {T:Tw}{tl dn im:List (List Nat)}(hT:Wf T)(hg:AJ.Good T)(h:FD T tl dn 0)(hc:N8 T im tl)(x:List Nat):
  Gen (mul T) (AJ.one T) im x↔∃k,k<sz (BI (Gq (BQ dn) (oF T) T.length 0))∧ev (mul T) (AJ.one T) (Ed (BQ dn) T.length 0) (at_ (BI (Gq (BQ dn) (oF T) T.length 0)) k)=x:=by
 have F:=R6 hT hg;have h2:Chd (El T) (mul T) (AJ.one T) T.length fF (BS T) (BQ tl) (BQ dn):=fun d=>⟨((h d).1 (AU _)).1,fun y hy=>(((h d).1 (AU _)).2 y hy).imp fun s q=>⟨q.1,q.2.1⟩⟩;rw[hc.gen x,F.full hc.tb hc.sub hc.mem h2 T.length 0 (by omega) x];have hpos:∀o∈Gq (BQ dn) (oF T) T.length 0,1≤o:=fun o ho=>by have:=((lH hT (BQ dn) T.length 0 (by omega)).2 o ho).1;omega
 constructor
 ·rintro⟨es,h3,h4⟩;obtain⟨h5,h6⟩:=AGE h3;exact⟨_,h5,by rw[h6];exact h4⟩
 ·rintro⟨k,hk,e⟩;exact⟨_,(AAU _ _).1 (AAV hpos k),e⟩
end Go.Proofs.YtlmlamcoeegkbaaGreat.Wl
namespace Go.Proofs.YtlmlamcoeegkbaaGreat.Z8
open Go.RowKit Go.Proofs.YtlmlamcoeegkbaaGreat AJ CV Dq Wl IK DL JA LD JB Nj LF
def bG (T:Tw)(us:List (List Nat))(os:List Nat):Prop:=
 us.length=os.length∧us.length≤6∧∀(i:Nat) (u:List Nat),us[i]?=some u→∃(j:Nat) (L:Lv),T[j]?=some L∧os[i]?=some L.o∧(∀i,i<j→u[i]?=some 0)∧u[j]?=some 1∧u.length≤1000
theorem AFM {os:List Nat}{k o:Nat}(h:os[k]?=some o):sz (BI (os.take (k+1)))=sz (BI (os.take k))*o:=by
 induction os generalizing k with
 |nil=>simp at h
 |cons a os ih=>cases k with
  |zero=>simp at h;subst h;simp[BI,sz]
  |succ k=>
   have:=ih (k:=k) (by simpa using h);show a*sz (BI (os.take (k+1)))=a*sz (BI (os.take k))*o;rw[this,Nat.mul_assoc]
theorem AEh {os:List Nat}(h:∀o∈os,o≤7)(hl:os.length≤6):sz (BI os)≤117649:=by
 have:∀os:List Nat,(∀o∈os,o≤7)→sz (BI os)≤7^os.length:=by
  intro os
  induction os with
  |nil=>intro _;simp[BI,sz]
  |cons a os ih=>
   intro h;show a*sz (BI os)≤7^(os.length+1);rw[LC,Mg];exact Nat.mul_le_mul (ih (fun o ho=>h o (Ca _ ho))) (h a CE)
 exact Ab (this os h) (Ab (Tv (by omega) hl) (by decide))
theorem I5 (T:Tw)(hs:Small T)(w:World)(vO vP vC vu:Value)(us:List (List Nat))(os:List Nat)(hP:Aw Any w vO vP vC (AX T))(hu:AV Any w vu (us.map ints))(hL:bG T us os):
  Calls Tryz.prog 204 #[.agg #[vO,vP,vC],vu] w (Bf.O0 (sz (BI os)) w):=by
 obtain⟨aO,cO,aP,cP,aC,cC,rfl,rfl,rfl,Er,hP1,FP⟩:=hP.open;have HP:=hid hP;have HU:=hid hu;have HL:=hid hL;have R7:=hid hL.1;have Es:=hL.2.1;have Lb:=hid (show∀o∈os,o≤7 from fun o ho=>by
  obtain⟨i,hi⟩:=IP ho;obtain⟨u,hu⟩:∃u,us[i]?=some u:=⟨_,AP (by rw[hL.1];exact(Ak.1 hi).1)⟩;obtain⟨j,L,h1,h2,_⟩:=hL.2.2 i u hu;rw[hi]at h2;injection h2 with h2;rw[h2];exact hs.2 L (Ar h1))
 obtain⟨aU,cU,rfl⟩:=AV.form hu;clear hP hu hL hs;go_enter Tryz.func204,Tryz.ntmps204;go_wp2_with fail;go_loopw [5,6] (fun ov iv wr=>∃k p:Nat,k≤us.length∧iv= .int .i64 (k:Int)∧ov= .int .i64 (p:Int)∧Hid (p=sz (BI (os.take k)))∧Below (w.heap.size+1) (w.alloc (.cells #[.slice aO T.length cO,.slice aP T.length cP,.slice aC T.length cC] 28)) wr) (fun _ iv _=>us.length-(intOf iv).toNat);case atStart=>exact⟨0,1,AU _,rfl,rfl,hid (by simp[BI,sz]),Ag _ _⟩
 case round=>
  obtain⟨k,p,hk,rfl,rfl,hpk,hB⟩:=hrel;have AZ:=hid hB;have hk5:=DW hB Any;obtain⟨e0,e1,e2⟩:=Cc hB;have hsw:w.heap.size+1≤wr.heap.size:=by have:=hB.size;simp at this;omega
  clear hB;by_cases hlt:k<us.length
  ·obtain⟨u,hu⟩:∃u,us[k]?=some u:=⟨_,AP hlt⟩;obtain⟨j,L,Dt,hos,hz,h1,Xd⟩:=HL.out.2.2 k u hu;obtain⟨bU,oU,Mm,vr,he,Lc,Ic,hrU⟩:=AV.Og HU.out hu;obtain⟨rfl,rfl⟩:aU=some ⟨bU,oU,none⟩∧cU=Mm:=by simp only[C8]at he;exact⟨he.1,he.2.2⟩
   obtain⟨bO,oO,rfl,_,Ch,Bc⟩:=HP.out.ord Dt;have Wm:=(hk5.cell (b:=bU) (o:=oU+k) trivial Lc).trans Ic;have ABa:=(hk5.cell (b:=bO) (o:=oO+j) trivial Ch).trans Bc;have qV:=(Ak.1 Dt).1;have hji:(j:Int)<(T.length:Int):=by omega
   have hj0:(0:Int)≤(j:Int):=by omega
   have hki:(k:Int)<(us.length:Int):=by omega
   have hk0:(0:Int)≤(k:Int):=by omega
   have qW:=hid (fun W n (hW:W=wr.drewN n)=>(xw W vr u (by rw[hW];exact AL.keep hrU (hk5.drewN n)) j 1 hz h1 (by omega) (by omega)).mono (fun e w' (h:e= .returned (.int .i64 (j:Int))∧W=w')=>And.intro h.1 h.2.symm));have hst:=AFM hos;have hbd:p*L.o≤117649:=by
    rw[hpk.out,←hst];exact AEh (fun o ho=>Lb.out o (WK ho)) (by have:=R7.out;simp;omega)
   have hmw:IntKind.i64.wrap ((p:Int)*(L.o:Int))=((p*L.o:Nat):Int):=by rw[←Int.natCast_mul];exact AY _ (by omega)
   obtain⟨pn,hpn⟩:∃pn,pn=p*L.o:=⟨_,rfl⟩;rw[←hpn]at hmw;have qX:=hid (show pn=sz (BI (os.take (k+1))) by rw[hpn,hst,hpk.out]);clear he hrU Ic Bc Dt hz h1 Xd hst hbd hpn hk5 hos;go_wp2_with fail;go_quiet ((go_at_call 224;exact Calls.quiet_of_same (qW.out _ _ rfl)));go_wp2_with fail;go_roundw;case rel=>exact⟨k+1,pn,by omega,by go_num,rfl,qX,Dp AZ.out _⟩
   case measure=>simp[intOf]<;>omega
  ·obtain rfl:k=us.length:=by omega
   have HE:=hid (show p=sz (BI os) by rw[hpk.out,R7.out,Me]);have Mo:=hid (Dx AZ.out);clear hk5;go_wp2_with fail;go_ret;exact⟨Bp (fun q:Nat=>Ending.returned (.int .i64 (q:Int))) HE.out,Mo.out⟩
theorem jW (T:Tw)(hs:Small T)(w:World)(vO vP vC vu:Value)(us:List (List Nat))(os:List Nat)(hP:Aw Any w vO vP vC (AX T))(hu:AV Any w vu (us.map ints))(hL:bG T us os):
  Calls Tryz.prog 205 #[.agg #[vO,vP,vC],vu] w (Jf (ints os) w):=by
 obtain⟨i0,hi,hz0,hz1,hz2⟩:=CO Fa;obtain⟨aO,cO,aP,cP,aC,cC,rfl,rfl,rfl,Er,hP1,FP⟩:=hP.open;have HP:=hid hP;have HU:=hid hu;have HL:=hid hL;have R7:=hid hL.1;have Es:=hL.2.1;obtain⟨aU,cU,rfl⟩:=AV.form hu;obtain⟨W0,hW0⟩:∃W0,W0=w.alloc (.cells #[.slice aO T.length cO,.slice aP T.length cP,.slice aC T.length cC] 28):=⟨_,rfl⟩;have mU:W0.heap.size=w.heap.size+1:=by rw[hW0];simp
 have h00:=FL (base:=w.heap.size+1) (e:=2) (size:=1) W0 #[] 0 (by omega) (AU _) rfl;have HB0:=hid (show Below (w.heap.size+1) (w.alloc (.cells #[.slice aO T.length cO,.slice aP T.length cP,.slice aC T.length cC] 28)) (W0.alloc (.cells #[] 2)) by rw[←hW0];exact AR.alloc (by omega) _);clear hP hu hL hs;go_enter Tryz.func205,Tryz.ntmps205;go_upto_region 1 with fail;rw[←hW0];have N9:=hid (show Own (w.heap.size+1) (W0.alloc (.cells #[] 2)) (.slice (some ⟨w.heap.size+1,0,none⟩) 0 0) (ints []) by rw[mU]at h00;exact h00);clear hW0 h00;go_wp2_with fail;go_loopw [5,6] (fun ov iv wr=>∃k:Nat,k≤us.length∧iv= .int .i64 (k:Int)∧Hid (Own (w.heap.size+1) wr ov (ints (os.take k)))∧Below (w.heap.size+1) (w.alloc (.cells #[.slice aO T.length cO,.slice aP T.length cP,.slice aC T.length cC] 28)) wr) (fun _ iv _=>us.length-(intOf iv).toNat);case atStart=>exact⟨0,AU _,rfl,N9,HB0.out⟩
 case round=>
  obtain⟨k,hk,rfl,hOw,hB⟩:=hrel;have AZ:=hid hB;have hk5:=DW hB Any;obtain⟨e0,e1,e2⟩:=Cc hB;have hsw:w.heap.size+1≤wr.heap.size:=by have:=hB.size;simp at this;omega
  clear hB N9 HB0;by_cases hlt:k<us.length
  ·obtain⟨u,hu⟩:∃u,us[k]?=some u:=⟨_,AP hlt⟩;obtain⟨j,L,Dt,hos,hz,h1,Xd⟩:=HL.out.2.2 k u hu;obtain⟨bU,oU,Mm,vr,he,Lc,Ic,hrU⟩:=AV.Og HU.out hu;obtain⟨rfl,rfl⟩:aU=some ⟨bU,oU,none⟩∧cU=Mm:=by simp only[C8]at he;exact⟨he.1,he.2.2⟩
   obtain⟨bO,oO,rfl,_,Ch,Bc⟩:=HP.out.ord Dt;have Wm:=(hk5.cell (b:=bU) (o:=oU+k) trivial Lc).trans Ic;have ABa:=(hk5.cell (b:=bO) (o:=oO+j) trivial Ch).trans Bc;have qV:=(Ak.1 Dt).1;have hji:(j:Int)<(T.length:Int):=by omega
   have hj0:(0:Int)≤(j:Int):=by omega
   have hki:(k:Int)<(us.length:Int):=by omega
   have hk0:(0:Int)≤(k:Int):=by omega
   have qW:=hid (fun W (hW:AA Any wr W)=>xw W vr u (AL.keep (AL.keep hrU hk5) hW) j 1 hz h1 (by omega) (by omega));have Ga:=hid (show ints (os.take (k+1))=ints (os.take k)++[(L.o:Int)] by rw[Jd,hos];simp[ints]);have htl:(ints (os.take k)).length=k:=by rw[A7,Gl];have:=R7.out;omega
   have Ie:=hid htl;have bH:=hOw.out;unfold Own at bH;rw[htl]at bH;have HOW:=hid bH;have R8:w.heap.size<wr.heap.size:=by omega
   clear he hrU Ic Bc Dt hz h1 Xd hk5 hos bH htl;go_upto_region 5 with fail;rename World=>w8;go_region_law
    (first|(go_simp;go_at_call 224;refine(qW.out _ (by repeat(first|exact AB.drew|exact AA.refl _ _|exact AB.alloc _|exact(AB.alloc _).drew|refine AA.trans ?_ (AA.of_below (by assumption))))).mono ?_;rintro e w5 ⟨rfl,rfl⟩)|(refine Ot _ (by rfl) _ _ _ (by rfl) (w.heap.size+1) 2 i0 (.int .i64 0) 1 8 Tryz.underlying24 hi hz0 hz1 hz2 rfl (by omega) _ k _ (by rfl) ((BM HOW.out (S:=Any) (by repeat(first|exact AB.drew|exact AA.refl _ _|exact AB.alloc _|exact(AB.alloc _).drew|refine AA.trans ?_ (AA.of_below (by assumption)))) (fun _ _=>trivial)).alloc _) ⟨w8.heap.size,0,none⟩ 1 1 [.int .i64 (L.o:Int)] (by rfl) (by rfl) (Ea (cs:= #[.int .i64 (L.o:Int)]) (t:=2) (fr:=(0,0)) (Av _ _)) (by simp[Value.oneCell']) (by omega) (by unfold maxLen;omega) (by omega) (by simp;omega) _ rfl ?_;intro gg cap Co IJ EF MR Nk))
   all_goals
    have HN:=hid (show Own (w.heap.size+1) Co (.slice (some ⟨gg,0,none⟩) (k+1) cap) (ints (os.take (k+1))) from by
     unfold Own;rw[Ga.out,Cm,Ie.out];simpa[vals]using IJ)
    have Hz:=hid (show Below (w.heap.size+1) (w.alloc (.cells #[.slice (some ⟨bO,oO,none⟩) T.length cO,.slice aP T.length cP,.slice aC T.length cC] 28)) Co from by
     first
     |exact(AZ.out.alloc (by simp;omega) _).grown EF (by simp;omega) (fun g hg=>(BH HOW.out g hg).1)
     |exact(AZ.out.drew.alloc (by simp;omega) _).grown EF (by simp;omega) (fun g hg=>(BH HOW.out g hg).1))
    clear IJ EF MR Nk;go_wp2_with fail;go_roundw;case rel=>exact⟨k+1,by omega,by go_num,HN,Hz.out⟩
    case measure=>simp[intOf]<;>omega
  ·obtain rfl:k=us.length:=by omega
   have Mo:=hid (Dx AZ.out);have HE:=hid (show os.take us.length=os by rw[R7.out,Me]);clear hk5;go_wp2_with fail;go_ret;have h:=hOw.out;rw[HE.out]at h;exact⟨_,rfl,h.mono (by omega),Mo.out⟩
end Go.Proofs.YtlmlamcoeegkbaaGreat.Z8
namespace Go.Proofs.YtlmlamcoeegkbaaGreat.WM
open Go.RowKit Go.Proofs.YtlmlamcoeegkbaaGreat AJ CV Dq Wl IK DL JA LD JB Nj LF Z8
theorem AHL:(Tryz.prog.info? 4).map (fun i=>(i.zero,i.size,i.bytes))=some (some (.bool false),1,1):=by kernel_rfl
def Ff (B:Nat)(w:World)(v:Value)(l:List Bool):Prop:=w.ownsRow B 4 1 v l.length (l.map Value.bool)
theorem Ff.keep {B:Nat}{S:Nat→Prop}{w w':World}{v:Value}{l:List Bool}(h:Ff B w v l)(hk:AA S w w')(hS:∀k,B≤k→S k):Ff B w' v l:=BM h hk hS
theorem Ff.made {B:Nat}(w:World)(n:Nat)(hB:B≤w.heap.size)(hn:n≤maxLen):Ff B (w.alloc (.cells (madeCells #[.bool false] n) 4)) (.slice (some ⟨w.heap.size,0,none⟩) n n) (List.replicate n false):=by
 have:=KT (base:=B) (e:=4) (size:=1) w (madeCells #[.bool false] n) n hB hn (by simp[madeCells]);rw[Ni]at this;unfold Ff;simpa using this
theorem Ff.cell {B:Nat}{w:World}{g n c:Nat}{l:List Bool}(h:Ff B w (.slice (some ⟨g,0,none⟩) n c) l){j:Nat}{b:Bool}(hb:l[j]?=some b):w.cell? ⟨g,j,none⟩=some (.bool b)∧w.frozen? ⟨g,j,none⟩=false:=by
 have hl:=(Ak.1 hb).1;unfold Ff at h;have hn:n=l.length:=by
  rcases h.2 with⟨h',_⟩|⟨g',cap,cur,h',_⟩
  ·cases h'
  ·simp only[C8]at h';exact h'.2.1
 subst hn;exact⟨by rw[Ma h j (by omega)];simp[hb],WH h j⟩
theorem Ff.set {B:Nat}{w:World}{g n c:Nat}{l:List Bool}(h:Ff B w (.slice (some ⟨g,0,none⟩) n c) l)(j:Nat)(b:Bool):Ff B (w.setCell ⟨g,j,none⟩ (.bool b)) (.slice (some ⟨g,0,none⟩) n c) (l.set j b):=by
 unfold Ff at h ⊢;have hn:n=l.length:=by
  rcases h.2 with⟨h',_⟩|⟨g',cap,cur,h',_⟩
  ·cases h'
  ·simp only[C8]at h';exact h'.2.1
 subst hn;have:=(Py h j (.bool b)).1;rw[show(l.map Value.bool).set j (.bool b)=(l.set j b).map Value.bool by simp]at this;simpa using this
theorem AA2 (n:Nat)(hn:n≤729)(w:World):(Instr.makeSlice 74 (.int .i64 (n:Int)) (.int .i64 (n:Int))).run Tryz.prog w= .ok (.slice (some ⟨w.heap.size,0,none⟩) n n) (w.alloc (.cells (madeCells #[.bool false] n) 4)):=
 run_make_row' (P:=Tryz.prog) 74 4 (.bool false) 1 Tryz.underlying74 AHL rfl .i64 .i64 n (by omega) (by omega) w
def GH (f:Nat→Nat):Nat→Nat→Bool
 |0,_=>false
 |k+1,t=>GH f k t||(f k==t)
theorem kR (f:Nat→Nat)(k t:Nat):GH f k t=true↔∃j,j<k∧f j=t:=by
 induction k with
 |zero=>simp[GH]
 |succ k ih=>
  rw[GH,WJ,ih];constructor
  ·rintro(⟨j,h1,h2⟩|h)
   ·exact⟨j,by omega,h2⟩
   ·exact⟨k,by omega,by simpa using h⟩
  ·rintro⟨j,h1,h2⟩;rcases FK.1 h1 with h|h
   ·exact .inl ⟨j,h,h2⟩
   ·subst h;exact .inr (by simpa using h2)
def Ig (f:Nat→Nat)(n k:Nat):List Bool:=(List.range n).map (GH f k)
theorem yX (f:Nat→Nat)(n:Nat):Ig f n 0=List.replicate n false:=by
 unfold Ig;apply RJ
 ·simp
 ·intro i h1 h2;simp[GH]
theorem yY (f:Nat→Nat)(n k:Nat):Ig f n (k+1)=(Ig f n k).set (f k) true:=by
 unfold Ig;apply RJ
 ·simp
 ·intro i h1 h2;simp only[Nh,List.getElem_range,List.getElem_set,GH];by_cases h:f k=i
  ·rw[CU h];simp[h]
  ·rw[BU h];have:(f k==i)=false:=by simpa using h
   rw[this,Bool.or_false]
theorem ZT {f:Nat→Nat}{n k t:Nat}(h:t<n):(Ig f n k)[t]?=some (GH f k t):=by simp[Ig,h]
def nums (p:Nat→Bool)(n:Nat):List Nat:=(List.range n).filter p
theorem xx (p:Nat→Bool)(n:Nat):nums p (n+1)=nums p n++(if p n then [n]else []):=by
 unfold nums;rw[Tz,List.filter_append];congr 1;by_cases h:p n=true
 ·simp[h]
 ·simp[h]
theorem nums_length (p:Nat→Bool)(n:Nat):(nums p n).length≤n:=by
 have:=List.length_filter_le p (List.range n);simpa[nums]using this
theorem yZ:∀os:List Nat,Bf.Fg (BI os)=os
 |[]=>rfl
 |o::os=>Bp (o:: ·) (yZ os)
theorem Aw.Gh {S:Nat→Prop}{w:World}{vO vP vC:Value}{P:Bq}(h:Aw S w vO vP vC P):Aw (fun k=>k<w.heap.size) w vO vP vC P:=
 ⟨Hf.AL.Gh h.os,Hf.AV.Gh h.ps,Hf.Bl.Gh h.cs (fun _ _ e=>Hf.AV.Gh e)⟩
theorem AA3 {gI:Nat}{wr w':World}(h:AA (fun k=>k≠gI) wr w'):(∀b o,b<wr.heap.size→¬b=gI→w'.cell? ⟨b,o,none⟩=wr.cell? ⟨b,o,none⟩)∧AA (fun k=>k≠gI) wr w':=⟨fun b o hb hn=>h.cell hn hb,h⟩
def nk (T:Tw)(us:List (List Nat))(os:List Nat)(k:Nat):Nat:=num T (BO (mul T) (AJ.one T) us (at_ (BI os) k))
def ElR (T:Tw)(us:List (List Nat))(os:List Nat)(w:World)(e:Ending)(w':World):Prop:=
 KU 24 2 ((nums (GH (nk T us os) (sz (BI os))) (sz T)).map (at_ T)) w e w'
theorem ADw (T:Tw)(hT:Wf T)(hs:Small T)(hg:AJ.Good T)(hz:sz T≤729)(w:World)(vO vP vC vu:Value)(us:List (List Nat))(os:List Nat)(hP:Aw Any w vO vP vC (AX T))(hu:AV Any w vu (us.map ints))(hL:bG T us os)(GI:∀u∈us,El T u)(hos:∀o∈os,1≤o)(hle:sz (BI os)≤729):
  Calls Tryz.prog 181 #[.agg #[vO,vP,vC],vu] w (ElR T us os w):=by
 obtain⟨i0,hi,hz0,hz1,hz2⟩:=CO JC;have qY:∀o∈os,o≤7:=fun o ho=>by
  obtain⟨i,hi⟩:=IP ho;obtain⟨u,hu⟩:∃u,us[i]?=some u:=⟨_,AP (by rw[hL.1];exact(Ak.1 hi).1)⟩;obtain⟨j,L,h1,h2,_⟩:=hL.2.2 i u hu;rw[hi]at h2;injection h2 with h2;rw[h2];exact hs.2 L (Ar h1)
 have ABb:os.length≤6:=by rw[←hL.1];exact hL.2.1
 have hOs:Bf.Os (BI os):=⟨by rw[xV];exact ABb,fun L h=>by
  simp only[BI,CX]at h;obtain⟨o,ho,rfl⟩:=h;exact hos o ho,hle⟩
 have bL:=Bf.Os.of hT hs hz;have AA4:=yZ os;have HP:=hid hP;have HU:=hid hu;have Ih:=hid (Bf.MJ T);have HE:=hid (fun k=>(Qy (El T) (mul T) (fun _ _ p q=>Dl hT p q) us GI (at_ (BI os) k) (AJ.one T) (Dm hT)));have HNL:=hid (fun k=>He (Qy (El T) (mul T) (fun _ _ p q=>Dl hT p q) us GI (at_ (BI os) k) (AJ.one T) (Dm hT)) hT);have J4:=hid (fun W h1 h2=>I5 T hs W vO vP vC vu us os h1 h2 hL);have ABc:=hid (fun W h1 h2=>jW T hs W vO vP vC vu us os h1 h2 hL);have Bn:=hid (fun W hO=>Bf.I5 T bL W vO vP vC hO);have HAT:=hid (fun W a b c q (hq:q≤1000000) hO=>Bf.MO (BI os) hOs (fun L h=>by
  simp only[BI,CX]at h;obtain⟨o,ho,rfl⟩:=h;have:=qY o ho;show o≤1000;omega) q hq W a b c hO)
 have AIS:=hid (fun W q (hq:q≤1000000) hO=>Bf.MO T bL (fun L h=>by have:=hs.2 L h;omega) q hq W vO vP vC hO);have Bw:=hid (fun W va k hP hu ha=>NU T hT hs hg W vO vP vC vu va us (at_ (BI os) k) hP hu ha (by rw[TQ,xV,hL.1];exact Ap _) (by have:=hL.2.1;omega) GI (fun a ha=>by
  obtain⟨i,hi⟩:=IP ha;obtain⟨L,eD,hlt⟩:=P7 (AAV hos k) hi;have h2:=Ar eD;simp only[BI,CX]at h2;obtain⟨o,ho,rfl⟩:=h2;have:=qY o ho;have:a<o:=hlt;omega))
 have OA:=hid (fun W va x hO hx hE hlt=>Bf.Vd T bL W vO vP vC va x hO hx hE hlt);have OB:=hid AA4;have hmk:=AA2 (sz T) hz;have hzT:sz T≤729:=hz;have qZ:sz (BI os)≤729:=hle;obtain⟨W0,hW0⟩:∃W0,W0=w.alloc (.cells #[vO,vP,vC] 28):=⟨_,rfl⟩;have HB0:=hid (show Below (w.heap.size+1) (w.alloc (.cells #[vO,vP,vC] 28)) W0 by rw[hW0];exact Ag _ _);clear hP hu hT hs hg hL GI hos qY hOs bL AA4 hz hle ABb;go_enter Tryz.func181,Tryz.ntmps181;go_upto_region 1 with fail;rw[←hW0];clear hW0;obtain⟨e0,e1,e2⟩:=Cc HB0.out;have hk0:=DW HB0.out Any;have ABd:w.heap.size+1≤W0.heap.size:=by have:=HB0.out.size;simp at this;omega
 go_wp2_with fail;refine(J4.out _ (HP.out.keep hk0) (HU.out.keep hk0)).mono ?_;rintro e w1 ⟨rfl,hb1⟩;have HB1:=hid (HB0.out.trans (hb1.mono ABd));clear e0 e1 e2 hk0 hb1 J4;obtain⟨e0,e1,e2⟩:=Cc HB1.out;have hk1:=DW HB1.out Any;have ABe:w.heap.size+1≤w1.heap.size:=by have:=HB1.out.size;simp at this;omega
 go_wp2_with fail;refine(Bn.out _ (by have h:=(HP.out.keep hk1).os;rwa[Ih.out]at h)).mono ?_;rintro e w2 ⟨rfl,hb2⟩;have HB2:=hid (HB1.out.trans (hb2.mono ABe));clear e0 e1 e2 hk1 hb2 Bn;go_upto_region 3 with fail;obtain⟨w3,hw3⟩:∃w3,w3=w2.alloc (.cells (madeCells #[.bool false] (sz T)) 4):=⟨_,rfl⟩;rw[←hw3];have ABf:w.heap.size+1≤w2.heap.size:=by have:=HB2.out.size;simp at this;omega
 have HI3:=hid (show Ff w2.heap.size w3 (.slice (some ⟨w2.heap.size,0,none⟩) (sz T) (sz T)) (Ig (nk T us os) (sz T) 0) by
  rw[yX,hw3];exact Ff.made w2 (sz T) AQ (by unfold maxLen;omega))
 have HB3:=hid (show Below (w.heap.size+1) (w.alloc (.cells #[vO,vP,vC] 28)) w3 by rw[hw3];exact HB2.out.alloc ABf _);have hs3:w2.heap.size<w3.heap.size:=by rw[hw3];simp
 clear hw3;obtain⟨e0,e1,e2⟩:=Cc HB3.out;have hk3:=DW HB3.out Any;go_wp2_with fail;refine(ABc.out _ (HP.out.keep hk3) (HU.out.keep hk3)).mono ?_;rintro e w4 ⟨v4,rfl,ES,hb4⟩;have CB:=hid (HB3.out.trans (hb4.mono (by omega)));have HI4:=hid (HI3.out.keep (S:=Any) (AA.of_below hb4) (fun _ _=>trivial));have Ii:=hid (ES.sl.mono (S':=fun k=>k≠w2.heap.size) (fun k hk=>by omega));have hs4:w2.heap.size<w4.heap.size:=Ad hs3 hb4.size;obtain⟨aS,cS,rfl,_⟩:=Ii.out.open;clear e0 e1 e2 hk3 hb4 ES ABc HI3 HB3 HB2 HB1 HB0;go_upto_region 4 with fail;obtain⟨w5,Ci⟩:∃w5,w5=w4.alloc (.cells #[.slice aS os.length cS,.slice none 0 0,.slice none 0 0] 28):=⟨_,rfl⟩;rw[←Ci];obtain⟨gI,eF⟩:∃gI,gI=w2.heap.size:=⟨_,rfl⟩;obtain⟨gV,Ui⟩:∃gV,gV=w4.heap.size:=⟨_,rfl⟩;rw[←eF,←Ui];rw[←eF]at HI4;have AZ:=hid (show Below (w.heap.size+1) (w.alloc (.cells #[vO,vP,vC] 28)) w5 by rw[Ci];exact CB.out.alloc (by omega) _);have Xe:AA (fun _=>True) w4 w5:=by rw[Ci];exact AB.alloc _
 have mV:=DW AZ.out Any;have JI:=hid (HI4.out.keep Xe (fun _ _=>trivial));have C9:=hid ((Aw.Gh HP.out).keep (mV.mono (fun _ _=>trivial)) |>.mono (S':=fun k=>k≠gI) (fun k (hk:k<w.heap.size)=>by omega));have qa:=hid (AV.mono (S':=fun k=>k≠gI) (AV.keep (Hf.AV.Gh HU.out) (mV.mono (fun _ _=>trivial))) (fun k (hk:k<w.heap.size)=>by omega));have Bi:=hid (AL.mono (S':=fun k=>k≠gI) (AL.keep Ii.out (Xe.mono (fun _ _=>trivial))) (fun k hk=>by rw[eF];exact hk));have c0:w5.cell? ⟨gV,0,none⟩=some (.slice aS os.length cS):=by rw[Ci,Ui];exact(Aq _ _ _ _ _ (0,0) (Av w4 _)).trans rfl
 have c1:w5.cell? ⟨gV,1,none⟩=some (.slice none 0 0):=by rw[Ci,Ui];exact(Aq _ _ _ _ _ (0,0) (Av w4 _)).trans rfl
 have c2:w5.cell? ⟨gV,2,none⟩=some (.slice none 0 0):=by rw[Ci,Ui];exact(Aq _ _ _ _ _ (0,0) (Av w4 _)).trans rfl
 have qb:gV<w5.heap.size:=by rw[Ci,Ui];simp
 have hn2:¬gV=gI:=by omega
 have hn1:¬w.heap.size=gI:=by omega
 have Xf:gI<w5.heap.size:=by omega
 have AIT:w.heap.size+1≤gI:=by omega
 have Mq:=hid (And.intro c0 (And.intro c1 c2));clear Ci eF Ui Xe mV c0 c1 c2 Ii HI4 CB hs4 hs3 ABf ABe ABd;go_wp2_with fail;go_loopw [8] (fun iv wr=>∃k:Nat,k≤sz (BI os)∧iv= .int .i64 (k:Int)∧Hid (Ff gI wr (.slice (some ⟨gI,0,none⟩) (sz T) (sz T)) (Ig (nk T us os) (sz T) k))∧Hid (AA (fun k=>k≠gI) w5 wr)∧Below (w.heap.size+1) (w.alloc (.cells #[vO,vP,vC] 28)) wr) (fun iv _=>sz (BI os)-(intOf iv).toNat);case atStart=>exact⟨0,AU _,rfl,JI,hid AB,AZ.out⟩
 case round=>
  obtain⟨k,hk,rfl,Uj,hKr,hB⟩:=hrel;have AZ:=hid hB;obtain⟨e0,e1,e2⟩:=Cc hB;have Xg:=hKr.out.size;have hwr:w.heap.size<wr.heap.size:=by have:=hB.size;simp at this;omega
  have hVr:gV<wr.heap.size:=by omega
  have AIU:gI<wr.heap.size:=by omega
  clear hB;by_cases hlt:k<sz (BI os)
  ·have hki:decide ((k:Int)<(sz (BI os):Int))=true:=by simp;omega
   have c0:=(hKr.out.cell (b:=gV) (o:=0) hn2 qb).trans Mq.out.1;have c1:=(hKr.out.cell (b:=gV) (o:=1) hn2 qb).trans Mq.out.2.1;have c2:=(hKr.out.cell (b:=gV) (o:=2) hn2 qb).trans Mq.out.2.2;have Bj:=hid (C9.out.keep hKr.out);have HUr:=hid (AV.keep qa.out hKr.out);have mW:=hid (fun W (h:AA (fun k=>k≠gI) wr W)=>show AL Any W vO (ints (Bf.Fg T)) from by
    have h2:=((Bj.out.keep h).mono (S':=Any) (fun _ _=>trivial)).os;rwa[Ih.out]at h2)
   have qc:=hid (AL.keep Bi.out hKr.out);obtain⟨q,hq⟩:∃q,q=nk T us os k:=⟨_,rfl⟩;have hqz:q<sz T:=by rw[hq];exact HNL.out k
   have qd:=hid (fun W va (hO:AL Any W vO (ints (Bf.Fg T))) (hx:AL Any W va (ints (BO (mul T) (AJ.one T) us (at_ (BI os) k))))=>(show Calls Tryz.prog 80 #[.agg #[vO,vP,vC],va] W (Bf.O0 q W) from by
    rw[hq];exact OA.out W va _ hO hx (HE.out k) (HNL.out k)))
   have hq1:(q:Int)<(sz T:Int):=by omega
   have hq0:(0:Int)≤(q:Int):=by omega
   have HIS:=hid (show Ig (nk T us os) (sz T) (k+1)=(Ig (nk T us os) (sz T) k).set q true by rw[hq];exact yY _ _ _);have Da:k≤1000000:=by omega
   clear hq;go_upto_region 7 with fail;go_region_held3 (fun w'=>(∀b o,b<wr.heap.size→¬b=gI→w'.cell? ⟨b,o,none⟩=wr.cell? ⟨b,o,none⟩)∧AA (fun k=>k≠gI) wr w')
    (first|exact AA3 (by repeat(first|exact AB.drew|exact AA.refl _ _|refine AA.setCell ?_ (by simp) _|refine AA.trans ?_ (AA.of_below (by assumption)))))
    (first|(go_at_call 46;refine(HAT.out _ (.slice aS os.length cS) (.slice none 0 0) (.slice none 0 0) k Da (by rw[OB.out];exact AL.mono (AL.keep qc.out (by repeat(first|exact AB.drew|exact AA.refl _ _|exact AB.alloc _|exact(AB.alloc _).drew|refine AA.trans ?_ (AA.of_below (by assumption))))) (fun _ _=>trivial))).mono ?_;rintro e w6 ⟨g6,c6,rfl,Al,hb6⟩)|(go_at_call 95;refine(Bw.out _ _ k ((Bj.out.keep (by repeat(first|exact AB.drew|exact AA.refl _ _|exact AB.alloc _|exact(AB.alloc _).drew|refine AA.trans ?_ (AA.of_below (by assumption))))).mono (fun _ _=>trivial)) (AV.mono (AV.keep HUr.out (by repeat(first|exact AB.drew|exact AA.refl _ _|exact AB.alloc _|exact(AB.alloc _).drew|refine AA.trans ?_ (AA.of_below (by assumption))))) (fun _ _=>trivial)) ((Al.sl.mono (fun _ _=>trivial)).keep (by repeat(first|exact AB.drew|exact AA.refl _ _|exact AB.alloc _|exact(AB.alloc _).drew|refine AA.trans ?_ (AA.of_below (by assumption)))))).mono ?_;rintro e w7 ⟨v7,rfl,Bz,Bd⟩)|(go_at_call 80;refine(qd.out _ v7 (mW.out _ (by repeat(first|exact AB.drew|exact AA.refl _ _|exact AB.alloc _|exact(AB.alloc _).drew|refine AA.trans ?_ (AA.of_below (by assumption))))) ((Bz.sl.mono (fun _ _=>trivial)).keep (by repeat(first|exact AB.drew|exact AA.refl _ _|exact AB.alloc _|exact(AB.alloc _).drew|refine AA.trans ?_ (AA.of_below (by assumption)))))).mono ?_;rintro e w8 ⟨rfl,CP⟩;have KZ:=Uj.out.keep (S:=Any) (show AA Any wr w8 from(by repeat(first|exact AB.drew|exact AA.refl _ _|exact AB.alloc _|exact(AB.alloc _).drew|refine AA.trans ?_ (AA.of_below (by assumption))))) (fun _ _=>trivial);obtain⟨s8,f8⟩:=KZ.cell (ZT hqz);have Mr:wr.heap.size≤w8.heap.size:=(show AA Any wr w8 from(by repeat(first|exact AB.drew|exact AA.refl _ _|exact AB.alloc _|exact(AB.alloc _).drew|refine AA.trans ?_ (AA.of_below (by assumption))))).size))
   have Xh:=hid (show Ff gI (w8.setCell ⟨gI,q,none⟩ (.bool true)) (.slice (some ⟨gI,0,none⟩) (sz T) (sz T)) (Ig (nk T us os) (sz T) (k+1)) by rw[HIS.out];exact KZ.set q true);have qg:=hid (show AA (fun k=>k≠gI) w5 (w8.setCell ⟨gI,q,none⟩ (.bool true)) from(hKr.out.trans (show AA (fun k=>k≠gI) wr w8 from(by repeat(first|exact AB.drew|exact AA.refl _ _|exact AB.alloc _|exact(AB.alloc _).drew|refine AA.trans ?_ (AA.of_below (by assumption)))))).setCell (by simp) _);have Ld:=hid (show Below (w.heap.size+1) (w.alloc (.cells #[vO,vP,vC] 28)) (w8.setCell ⟨gI,q,none⟩ (.bool true)) from(show Below (w.heap.size+1) _ w8 from(by repeat(first|exact AZ.out|exact AZ.out.drew|refine Below.step ?_ (by simp) (by assumption)))).setCell (p:=⟨gI,q,none⟩) AIT _);clear Al Bz hb6 Bd CP KZ s8 f8 Mr e0 e1 e2 c0 c1 c2;go_wp2_with fail;go_roundw;case rel=>exact⟨k+1,by omega,by go_num,Xh,qg,Ld.out⟩
   case measure=>simp[intOf]<;>omega
  ·obtain rfl:k=sz (BI os):=by omega
   have h00:=FL (base:=wr.heap.size) (e:=24) (size:=1) wr #[] 0 AQ (AU _) rfl;have AIV:=hid (fun W (h:Below wr.heap.size wr W)=>show AL Any W vO (ints (Bf.Fg T)) from by
    have h2:=((C9.out.keep (hKr.out.trans (AA.of_below h))).mono (S':=Any) (fun _ _=>trivial)).os;rwa[Ih.out]at h2)
   have HIR:=hid Uj.out;have hsw:w.heap.size+1≤wr.heap.size:=by omega
   clear e0 e1 e2 hlt;go_wp2_with fail;rename World=>wo;go_loopw [9,10] (fun ov iv wr=>∃t:Nat,t≤sz T∧iv= .int .i64 (t:Int)∧Hid (Own2 24 2 wo.heap.size wr ov ((nums (GH (nk T us os) (sz (BI os))) t).map (at_ T)))∧Below wo.heap.size wo wr) (fun _ iv _=>sz T-(intOf iv).toNat);case atStart=>exact⟨0,AU _,rfl,hid ⟨[],h00,rfl,by simp[nums]⟩,AR.alloc AQ _⟩
   case round=>
    obtain⟨t,ht,rfl,ho2,hb⟩:=hrel;have HB:=hid hb;have Cb:=hid (AZ.out.trans (hb.mono hsw));obtain⟨e0,e1,e2⟩:=Cc Cb.out;have R8:w.heap.size<wr.heap.size:=by have:=hb.size;omega
    clear hb h00;by_cases hlt:t<sz T
    ·have qh:=HIR.out.keep (S:=Any) (AA.of_below HB.out) (fun _ _=>trivial);obtain⟨s8,f8⟩:=qh.cell (ZT hlt);have ht1:(t:Int)<(sz T:Int):=by omega
     have ht0:(0:Int)≤(t:Int):=by omega
     have qi:t≤1000000:=by omega
     have hns:=xx (GH (nk T us os) (sz (BI os))) t;have hnl:=nums_length (GH (nk T us os) (sz (BI os))) t;obtain⟨nl,QE⟩:∃nl,((nums (GH (nk T us os) (sz (BI os))) t).map (at_ T)).length=nl:=⟨_,rfl⟩;have AIW:nl≤729:=by rw[←QE,Ce];omega
     cases hbt:GH (nk T us os) (sz (BI os)) t with
     |false=>
      rw[hbt]at s8 hns;simp only[Bool.false_eq_true,if_false,LM]at hns;have Uk:=hid hns;clear qh hbt hns hnl QE;go_wp2_with fail;go_roundw;case rel=>exact⟨t+1,by omega,by go_num,hid (by rw[Uk.out];exact ho2.out),HB.out⟩
      case measure=>simp[intOf]<;>omega
     |true=>
      rw[hbt]at s8 hns;simp only[if_true]at hns;have Uk:=hid (show(nums (GH (nk T us os) (sz (BI os))) (t+1)).map (at_ T)=(nums (GH (nk T us os) (sz (BI os))) t).map (at_ T)++[at_ T t] by rw[hns,AAz];rfl);have Wn:=hid QE;clear qh hbt hns hnl QE;go_wp2_with fail;refine(AIS.out _ t qi (AIV.out _ HB.out)).mono ?_;rintro e w1 ⟨g,c,rfl,ho,hb1⟩;have HB1:=hid (HB.out.trans (hb1.mono HB.out.size));have HRR:=hid (Ec.row (ho.mono (B':=wo.heap.size) HB.out.size));obtain⟨OC,h1,h2,h4⟩:=ho2.out.of_below hb1;have Gs:=hid (And.intro h2 h4);rw[Wn.out]at h1;clear ho hb1 h2 h4 ho2;go_wp2_with (at_builtin;(refine GQ _ rfl _ _ 25 rfl wo.heap.size 24 i0 (.slice none 0 0) 1 24 Tryz.underlying25 hi hz0 hz1 hz2 rfl (by decide) _ _ _ rfl (h1.alloc _) ⟨w1.heap.size,0,none⟩ 1 1 [.slice (some ⟨g,0,none⟩) (ints (at_ T t)).length c] rfl rfl ?c1 ?c2 ?c3 ?c4 ?c5 ?_));case c1=>
       intro j u hj
       match j,hj with
       |0,hj=>simp at hj;subst hj;simp[Addr.add]
      case c2=>intro u hu;simp at hu;subst hu;rfl
      case c3=>unfold maxLen;omega
      case c4=>omega
      case c5=>have:=HB1.out.size;simp;omega
      ·intro v' w2 hown hgrow _;have HN:=hid (show Own2 24 2 wo.heap.size w2 v' ((nums (GH (nk T us os) (sz (BI os))) (t+1)).map (at_ T)) from by
        rw[Uk.out];exact Own2.push (w:=w1.alloc _) (us:=OC) (by decide) Wn.out (h1.alloc _) Gs.out.1 (fun i r u hr hu=>(Gs.out.2 i r u hr hu).keep (S:=fun _=>True) (AB.alloc _) (fun _ _=>trivial)) (HRR.out.keep (S:=fun _=>True) (AB.alloc _) (fun _ _=>trivial)) hown hgrow)
       have HB2:=hid (show Below wo.heap.size wo w2 from(HB1.out.alloc (by have:=HB1.out.size;omega) _).grown hgrow (by simp;have:=HB1.out.size;omega) (fun g hg=>(BH h1 g hg).1));clear hown hgrow h1 Gs HRR;go_wp2_with fail;go_roundw;case rel=>exact⟨t+1,by omega,by go_num,HN,HB2.out⟩
       case measure=>simp[intOf]<;>omega
    ·obtain rfl:t=sz T:=by omega
     have HR:=hid (show ElR T us os w (.returned _) wr from⟨_,rfl,ho2.out.mono (by omega),(Dx AZ.out).trans (HB.out.mono (by omega))⟩);go_wp2_with fail;go_ret;exact HR.out
end Go.Proofs.YtlmlamcoeegkbaaGreat.WM
namespace Go.Proofs.YtlmlamcoeegkbaaGreat.O1
open Go.RowKit Go.Proofs.YtlmlamcoeegkbaaGreat AJ Gen Dq F9 Wl R5 CV Hf Z8 WM
abbrev eG (Q:Tw)(dn:List (List Nat)):List (List Nat):=Ed (BQ dn) Q.length 0
abbrev osq (Q:Tw)(dn:List (List Nat)):List Nat:=Gq (BQ dn) (oF Q) Q.length 0
theorem Wo {Q:Tw}(hQ:Wf Q)(hs:Small Q)(hg:AJ.Good Q){tl dn im:List (List Nat)}(h:FD Q tl dn 0)(hc:N8 Q im tl):
  bG Q (eG Q dn) (osq Q dn)∧(∀u∈eG Q dn,El Q u)∧(∀o∈osq Q dn,1≤o)∧sz (BI (osq Q dn))≤sz Q:=by
 have hos:=lH hQ (BQ dn) Q.length 0 (by omega);have hget:∀(i:Nat) (u:List Nat),(eG Q dn)[i]?=some u→∃(j:Nat) (L:Lv),Q[j]?=some L∧(osq Q dn)[i]?=some L.o∧A (El Q) fF j u∧fF j u=1:=fun i u hu=>by
  obtain⟨j,_,h2,h3,h4⟩:=kQ (o:=oF Q) Q.length 0 i u hu;rw[D5]at h2;obtain⟨L,hL⟩:∃L,Q[j]?=some L:=⟨_,AP h2⟩;obtain⟨hA,h1⟩:=lead hQ hg h hc h3 h2;exact⟨j,L,hL,by rw[←Ou hL];exact h4,hA,h1⟩
 refine⟨⟨(jV _ _).symm,Ab (zg _ _) hs.1,fun i u hu=>?_⟩,fun u hu=>?_,fun o ho=>by have:=(hos.2 o ho).1;omega,by simpa using hos.1⟩
 ·obtain⟨j,L,h1,h2,hA,h3⟩:=hget i u hu;obtain⟨h4,h5⟩:=AFL hA h3;exact⟨j,L,h1,h2,h4,h5,by rw[Af hA.1];have:=hs.1;omega⟩
 ·obtain⟨i,hi⟩:=IP hu;obtain⟨j,L,_,_,hA,_⟩:=hget i u hi;exact hA.1
theorem AFN {Q:Tw}(hQ:Wf Q)(hs:Small Q)(hg:AJ.Good Q){tl dn im:List (List Nat)}(h:FD Q tl dn 0)(hc:N8 Q im tl){t:Nat}(ht:t<sz Q):
  GH (nk Q (eG Q dn) (osq Q dn)) (sz (BI (osq Q dn))) t=true↔Gen.Gen (mul Q) (AJ.one Q) im (at_ Q t):=by
 have G:=Ba hQ hg;have GI:=(Wo hQ hs hg h hc).2.1;rw[kR,AGF hQ hg h hc];constructor
 ·rintro⟨k,hk,e⟩;refine⟨k,hk,?_⟩;unfold nk at e;rw[G.Na GI]at e;rw[←e,Jz hQ (G.ev GI _)]
 ·rintro⟨k,hk,e⟩;refine⟨k,hk,?_⟩;unfold nk;rw[G.Na GI,e,Vz,J3 ht]
theorem remark (p:Nat→Bool)(n t:Nat)(ht:t<n):GH (fun k=>(nums p n).getD k 0) (nums p n).length t=p t:=by
 cases h:p t with
 |true=>
  rw[kR];have hm:t∈nums p n:=by unfold nums;rw[Mc];exact⟨Hq.2 ht,h⟩
  obtain⟨j,hj,e⟩:=Nq hm;exact⟨j,hj,by rw[Bg,AP hj];exact e⟩
 |false=>
  cases h2:GH (fun k=>(nums p n).getD k 0) (nums p n).length t with
  |false=>rfl
  |true=>
   rw[kR]at h2;obtain⟨j,hj,e⟩:=h2;rw[Bg,AP hj]at e;have hm:t∈nums p n:=by
    have:=Je hj;simp only[WI]at e;rwa[e]at this
   unfold nums at hm;rw[Mc]at hm;rw[h]at hm;simp at hm
theorem kS {p:Nat→Bool}{n k t:Nat}(h:(nums p n)[k]?=some t):t<n:=by
 have:=Ar h;unfold nums at this;exact Hq.1 (Mc.1 this).1
theorem AV.tail {S:Nat→Prop}{w:World}{g n c:Nat}{rows:List (List Nat)}(h:AV S w (.slice (some ⟨g,0,none⟩) n c) (rows.map ints))(s:Nat)(hs:s≤n):AV S w (.slice (some ⟨g,s,none⟩) (n-s) (c-s)) ((rows.drop s).map ints):=by
 obtain⟨ao,c',e,h2,h3,h0,h4⟩:=h;simp only[C8]at e;obtain⟨rfl,rfl,rfl⟩:=e;rw[Ce]at *;refine⟨some ⟨g,s,none⟩,c-s,by simp,by simp;omega,by omega,by simp,fun i x hx=>?_⟩;obtain⟨b,o,e1,e2,e3,u,e4,e5⟩:=h4 (s+i) x (by rw[Em,Gj]at hx;rw[Em];exact hx);simp only[EN,IU,and_true]at e1;obtain⟨rfl,rfl⟩:=e1;exact⟨g,s,rfl,e2,e3,u,by rw[D5]at e4;exact e4,e5⟩
end Go.Proofs.YtlmlamcoeegkbaaGreat.O1
namespace Go.Proofs.YtlmlamcoeegkbaaGreat.AAW
open Go.RowKit Go.Proofs.YtlmlamcoeegkbaaGreat AJ Gen Dq bQ R5 DL Hf WN
theorem PI {w wr:World}{a0 a1 a2:Value}{t:TypeId}(hb:Below (w.heap.size+1) (w.alloc (.cells #[a0,a1,a2] t)) wr):
  (wr.cell? ⟨w.heap.size,0,none⟩=some a0∧wr.cell? ⟨w.heap.size,1,none⟩=some a1∧wr.cell? ⟨w.heap.size,2,none⟩=some a2)∧
  AA Any w wr∧Below w.heap.size w wr∧w.heap.size+1≤wr.heap.size:=⟨Cc hb,DW hb _,Dx hb,by have:=hb.size;simpa using this⟩
def bS (w:World)(e:Ending)(w':World):Prop:=∃v,e= .returned v∧AV Any w' v []∧Below w.heap.size w w'
theorem mk0 (w:World):(Instr.makeSlice 25 (.int .i64 0) (.int .i64 0)).run Tryz.prog w= .ok (.slice (some ⟨w.heap.size,0,none⟩) 0 0) (w.alloc (.cells (madeCells #[.slice none 0 0] 0) 24)):=mX 0 (by omega) w
theorem AGG (w:World)(b o c:Nat)(hc:c≤maxLen):AV Any w (.slice (some ⟨b,o,none⟩) 0 c) []:=⟨_,c,rfl,AU _,hc,fun h=>(by cases h),fun i x hx=>(by simp at hx)⟩
theorem AEi (w:World)(vO vP vC:Value)(aT:Option Addr)(cT:Nat):Calls Tryz.prog 209 #[.agg #[vO,vP,vC],.slice aT 0 cT] w (bS w):=by
 have hmk:=mk0;obtain⟨W0,hW0⟩:∃W0,W0=w.alloc (.cells #[vO,vP,vC] 28):=⟨_,rfl⟩;have HB0:=hid (show Below (w.heap.size+1) (w.alloc (.cells #[vO,vP,vC] 28)) W0 by rw[hW0];exact Ag _ _);have HB1:=hid (show Below (w.heap.size+1) (w.alloc (.cells #[vO,vP,vC] 28)) (W0.alloc (.cells (madeCells #[.slice none 0 0] 0) 24)) from HB0.out.alloc (PI HB0.out).2.2.2 _);go_enter Tryz.func209,Tryz.ntmps209;go_upto_region 1 with fail;rw[←hW0];clear hW0;obtain⟨g,hg⟩:∃g,W0.heap.size=g:=⟨_,rfl⟩;go_wp2_with fail;go_loopw [6] (fun dv wr=>dv= .int .i64 (-1)∧Hid (Below (w.heap.size+1) (w.alloc (.cells #[vO,vP,vC] 28)) wr)) (fun _ _=>0);case atStart=>exact⟨by first|rfl|simp,HB1⟩
 case round=>
  obtain⟨rfl,hB⟩:=hrel;have hd:decide ((-1:Int)≥0)=false:=by decide
  clear HB1 HB0;have hsB:=(PI hB.out).2.2.2;go_wp2_with fail;rename World=>wo;have HB2:=hid (hB.out.alloc hsB (.cells #[] 24));go_loopw [9,10] (fun ov iv wr=>(∃b,ov= .slice (some ⟨b,0,none⟩) 0 0)∧iv= .int .i64 0∧Hid (Below (w.heap.size+1) (w.alloc (.cells #[vO,vP,vC] 28)) wr)) (fun _ _ _=>0);case atStart=>exact⟨⟨_,rfl⟩,rfl,HB2⟩
  case round=>
   obtain⟨⟨b,rfl⟩,rfl,hB'⟩:=hrel;have hd0:decide ((0:Int)<0)=false:=by decide
   have HR:=hid (show bS w (.returned (.slice (some ⟨b,0,none⟩) 0 0)) wr from⟨_,rfl,AGG _ _ _ _ (AU _),(PI hB'.out).2.2.1⟩);clear hB' hB HB2;go_wp2_with fail;go_ret;exact HR.out
theorem AEF (w:World)(vP vC vi:Value)(aO:Option Addr)(cO:Nat)(hi:AV Any w vi []):Calls Tryz.prog 182 #[.agg #[.slice aO 0 cO,vP,vC],vi] w (bS w):=by
 have hmk:=mk0;have HF:=hid (fun W a c=>AEi W (.slice aO 0 cO) vP vC a c);have HI:=hid hi;have HOW:=hid (fun W (h:AV Any W vi [])=>LF.Vi W vi [] h (by simp) (by simp));obtain⟨aI,cI,QS,_,hmI,_,_⟩:=hi;simp only[List.length_nil]at QS;subst QS;obtain⟨W0,hW0⟩:∃W0,W0=w.alloc (.cells #[.slice aO 0 cO,vP,vC] 28):=⟨_,rfl⟩;have HB0:=hid (show Below (w.heap.size+1) (w.alloc (.cells #[.slice aO 0 cO,vP,vC] 28)) W0 by rw[hW0];exact Ag _ _);have HB1:=hid (show Below (w.heap.size+1) (w.alloc (.cells #[.slice aO 0 cO,vP,vC] 28)) (W0.alloc (.cells (madeCells #[.slice none 0 0] 0) 24)) from HB0.out.alloc (PI HB0.out).2.2.2 _);have HOC:=hid (HOW.out _ (AV.keep HI.out (PI HB1.out).2.1));clear hmI HOW;go_enter Tryz.func182,Tryz.ntmps182;go_upto_region 1 with fail;rw[←hW0];clear hW0;obtain⟨⟨e0,e1,e2⟩,hk0,hbw0,hs0⟩:=PI HB0.out;go_wp2_with fail;refine HOC.out.mono ?_;rintro e w1 ⟨v1,rfl,ho1,hb1⟩;obtain⟨a1,c1,hv1,_,_⟩:=ho1.form;simp only[List.length_nil]at hv1;subst hv1;have HB2:=hid (HB1.out.trans (hb1.mono (PI HB1.out).2.2.2));clear ho1 hb1 HOC e0 e1 e2 hk0 hbw0 hs0 HB0 HB1;go_wp2_with fail;go_loopw [7] (fun qv wr=>(∃a c,qv= .slice a 0 c)∧Hid (Below (w.heap.size+1) (w.alloc (.cells #[.slice aO 0 cO,vP,vC] 28)) wr)) (fun _ _=>0);case atStart=>exact⟨⟨_,_,rfl⟩,HB2⟩
 case round=>
  obtain⟨⟨a,c,rfl⟩,hB⟩:=hrel;have hd0:decide ((0:Int)>0)=false:=by decide
  obtain⟨⟨e0,e1,e2⟩,-, -, hsB⟩:=PI hB.out;have hw0:w.heap.size<wr.heap.size:=by omega
  clear HB2;go_wp2_with fail;refine(HF.out _ _ _).mono ?_;rintro e w3 ⟨v3,rfl,h3,hb3⟩;have HR:=hid (show bS w (.returned v3) w3 from⟨v3,rfl,h3,(PI (hB.out.trans (hb3.mono hsB))).2.2.1⟩);clear h3 hb3;go_wp2_with fail;go_ret;exact HR.out
theorem AEG (w:World)(vO vP vC vi:Value)(hP:Aw Any w vO vP vC (AX []))(hi:AV Any w vi []):Calls Tryz.prog 182 #[.agg #[vO,vP,vC],vi] w (Zg [] [] w):=by
 obtain⟨aO,cO,aP,cP,aC,cC,rfl,rfl,rfl,_,_,_⟩:=hP.open;refine(AEF w _ _ vi aO cO hi).mono ?_;rintro e w' ⟨v,rfl,h,hb⟩;have htab:BQ ([]:List (List Nat))=fun _=>none:=jP 0;refine⟨v,[],[],rfl,?_,rfl,fun d=>⟨fun _=>⟨fun h=>h,fun y hy=>by rw[htab]at hy;cases hy⟩,fun h=>absurd h (DX _)⟩,h,hb⟩;have F:=R6 (T:=[]) trivial trivial;have:=O3.qj F (im:=[]) (fun c hc=>absurd hc (by simp)) (O3.start F (fun c hc=>absurd hc (by simp)));rw[←htab]at this;exact this
end Go.Proofs.YtlmlamcoeegkbaaGreat.AAW
