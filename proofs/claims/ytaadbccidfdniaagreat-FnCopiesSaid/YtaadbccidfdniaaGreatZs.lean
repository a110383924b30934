import Derived.Test.YtaadbccidfdniaaGreatZ0
import Derived.Test.YtaadbccidfdniaaGreatZp
import Derived.Test.YtaadbccidfdniaaGreatZr
import Derived.Deep.AppendLies
import Derived.Laws.BytesArg
/-
  Lemmas for the law FnCopies, in short spelling.
-/
open Go.Lib (hid)
set_option linter.unusedVariables false
set_option linter.unusedSimpArgs false
set_option maxRecDepth 100000
set_option maxHeartbeats 40000000
namespace Go.Proofs.YtaadbccidfdniaaGreat.ML
open Go.Proofs.YtaadbccidfdniaaGreat AB Gen Cu Gt EZ CU Gf I9 Qi SH
noncomputable def EI (T:Tw):List (List Nat)→List Nat→List Nat×List Nat
 |[],x=>([],x)
 |u::us,x=>(fF (dep u) x::(EI T us (mul T (Ap T (npow (mul T) (AB.one T) u (fF (dep u) x))) x)).1,(EI T us (mul T (Ap T (npow (mul T) (AB.one T) u (fF (dep u) x))) x)).2)
noncomputable def Di (T:Tw)(y u:List Nat):List Nat:=mul T (Ap T u) (mul T y u)
noncomputable def Ac (T:Tw):List (List Nat)→Tw
 |[]=>[]
 |u::us=>⟨oF T (dep u),(EI T us (npow (mul T) (AB.one T) u (oF T (dep u)))).1,us.map fun y=>(EI T us (Di T y u)).1⟩::Ac T us
def JC (T:Tw):List (List Nat)→Prop
 |[]=>True
 |u::us=>El T u∧dep u<T.length∧fF (dep u) u=1∧(∀v∈us,dep u<dep v)∧Im T (Ac T us) us (npow (mul T) (AB.one T) u (oF T (dep u)))∧(∀y∈us,Im T (Ac T us) us (Di T y u))∧JC T us
theorem AKL {T:Tw}(hT:Wf T)(hg:AB.Good T){u:List Nat}(hu:El T u){a b:List Nat}(ha:El T a)(hb:El T b):Di T (mul T a b) u=mul T (Di T a u) (Di T b u):=by
 have G:=BO hT hg;obtain⟨hi,h1,h2⟩:=FJ hT hg hu;unfold Di;rw[G.Am hi (G.cl ha hu) (G.cl hi (G.cl hb hu)),G.Am ha hu (G.cl hi (G.cl hb hu)),←G.Am hu hi (G.cl hb hu),h1,G.eL (G.cl hb hu),G.Am ha hb hu]
theorem YN {T:Tw}(hT:Wf T)(hg:AB.Good T){u a:List Nat}(hu:El T u)(ha:El T a):El T (Di T a u):=C8 hT (FJ hT hg hu).1 (C8 hT ha hu)
theorem ACV {T:Tw}(hT:Wf T)(hg:AB.Good T){u:List Nat}(hu:El T u):Di T (AB.one T) u=AB.one T:=by
 have G:=BO hT hg;unfold Di;rw[G.eL hu,(FJ hT hg hu).2.2]
theorem Vd {T:Tw}(hT:Wf T)(hg:AB.Good T){u a:List Nat}(hu:El T u)(ha:El T a):mul T u (Di T a u)=mul T a u:=by
 have G:=BO hT hg;obtain⟨hi,h1,h2⟩:=FJ hT hg hu;unfold Di;rw[←G.Am hu hi (G.cl ha hu),h1,G.eL (G.cl ha hu)]
theorem AKM {T:Tw}(hT:Wf T)(hg:AB.Good T){u a b:List Nat}(hu:El T u)(ha:El T a)(hb:El T b)(h:Di T a u=Di T b u):a=b:=by
 have G:=BO hT hg;have:=Vd hT hg hu ha;rw[h,Vd hT hg hu hb]at this;exact(G.qN hu hb ha this).symm
theorem ACW {T:Tw}(hT:Wf T)(hg:AB.Good T){u a:List Nat}(hu:El T u)(ha:El T a):∀k,mul T (npow (mul T) (AB.one T) u k) (it (fun z=>Di T z u) k a)=mul T a (npow (mul T) (AB.one T) u k)
 |0=>by
  have G:=BO hT hg;rw[JL,it,G.eL ha,G.eR ha]
 |k+1=>by
  have G:=BO hT hg;have hk:=G.npow hu k;have hit:El T (it (fun z=>Di T z u) k a):=JP (El T) _ (fun z hz=>YN hT hg hu hz) k a ha;rw[Dz,GK,G.Am hk hu (YN hT hg hu hit),Vd hT hg hu hit,←G.Am hk hit hu,ACW hT hg hu ha k,G.Am ha hk hu]
structure Mx (T:Tw)(us:List (List Nat)):Prop where
 wf:Wf (Ac T us)
 gd:AB.Good (Ac T us)
 em:DI T (Ac T us) us
 mx:∀x,Im T (Ac T us) us x→(EI T us x).2=AB.one T∧El (Ac T us) (EI T us x).1∧ev (mul T) (AB.one T) us (EI T us x).1=x
theorem AC9 {T:Tw}(hp:Er T){d:Nat}(hd:d<T.length):oF T d=2∨oF T d=3∨oF T d=5∨oF T d=7:=by
 obtain⟨L,hL⟩:∃L,T[d]?=some L:=⟨_,AO hd⟩;rw[J7 hL];exact hp L (Ak hL)
theorem rX {T:Tw}{x:List Nat}{d:Nat}(hx:El T x)(h:d≤dep x):A (El T) fF d x:=WG (Vp hx) h
theorem vG {T:Tw}(hT:Wf T)(hg:AB.Good T){us:List (List Nat)}{S:Tw}{d:Nat}(hd:d≤T.length)(h:∀v∈us,A (El T) fF d v){x:List Nat}(hx:Im T S us x):A (El T) fF d x:=by
 have F:=Em hT hg;obtain⟨z,_,rfl⟩:=hx;have hs:=F.J6 hd;have:∀(us:List (List Nat)),(∀v∈us,A (El T) fF d v)→∀z,A (El T) fF d (ev (mul T) (AB.one T) us z):=by
  intro us
  induction us with
  |nil=>intro _ z;cases z<;>exact hs.me
  |cons v us ih=>intro hv z;cases z with
   |nil=>exact hs.me
   |cons a z=>exact hs.cl (hs.npow (hv v DJ) a) (ih (fun w hw=>hv w (Dj _ hw)) z)
 exact this us h z
theorem TG {T:Tw}:∀{us:List (List Nat)},JC T us→∀u∈us,El T u∧dep u<T.length
 |[],_,u,hu=>by simp at hu
 |v::us,h,u,hu=>by
  rcases F8.1 hu with rfl|hu
  ·exact⟨h.1,h.2.1⟩
  ·exact TG h.2.2.2.2.2.2 u hu
theorem Vl {T:Tw}(hT:Wf T)(hg:AB.Good T)(hp:Er T):∀{us:List (List Nat)},JC T us→Mx T us
 |[],_=>⟨trivial,trivial,qd,fun x hx=>by
  obtain⟨z,hz,rfl⟩:=hx;cases z with
  |nil=>exact⟨rfl,trivial,rfl⟩
  |cons a z=>exact hz.elim⟩
 |u::us,hch=>by
  obtain⟨hu,hd,h1,hlt,hpw,hcj,hch'⟩:=hch;have M:=Vl hT hg hp hch';have G:=BO hT hg;have F:=Em hT hg;have hS:=M.wf;have Cv:=M.gd;have GS:=BO hS Cv;have hE:=M.em;have hel:=TG hch';have hAu:A (El T) fF (dep u) u:=Vp hu;have hA1:∀v∈us,A (El T) fF (dep u+1) v:=fun v hv=>rX (hel v hv).1 (hlt v hv);have AE9:=M.mx _ hpw;have vH:=fun y hy=>M.mx _ (hcj y hy);have he:phi T us (AB.one (Ac T us))=AB.one T:=Q6 hT hg us _;have hf:∀a b,El (Ac T us) a→El (Ac T us) b→phi T us (mul (Ac T us) a b)=mul T (phi T us a) (phi T us b):=fun a b ha hb=>G.Rh hS hE.el hE.rel ha hb;obtain⟨L,hL⟩:∃L:Lv,L=⟨oF T (dep u),(EI T us (npow (mul T) (AB.one T) u (oF T (dep u)))).1,us.map fun y=>(EI T us (Di T y u)).1⟩:=⟨_,rfl⟩;have hLo:L.o=oF T (dep u):=by rw[hL]
  have hLw:L.w=(EI T us (npow (mul T) (AB.one T) u (oF T (dep u)))).1:=by rw[hL]
  have mg:L.c=us.map fun y=>(EI T us (Di T y u)).1:=by rw[hL]
  have hsub:Ac T (u::us)=L::Ac T us:=by rw[hL];rfl
  have hpo:=AC9 hp hd;rw[←hLo]at hpo;have MI:∀y∈L.c,El (Ac T us) y:=fun y hy=>by
   rw[mg]at hy;obtain⟨v,hv,rfl⟩:=Cy.1 hy;exact(vH v hv).2.1
  have SN:El (Ac T us) L.w:=by rw[hLw];exact AE9.2.1
  have hwf:Wf (L::Ac T us):=⟨by omega,SN,by rw[mg,Bh];exact hE.len,MI,hS⟩;have vI:phi T us L.w=npow (mul T) (AB.one T) u L.o:=by rw[hLw,hLo];exact AE9.2.2
  have AFA:L.c.map (phi T us)=us.map fun y=>Di T y u:=by
   rw[mg,List.map_map];exact TP fun y hy=>(vH y hy).2.2
  have hF:J8 T L us u:=by
   refine⟨vI.symm,fun k y hk=>?_⟩;rw[mg,Bn,II]at hk;obtain⟨v,hv,rfl⟩:=hk;rw[BV,hv,(vH v (Ak hv)).2.2,Vd hT hg hu (hel v (Ak hv)).1];rfl
  have hn:¬Gen (mul T) (AB.one T) us u:=fun hh=>by
   have h2:=vG hT hg (by omega) hA1 ((iP hT hg hS hE.el hE.rel u).1 hh);have:=h2.2 (dep u) (by omega);omega
  have hEm:DI T (L::Ac T us) (u::us):=(fP hT hg hwf Cv hpo).2 ⟨hE,hu,hF,hn⟩;have hci:∀a b,El T a→El T b→Di T a u=Di T b u→a=b:=fun a b ha hb h=>AKM hT hg hu ha hb h;have AFB:∀a b,El T a→El T b→Di T (mul T a b) u=mul T (Di T a u) (Di T b u):=fun a b ha hb=>AKL hT hg hu ha hb;have AFC:∀z,El (Ac T us) z→phi T us (img (Ac T us) L.c z)=Di T (phi T us z) u:=fun z hz=>by
   rw[show img (Ac T us) L.c z=ev (mul (Ac T us)) (AB.one (Ac T us)) L.c z from GS.Pg MI z];rw[show phi T us (ev (mul (Ac T us)) (AB.one (Ac T us)) L.c z)=ev (mul T) (AB.one T) (L.c.map (phi T us)) z from MX GS (phi T us) he hf MI z,AFA];exact(MX G (fun y=>Di T y u) (ACV hT hg hu) AFB hE.el z).symm
  have yz:∀z,El (Ac T us) z→El (Ac T us) (img (Ac T us) L.c z):=fun z hz=>Pk hS MI z;have hit:∀k z,El (Ac T us) z→phi T us (it (img (Ac T us) L.c) k z)=it (fun y=>Di T y u) k (phi T us z):=fun k=>by
   induction k with
   |zero=>intro z hz;rfl
   |succ k ih=>intro z hz;rw[it,it,ih _ (yz z hz),AFC z hz]
  have hgd:AB.Good (L::Ac T us):=by
   refine⟨Cv,?_,?_,fun j hj=>?_⟩
   ·refine(Va GS (phi T us) he hf (fun a b ha hb h=>hE.inj a b ha hb h) (Ac T us) L.c MI).1 ?_;rw[AFA];exact(Va G (fun y=>Di T y u) (ACV hT hg hu) AFB hci (Ac T us) us hE.el).2 hE.rel
   ·refine hE.inj _ _ (yz _ SN) SN ?_;have e1:phi T us (img (Ac T us) L.c L.w)=phi T us L.w:=by
     rw[AFC _ SN,vI];have hk:=G.npow hu L.o;refine G.Ob hu (YN hT hg hu hk) hk ?_;rw[Vd hT hg hu hk,←Dz (mul T) (AB.one T) u L.o];have:=G.NV hu 1 L.o;rw[G.Oa hu]at this;rw[←this,Ki]
    exact e1
   ·have hj':=MV hS j;have AFD:El (Ac T us) (it (img (Ac T us) L.c) L.o (unit (Ac T us) j)):=JP (El (Ac T us)) _ yz L.o _ hj';refine hE.inj _ _ (GS.cl SN AFD) (GS.cl hj' SN) ?_;have e1:phi T us (mul (Ac T us) L.w (it (img (Ac T us) L.c) L.o (unit (Ac T us) j)))=phi T us (mul (Ac T us) (unit (Ac T us) j) L.w):=by
     rw[hf _ _ SN AFD,hf _ _ hj' SN,hit _ _ hj',vI,ACW hT hg hu (G.ev hE.el _) L.o]
    exact e1
  rw[←hsub]at hwf hgd hEm;refine⟨hwf,hgd,hEm,fun x hx=>?_⟩;obtain⟨z,hz,rfl⟩:=hx;rw[hsub]at hz;cases z with
  |nil=>exact hz.elim
  |cons a z=>
   have hh:A (El T) fF (dep u+1) (ev (mul T) (AB.one T) us z):=vG hT hg (by omega) hA1 ⟨z,hz.2,rfl⟩;have hp1:=G.npow hu a;have hfa:fF (dep u) (ev (mul T) (AB.one T) (u::us) (a::z))=a:=by
    show fF (dep u) (mul T (npow (mul T) (AB.one T) u a) (ev (mul T) (AB.one T) us z))=a;have hpA:=(F.J6 (DT hd)).npow hAu a;have hhA:=(GL.1 hh);rw[F.fm hd hp1 hh.1 hpA.2 hhA.1.2,hhA.2,F.J5 hd hAu,h1,Ic,Oc,Nat.mod_mod,Ez (by rw[←hLo];exact hz.1)]
   have ANi:mul T (Ap T (npow (mul T) (AB.one T) u a)) (ev (mul T) (AB.one T) (u::us) (a::z))=ev (mul T) (AB.one T) us z:=by
    show mul T (Ap T (npow (mul T) (AB.one T) u a)) (mul T (npow (mul T) (AB.one T) u a) (ev (mul T) (AB.one T) us z))=_;obtain⟨hi,_,h2⟩:=FJ hT hg hp1;rw[←G.Am hi hp1 hh.1,h2,G.eL hh.1]
   obtain⟨m1,m2,m3⟩:=M.mx _ ⟨z,hz.2,rfl⟩;rw[EI,hfa,ANi,hsub];refine⟨m1,⟨hz.1,m2⟩,?_⟩;show mul T (npow (mul T) (AB.one T) u a) (ev (mul T) (AB.one T) us _)=_;rw[m3];rfl
end Go.Proofs.YtaadbccidfdniaaGreat.ML
namespace Go.Proofs.YtaadbccidfdniaaGreat.U4
open Go.Proofs.YtaadbccidfdniaaGreat AB Val Ct Gen Cu Gt EZ CU Gf I9 Qi SH ML NQ
theorem ABp {T:Tw}(hT:Wf T)(hg:AB.Good T)(hp:Er T){im:List (List Nat)}{t t2:Nat→Option (List Nat)}(hc:bf T im t)(hcf:Cf (El T) (mul T) (AB.one T) T.length fF (Ap T) t t2):
  ∀(k d:Nat),d+k=T.length→JC T (BU t2 k d)∧∀x,Im T (Ac T (BU t2 k d)) (BU t2 k d) x↔Kr T t d x
 |0,d,hd=>by
  have F:=Em hT hg;refine⟨trivial,fun x=>⟨?_,fun h=>?_⟩⟩
  ·rintro⟨z,hz,rfl⟩;have:ev (mul T) (AB.one T) (BU t2 0 d) z=AB.one T:=by cases z<;>rfl
   rw[this];exact(hc.sub d (by omega)).me
  ·have:x=AB.one T:=F.ze h.1.1 (fun j hj=>h.1.2 j (by omega));exact⟨[],trivial,this.symm⟩
 |k+1,d,hd=>by
  have F:=Em hT hg;have G:=F.G;obtain⟨ih1,ih2⟩:=ABp hT hg hp hc hcf k (d+1) (by omega);cases ht:t d with
  |none=>
   rw[qI ((hcf d).1 ht)];refine⟨ih1,fun x=>(ih2 x).trans ⟨fun h=>(Hf.1 h).1,fun h=>Hf.2 ⟨h,VV (k:=k) hd ht h⟩⟩⟩
  |some y=>
   obtain⟨r,hr,hr1,_,hr2⟩:=(hcf d).2 y ht;rw[qJ hr2];have hdl:d<T.length:=by omega
   have hS:=hc.sub d (by omega);have U5:=hr.1.1;have ZC:dep r=d:=TE hr.1 (by rw[hr1];omega) hdl;have M:=Vl hT hg hp ih1;have hmem:∀v∈BU t2 k (d+1),Kr T t (d+1) v:=fun v hv=>(ih2 v).1 (gW hT hg M.wf M.em v hv);have AQC:=fun a=>(hS.npow hr a).1;have hfp:∀a,fF d (npow (mul T) (AB.one T) r a)=a%oF T d:=fun a=>by rw[F.J5 hdl hr.1,hr1,Ic]
   have hpw:Kr T t (d+1) (npow (mul T) (AB.one T) r (oF T d)):=Hf.2 ⟨hS.npow hr _,by rw[hfp,Nat.mod_self]⟩;have hinv:∀z,Kr T t d z→Kr T t d (Ap T z)∧(fF d (Ap T z)+fF d z)%oF T d=0:=fun z hz=>by
    have h1:=F.J2 hS hz;refine⟨h1,?_⟩;rw[←F.fm hdl h1.1.1 hz.1.1 h1.1.2 hz.1.2,F.iL hz.1.1,F.fe d hdl]
   have hcj:∀v∈BU t2 k (d+1),Kr T t (d+1) (Di T v r):=fun v hv=>by
    obtain⟨hv1,hv0⟩:=Hf.1 (hmem v hv);obtain⟨hi,hi0⟩:=hinv r hr;have y5:=hS.cl hv1 hr;have hall:=hS.cl hi y5;refine Hf.2 ⟨hall,?_⟩;show fF d (mul T (Ap T r) (mul T v r))=0;rw[F.fm hdl hi.1.1 y5.1.1 hi.1.2 y5.1.2,F.fm hdl hv1.1.1 hr.1.1 hv1.1.2 hr.1.2,hv0,Cg,Nat.add_mod_mod,hi0]
   refine⟨⟨U5,by rw[ZC];exact hdl,by rw[ZC];exact hr1,fun v hv=>?_,?_,fun v hv=>(ih2 _).2 (hcj v hv),ih1⟩,fun x=>⟨?_,fun h=>?_⟩⟩
   ·rw[ZC];have:=rX (M.em.el v hv) AR;rcases CP d (dep v)with h|h
    ·exact h
    ·obtain⟨j,hj1,hj2,hj3⟩:=Vb hv;have hrow:=IZ.row (Cf.XT hcf 0) (AU _) hj3;rw[TE hrow.1.1 (by rw[hrow.2.1];omega) (by omega)]at h;omega
   ·rw[ZC];exact(ih2 _).2 hpw
   ·rintro⟨z,hz,rfl⟩;cases z with
    |nil=>exact hz.elim
    |cons a z=>
     have h1:=(ih2 _).1 ⟨z,hz.2,rfl⟩;exact hS.cl (hS.npow hr a) (Hf.1 h1).1
   ·have ha:fF d x<oF T d:=F.lt hdl h.1.1;have hpa:=hS.npow hr (fF d x);obtain⟨hi,hi0⟩:=hinv _ hpa;rw[hfp,Ez ha]at hi0;have hh:=hS.cl hi h;have h0:fF d (mul T (Ap T (npow (mul T) (AB.one T) r (fF d x))) x)=0:=by rw[F.fm hdl hi.1.1 h.1.1 hi.1.2 h.1.2,hi0]
    obtain⟨z,hz,e⟩:=(ih2 _).2 (Hf.2 ⟨hh,h0⟩);refine⟨fF d x::z,⟨by show fF d x<oF T (dep r);rw[ZC];exact ha,hz⟩,?_⟩;show mul T (npow (mul T) (AB.one T) r (fF d x)) (ev (mul T) (AB.one T) _ z)=x;rw[e,←G.Am hpa.1.1 hi.1.1 h.1.1,F.iR hpa.1.1,G.eL h.1.1]
theorem Ve {T:Tw}(hT:Wf T)(hg:AB.Good T)(hp:Er T){im us:List (List Nat)}(h:Dl T im us):JC T us∧∀x,Im T (Ac T us) us x↔Gen (mul T) (AB.one T) im x:=by
 obtain⟨t,t2,hc,hcf,rfl⟩:=h;obtain⟨h1,h2⟩:=ABp hT hg hp hc hcf T.length 0 (by omega);exact⟨h1,fun x=>(h2 x).trans (hc.gen x).symm⟩
theorem ADg {T:Tw}(hT:Wf T){x:List Nat}{s:Nat}(h:El (T.drop s) x)(hs:s≤T.length):Cj (AQ T).os s (ints (pad s x)):=by
 have hl:=AZ h;rw[Cx]at hl;refine⟨by simp[AQ,pad,ints,hl];omega,fun j y o hy ho=>?_⟩;simp only[AQ,Bn,II]at ho;obtain⟨L,hL,rfl⟩:=ho;simp only[ints,Bn,II]at hy;obtain⟨b,hb,rfl⟩:=hy;by_cases hj:j<s
 ·rw[pad,EA (by simpa using hj),Nl,Bo hj]at hb;injection hb with hb;subst hb;have h2:=(lvl' hT hL).2.2.2.2;show(0:Int)≤((0:Nat):Int)∧((0:Nat):Int)<(L.o:Int)∧(j<s→((0:Nat):Int)=0);exact⟨by omega,by omega,fun _=>rfl⟩
 ·rw[pad,D9 (by simpa using(Nat.le_of_not_lt hj)),DK]at hb;obtain⟨L',hL',hlt⟩:=LP h hb;rw[Ho,Kg (Nat.le_of_not_lt hj),hL]at hL';injection hL' with hL';subst hL';show(0:Int)≤(b:Int)∧(b:Int)<(L.o:Int)∧(j<s→(b:Int)=0);exact⟨by omega,by omega,fun h=>absurd h hj⟩
theorem qj {T:Tw}(hp:Er T):∀{us:List (List Nat)},JC T us→Er (Ac T us)
 |[],_=>fun L hL=>by simp[Ac]at hL
 |u::us,h=>fun L hL=>by
  rw[Ac]at hL;rcases F8.1 hL with rfl|hL
  ·exact AC9 hp h.2.1
  ·exact qj hp h.2.2.2.2.2.2 L hL
theorem ALl {T:Tw}(hp:Er T):∀o∈(AQ T).os,CL o=true:=fun o ho=>by
 obtain⟨L,hL,rfl⟩:=Cy.1 ho;have:=hp L hL;simp[CL];omega
theorem AI6 {T:Tw}(hT:Wf T)(hp:Er T)(h6:T.length≤6)(hz:sz T≤729):Valid (AQ T):=by
 refine⟨by simpa[AQ]using h6,by rw[qR];simp[AQ],by rw[show(AQ T).cs=JY 0 T from rfl,AAN];simp[AQ],ALl hp,?_,fun i p h=>?_,fun i c h=>?_⟩
 ·rw[show(AQ T).os=T.map fun L=>(L.o:Int) from rfl,pg];omega
 ·rw[show(AQ T).ps=KE 0 T from rfl,ABL,II]at h;obtain⟨L,hL,rfl⟩:=h;have hl:=lvl' hT hL;rw[Cg];exact ADg hT hl.2.2.2.1 (Ag.1 hL).1
 ·rw[show(AQ T).cs=JY 0 T from rfl,ABM,II]at h;obtain⟨L,hL,rfl⟩:=h;have hl:=lvl' hT hL;refine⟨by rw[Bh,hl.2.1];simp[AQ];omega,fun y hy=>?_⟩;obtain⟨y',hy',rfl⟩:=Cy.1 hy;rw[Cg];exact ADg hT (hl.2.2.1 y' hy') (Ag.1 hL).1
theorem ACX {T:Tw}(hT:Wf T)(hg:AB.Good T)(hp:Er T)(h6:T.length≤6)(hz:sz T≤729){us:List (List Nat)}(h:JC T us)(hu:us.length≤6):Bb (AQ (Ac T us)):=by
 have M:=Vl hT hg hp h;have hp':=qj hp h;have hl:=M.em.len;have hle:=iQ hT hg M.wf M.em;refine⟨_,M.wf,⟨by omega,fun L hL=>?_⟩,rfl,AI6 M.wf hp' (by omega) (by omega),M.gd⟩;have:=hp' L hL;omega
end Go.Proofs.YtaadbccidfdniaaGreat.U4
namespace Go.Proofs.YtaadbccidfdniaaGreat.SQ
open Go.Proofs.YtaadbccidfdniaaGreat AB Val Ct Gen Cu Gt EZ CU Gf LX Mf I9 Qi SH ML U4 NQ
structure IM (T:Tw)(M:Nat):Prop where
 PN:∀c,M.testBit c=true→c<sz T
 one:M.testBit 0=true
 mul:∀a b,M.testBit a=true→M.testBit b=true→M.testBit (pr T a b)=true
def IB (M N:Nat):Prop:=∀c,M.testBit c=true→N.testBit c=true
structure QD (T:Tw)(M x N:Nat):Prop where
 sub:IM T N
 le:IB M N
 has:N.testBit x=true
 least:∀K,IM T K→IB M K→K.testBit x=true→IB N K
theorem IB.trans {M N K:Nat}(h1:IB M N)(h2:IB N K):IB M K:=fun c h=>h2 c (h1 c h)
theorem IB.le {M N:Nat}(h:IB M N):M≤N:=by
 have e:M ||| N=N:=Nat.eq_of_testBit_eq fun i=>by
  rw[Nat.testBit_or];cases hm:M.testBit i with
  |false=>simp
  |true=>simp[h i hm]
 rw[←e];exact Nat.left_le_or
theorem IB.eq {M N:Nat}(h:IB M N)(h':IB N M):M=N:=Nat.le_antisymm h.le h'.le
theorem IM.lt {T:Tw}{M:Nat}(hz:sz T≤32)(h:IM T M):M<4294967296:=by
 have:=Nat.lt_pow_two_of_testBit (n:=32) M fun i hi=>by
  cases hm:M.testBit i with
  |false=>rfl
  |true=>have:=h.PN i hm;omega
 exact this
theorem QD.one {T:Tw}{M x N N':Nat}(h:QD T M x N)(h':QD T M x N'):N=N':=(h.least _ h'.sub h'.le h'.has).eq (h'.least _ h.sub h.le h.has)
theorem WS (c:Nat):(1:Nat).testBit c=true↔c=0:=by
 have:=Nat.testBit_two_pow (n:=0) (m:=c);rw[Nat.pow_zero]at this;rw[this];simp[eq_comm]
theorem ALm {T:Tw}(hT:Wf T)(hg:AB.Good T):pr T 0 0=0:=by
 show num T (AB.mul T (at_ T 0) (at_ T 0))=0;have G:=BO hT hg;rw[TB hT,G.eL (D5 hT),qU]
theorem ANj {T:Tw}(hT:Wf T)(hg:AB.Good T):IM T 1:=
 ⟨fun c h=>by rw[(WS c).1 h];exact JQ hT,(WS 0).2 rfl,fun a b ha hb=>by rw[(WS a).1 ha,(WS b).1 hb,ALm hT hg];exact(WS 0).2 rfl⟩
theorem all_in {T:Tw}{ms:List Nat}(h1:1∈ms)(hs:∀M∈ms,IM T M)(hx:∀M∈ms,∀x,x<sz T→M.testBit x=true∨∃N∈ms,QD T M x N){K:Nat}(hK:IM T K):K∈ms:=by
 have key:∀n M,K-M≤n→M∈ms→IB M K→K∈ms:=by
  intro n
  induction n with
  |zero=>
   intro M hn hM hL;have:=hL.le;have:M=K:=by omega
   rw[←this];exact hM
  |succ n ih=>
   intro M hn hM hL;by_cases he:IB K M
   ·rw[he.eq hL];exact hM
   ·obtain⟨x,SF⟩:=Classical.not_forall.1 he;obtain⟨hxK,Ri⟩:=Classical.not_imp.1 SF;rcases hx M hM x (hK.PN x hxK)with h|⟨N,hN,hE⟩
    ·exact absurd h Ri
    ·have hNK:=hE.least K hK hL hxK;have h2:=hE.le.le;have h3:=hNK.le;have h4:M≠N:=fun e=>Ri (by rw[e];exact hE.has);exact ih N (by omega) hN hNK
 exact key _ 1 AR h1 (fun c hc=>by rw[(WS c).1 hc];exact hK.one)
def XU (p:Nat→Bool):Nat→Nat
 |0=>0
 |n+1=>XU p n ||| (if p n then 2^n else 0)
theorem ACY (p:Nat→Bool)(c:Nat):∀n,(XU p n).testBit c=(decide (c<n)&&p c)
 |0=>by simp[XU]
 |n+1=>by
  rw[XU,Nat.testBit_or,ACY p c n];by_cases hc:c=n
  ·subst hc;cases hp:p c with
   |false=>simp
   |true=>simp[Nat.testBit_two_pow_self]
  ·have e:(if p n=true then 2^n else 0).testBit c=false:=by
    split
    ·rw[Nat.testBit_two_pow];simp;omega
    ·simp
   have e2:decide (c<n+1)=decide (c<n):=by apply decide_eq_decide.2;omega
   rw[e,e2];simp
def NR (T:Tw)(M:Nat):List (List Nat):=((List.range (sz T)).filter fun c=>M.testBit c).map (at_ T)
theorem ql {T:Tw}{M:Nat}(x:List Nat):x∈NR T M↔∃c,c<sz T∧M.testBit c=true∧at_ T c=x:=by
 unfold NR;rw[Cy];constructor
 ·rintro⟨c,hc,rfl⟩;obtain⟨h1,h2⟩:=Nn.1 hc;exact⟨c,JW.1 h1,h2,rfl⟩
 ·rintro⟨c,h1,h2,rfl⟩;exact⟨c,Nn.2 ⟨JW.2 h1,h2⟩,rfl⟩
theorem ADA {T:Tw}(hT:Wf T){M:Nat}:∀x∈NR T M,El T x:=fun x hx=>by
 obtain⟨c,_,_,rfl⟩:=(ql x).1 hx;exact D7 hT c
theorem ALD {T:Tw}(hT:Wf T){x y:List Nat}(hx:El T x)(hy:El T y):num T (AB.mul T x y)=pr T (num T x) (num T y):=by
 show _=num T (AB.mul T (at_ T (num T x)) (at_ T (num T y)));rw[J4 hT hx,J4 hT hy]
theorem AKN {T:Tw}(hT:Wf T)(hg:AB.Good T){M:Nat}(h:IM T M)(x:List Nat):Gen (AB.mul T) (AB.one T) (NR T M) x↔El T x∧M.testBit (num T x)=true:=by
 have G:=BO hT hg;constructor
 ·intro hx;refine hx (fun y=>El T y∧M.testBit (num T y)=true) ⟨D5 hT,by rw[qU];exact h.one⟩ fun y c hy hc=>?_;obtain⟨d,hd,hb,rfl⟩:=(ql c).1 hc;refine⟨C8 hT hy.1 (D7 hT d),?_⟩;rw[ALD hT hy.1 (D7 hT d),Q5,Ez hd];exact h.mul _ _ hy.2 hb
 ·rintro⟨hE,hb⟩;refine Gen.of G (ADA hT) ((ql x).2 ⟨num T x,KZ hE hT,hb,J4 hT hE⟩)
def Ko (T:Tw)(ms:List Nat)(us:List (List (List Nat))):Prop:=us.length=ms.length∧∀(i M:Nat) (u:List (List Nat)),ms[i]?=some M→us[i]?=some u→Dl T (NR T M) u
def ZE (T:Tw)(ms:List Nat):Prop:=ms.Nodup∧∀K,K∈ms↔IM T K
theorem Ko.im {T:Tw}(hT:Wf T)(hg:AB.Good T)(hp:Er T){M:Nat}{u:List (List Nat)}(hM:IM T M)(h:Dl T (NR T M) u)(c:List Nat):Im T (Ac T u) u c↔El T c∧M.testBit (num T c)=true:=((Ve hT hg hp h).2 c).trans (AKN hT hg hM c)
theorem Ko.mem {T:Tw}{ms:List Nat}{us:List (List (List Nat))}(h:Ko T ms us){u:List (List Nat)}(hu:u∈us):∃M∈ms,Dl T (NR T M) u:=by
 obtain⟨i,hi⟩:=GM hu;have hil:=(Ag.1 hi).1;obtain⟨M,hM⟩:∃M,ms[i]?=some M:=⟨_,AO (by rw[←h.1];exact hil)⟩;exact⟨M,Ak hM,h.2 i M u hM hi⟩
theorem Ko.mem' {T:Tw}{ms:List Nat}{us:List (List (List Nat))}(h:Ko T ms us){M:Nat}(hM:M∈ms):∃u∈us,Dl T (NR T M) u:=by
 obtain⟨i,hi⟩:=GM hM;have hil:=(Ag.1 hi).1;obtain⟨u,hu⟩:∃u,us[i]?=some u:=⟨_,AO (by rw[h.1];exact hil)⟩;exact⟨u,Ak hu,h.2 i M u hi hu⟩
noncomputable def IC (Q T:Tw)(us:List (List (List Nat))):List (List (List Nat)):=by
 classical exact us.filter fun u=>decide (sz (Ac Q u)=sz T∧Bf (Ac Q u) T T.length []≠[])
theorem count {Q T:Tw}(hQ:Wf Q)(hg:AB.Good Q)(SS:Er Q)(hT:Wf T)(BH:AB.Good T)(hp:Er T){ms:List Nat}{us us':List (List (List Nat))}(hS:ZE Q ms)(hC:Ko Q ms us)(hP:us'.Perm us):
  (Bf Q T T.length []).length=(IC Q T us').length*(Bf T T T.length []).length:=by
 classical
 have hM:∀M∈ms,IM Q M:=fun M h=>(hS.2 M).1 h;have h:=copies hQ hg hT BH hp us' (Ac Q) (fun u hu=>?_) ?_ (fun es hE=>?_)
 ·rw[h];unfold IC;congr 3
 ·obtain⟨M,hm,hc⟩:=hC.mem (hP.mem_iff.1 hu);have hch:=(Ve hQ hg SS hc).1;have X:=Vl hQ hg SS hch;exact⟨X.wf,X.gd,qj SS hch,X.em⟩
 ·refine(hP.pairwise_iff (fun {a b} hab hba=>hab fun c=>(hba c).symm)).2 ?_;refine List.pairwise_iff_getElem.2 fun i j hi hj hij hsame=>?_;have hi':i<ms.length:=by rw[←hC.1];exact hi
  have hj':j<ms.length:=by rw[←hC.1];exact hj
  have hci:=hC.2 i _ _ (AO hi') (AO hi);have hcj:=hC.2 j _ _ (AO hj') (AO hj);have h1:=hM _ (Ke hi');have h2:=hM _ (Ke hj');refine(List.pairwise_iff_getElem.1 hS.1 i j hi' hj' hij) ?_;refine IB.eq (fun c hc=>?_) (fun c hc=>?_)
  ·have hlt:=h1.PN c hc;have e:num Q (at_ Q c)=c:=by rw[Q5,Ez hlt]
   have:=(Ko.im hQ hg SS h2 hcj (at_ Q c)).1 ((hsame _).1 ((Ko.im hQ hg SS h1 hci _).2 ⟨D7 hQ c,by rw[e];exact hc⟩));rw[e]at this;exact this.2
  ·have hlt:=h2.PN c hc;have e:num Q (at_ Q c)=c:=by rw[Q5,Ez hlt]
   have:=(Ko.im hQ hg SS h1 hci (at_ Q c)).1 ((hsame _).2 ((Ko.im hQ hg SS h2 hcj _).2 ⟨D7 hQ c,by rw[e];exact hc⟩));rw[e]at this;exact this.2
 ·let K:=XU (fun c=>decide (Im Q T es (at_ Q c))) (sz Q)
  have hb:∀c,K.testBit c=true↔c<sz Q∧Im Q T es (at_ Q c):=fun c=>by
   show(XU _ _).testBit c=true↔_;rw[ACY];simp
  have hK:IM Q K:=⟨fun c hc=>((hb c).1 hc).1,(hb 0).2 ⟨JQ hQ,by rw[TB hQ];exact AC3 hQ hg hT⟩,fun a b ha hb'=>(hb _).2 ⟨Mg hQ a b,by
   rw[Yk hQ];exact AC2 hQ hg hT hE.el hE.rel ((hb a).1 ha).2 ((hb b).1 hb').2⟩⟩
  obtain⟨u,hu,hc⟩:=hC.mem' ((hS.2 K).2 hK);refine⟨u,hP.mem_iff.2 hu,fun c=>(Ko.im hQ hg SS hK hc c).trans ?_⟩;constructor
  ·rintro⟨h1,h2⟩;have:=((hb _).1 h2).2;rwa[J4 hQ h1]at this
  ·intro hi;have MI:El Q c:=by
    obtain⟨z,_,rfl⟩:=hi;exact(BO hQ hg).ev hE.el z
   exact⟨MI,(hb _).2 ⟨KZ MI hQ,by rw[J4 hQ MI];exact hi⟩⟩
theorem AI7 {T:Tw}{ms:List Nat}(hz:sz T≤32)(hn:ms.Nodup)(h:∀M∈ms,IM T M):ms.length≤4294967296:=by
 have:=r9 (l₂:=List.range 4294967296) hn fun M hM=>JW.2 ((h M hM).lt hz);rwa[List.length_range]at this
end Go.Proofs.YtaadbccidfdniaaGreat.SQ
namespace Go.Proofs.YtaadbccidfdniaaGreat.y7
open Go.RowKit Go.Proofs.YtaadbccidfdniaaGreat AB Gen Cu Gt EZ CU FY Qj PM Ql U2 I9 ML
theorem AI8 {T:Tw}(hT:Wf T)(hg:AB.Good T):Ap T (AB.one T)=AB.one T:=by
 have G:=BO hT hg;have h:=FJ hT hg (D5 hT);have h2:=h.2.1;rwa[G.eL h.1]at h2
theorem fq {T:Tw}(hT:Wf T)(hg:AB.Good T){x y:List Nat}(hx:El T x)(hy:El T y)(h:mul T x y=AB.one T):y=Ap T x:=by
 have G:=BO hT hg;have h1:=FJ hT hg hx;exact G.Ob hx hy h1.1 (h.trans h1.2.1.symm)
theorem ALE {T:Tw}(hT:Wf T)(hg:AB.Good T){u a z:List Nat}(hu:El T u)(ha:El T a)(hz:El T z)(h:mul T u z=mul T a u):z=Di T a u:=by
 have G:=BO hT hg;exact G.Ob hu hz (YN hT hg hu ha) (h.trans (Vd hT hg hu ha).symm)
theorem qK {T:Tw}{u:List Nat}{us:List (List Nat)}(h:JC T (u::us)):JC T us:=h.2.2.2.2.2.2
theorem qL {T:Tw}(hT:Wf T)(hg:AB.Good T):∀{us:List (List Nat)} (k:Nat),k≤us.length→JC T us→∀{x:List Nat},Im T (Ac T (us.drop k)) (us.drop k) x→EI T us x=(pad k (EI T (us.drop k) x).1,(EI T (us.drop k) x).2)
 |us,0,_,_,x,_=>rfl
 |[],k+1,hk,_,x,_=>absurd hk (by simp)
 |u::us,k+1,hk,hc,x,hx=>by
  have G:=BO hT hg;have hd:=hc.2.1;have hel:=TG (qK hc);have hxA:A (El T) fF (dep u+1) x:=vG hT hg (by omega) (fun v hv=>rX (hel v (KA hv)).1 (hc.2.2.2.1 v (KA hv))) hx;have h0:fF (dep u) x=0:=hxA.2 (dep u) (by omega);have ih:=qL hT hg (us:=us) k (by simpa using hk) (qK hc) (x:=x) hx;have e:mul T (Ap T (npow (mul T) (AB.one T) u 0)) x=x:=by rw[JL,AI8 hT hg,G.eL hxA.1]
  rw[EI,h0,e,ih];rfl
theorem ACZ {T:Tw}:∀{us:List (List Nat)} {i:Nat} {u:List Nat},JC T us→us[i]?=some u→
  El T u∧dep u<T.length∧fF (dep u) u=1∧Im T (Ac T (us.drop (i+1))) (us.drop (i+1)) (npow (mul T) (AB.one T) u (oF T (dep u)))∧∀y∈us.drop (i+1),Im T (Ac T (us.drop (i+1))) (us.drop (i+1)) (Di T y u)
 |[],i,u,_,hi=>by simp at hi
 |v::us,0,u,h,hi=>by
  simp only[CB,Eg]at hi;subst hi;exact⟨h.1,h.2.1,h.2.2.1,h.2.2.2.2.1,h.2.2.2.2.2.1⟩
 |v::us,i+1,u,h,hi=>ACZ (us:=us) (qK h) (by simpa using hi)
theorem X7 (T:Tw):∀us:List (List Nat),(Ac T us).length=us.length
 |[]=>rfl
 |u::us=>by rw[Ac,Hl,X7 T us,Hl]
theorem ABq (T:Tw):∀{us:List (List Nat)} {i:Nat} {u:List Nat},us[i]?=some u→
  (Ac T us)[i]?=some ⟨oF T (dep u),(EI T (us.drop (i+1)) (npow (mul T) (AB.one T) u (oF T (dep u)))).1,(us.drop (i+1)).map fun y=>(EI T (us.drop (i+1)) (Di T y u)).1⟩
 |[],i,u,hi=>by simp at hi
 |v::us,0,u,hi=>by
  simp only[CB,Eg]at hi;subst hi;rfl
 |v::us,i+1,u,hi=>by
  rw[Ac,Bz];exact ABq T (us:=us) (by simpa using hi)
noncomputable def SV (T:Tw)(us:List (List Nat))(u:List Nat):List Nat:=(EI T us (npow (mul T) (AB.one T) u (oF T (dep u)))).1
noncomputable def MM (T:Tw)(us:List (List Nat))(u y:List Nat):List Nat:=(EI T us (Di T y u)).1
theorem AI9 {P:Bu}{S:Tw}(h1:P.os.length=S.length)(h2:P.ps.length=S.length)(h3:P.cs.length=S.length)
  (h:∀(i:Nat) (L:Lv),S[i]?=some L→P.os[i]?=some (L.o:Int)∧P.ps[i]?=some (ints (pad (i+1) L.w))∧P.cs[i]?=some (L.c.map fun y=>ints (pad (i+1) y))):P=AQ S:=by
 have key:∀{α:Type} (a b:List α),a.length=S.length→b.length=S.length→(∀(i:Nat) (L:Lv),S[i]?=some L→a[i]?=b[i]?)→a=b:=fun a b ha hb hh=>by
  apply Oi;intro i;rcases CP i S.length with hi|hi
  ·exact hh i _ (AO hi)
  ·rw[J9 (by omega),J9 (by omega)]
 cases P with
 |mk os ps cs=>
  have e1:=key os (AQ S).os h1 (qQ S) fun i L hL=>(h i L hL).1.trans (nu S i L hL).symm;have e2:=key ps (AQ S).ps h2 (qR S) fun i L hL=>(h i L hL).2.1.trans (AAO S i L hL).symm;have e3:=key cs (AQ S).cs h3 (AB1 S) fun i L hL=>(h i L hL).2.2.trans (AAP S i L hL).symm;rw[e1,e2,e3]
theorem AJA {T:Tw}(hT:Wf T)(hg:AB.Good T){us:List (List Nat)}(hc:JC T us):
  AQ (Ac T us)=⟨us.map fun u=>(oF T (dep u):Int),us.map fun u=>ints (SV T us u),(List.range us.length).map fun i=>(us.drop (i+1)).map fun y=>ints (MM T us (us.getD i []) y)⟩:=by
 refine(AI9 (by simp[X7]) (by simp[X7]) (by simp[X7]) fun i L hL=>?_).symm;have hi:i<us.length:=by rw[←X7 T us];exact(Ag.1 hL).1
 obtain⟨u,hu⟩:∃u,us[i]?=some u:=⟨_,AO hi⟩;have hS:=ABq T hu;rw[hL]at hS;injection hS with hS;subst hS;obtain⟨c1,c2,c3,c4,c5⟩:=ACZ hc hu;have hD:us.getD i []=u:=by rw[BV,hu];rfl
 refine⟨by simp[hu],?_,?_⟩
 ·rw[Bn,hu];show some (ints (SV T us u))=_;unfold SV;rw[qL hT hg (i+1) (by omega) hc c4]
 ·simp only[Bn,List.getElem?_range hi,Option.map_some,hD,List.map_map];congr 1;refine TP fun y hy=>?_;unfold MM;rw[qL hT hg (i+1) (by omega) hc (c5 y hy)];rfl
theorem qm (T:Tw):∀(us:List (List Nat)) (x:List Nat),(EI T us x).1.length=us.length
 |[],x=>rfl
 |u::us,x=>by rw[EI,Hl,Hl,qm T us]
theorem ANk (T:Tw)(hT:Wf T)(hs:Small T)(hg:AB.Good T)(W:World)(b o:Nat)(va:Value)(y:List Nat)(hP:BN Any W b o (AQ T))(ha:AL Any W va (ints y))(hn:NN va)(hy:El T y):
  Calls Tryz.prog 85 #[.pointer (some ⟨b,o,none⟩),va] W (Ja T.length (Ap T y) W):=
 (YX.oW T hT hs 0 (AU _) hg W b o va y hP ha hn hy).mono fun e w' h=>by
  obtain⟨z,⟨h1,h2⟩,h3⟩:=h;have hz:z=Ap T y:=fq hT hg hy h1 h2;rw[←hz];exact Ja.of h3 (AZ h1)
theorem ANl (T:Tw)(hT:Wf T)(hs:Small T)(hg:AB.Good T)(W:World)(b o:Nat)(va vc:Value)(x y:List Nat)(hP:BN Any W b o (AQ T))(ha:AL Any W va (ints x))(hn:NN va)(hb:AL Any W vc (ints y))(hnc:NN vc)(hx:El T x)(hy:El T y):
  Calls Tryz.prog 46 #[.pointer (some ⟨b,o,none⟩),va,vc] W (Ja T.length (Di T x y) W):=
 (YY.ng T hT hs 0 (AU _) hg W b o va vc x y hP ha hn hb hnc hx hy).mono fun e w' h=>by
  obtain⟨z,⟨h1,h2⟩,h3⟩:=h;have hz:z=Di T x y:=ALE hT hg hy hx h1 h2;rw[←hz];exact Ja.of h3 (AZ h1)
def AFE (T:Tw)(us:List (List Nat))(x:List Nat)(w:World)(e:Ending)(w':World):Prop:=
 ∃v bl,e= .returned (.tuple #[v,.bool bl])∧AL (fun k=>w.heap.size≤k) w' v (ints (EI T us x).1)∧Below w.heap.size w w'
structure XV (T:Tw)(us:List (List Nat))(x:List Nat)(k:Nat)(out y:List Nat):Prop where
 el:El T y
 len:out.length=k
 eq:EI T us x=(out++(EI T (us.drop k) y).1,(EI T (us.drop k) y).2)
theorem XV.step {T:Tw}(hT:Wf T)(hg:AB.Good T){us:List (List Nat)}{x out y u:List Nat}{k a:Nat}(h:XV T us x k out y)(hu:us[k]?=some u)(SL:El T u)(ha:fF (dep u) y=a):
  XV T us x (k+1) (out++[a]) (mul T (Ap T (npow (mul T) (AB.one T) u a)) y):=by
 have G:=BO hT hg;refine⟨C8 hT (FJ hT hg (G.npow SL a)).1 h.el,by simp[h.len],?_⟩;obtain⟨hk,e⟩:=Ag.1 hu;rw[h.eq,EX hk,e,EI,ha];simp
theorem AHY (T:Tw)(hT:Wf T)(hs:Small T)(hg:AB.Good T)(w:World)(b o:Nat)(vu vx:Value)(us:List (List Nat))(x:List Nat)(hP:BN Any w b o (AQ T))(hu:AP Any w vu (us.map ints))(KU:us.length≤6)(hL:∀u∈us,El T u∧dep u<T.length)(hx:AL Any w vx (ints x))(hE:El T x):
  Calls Tryz.prog 44 #[.pointer (some ⟨b,o,none⟩),vu,vx] w (AFE T us x w):=by
 obtain⟨i0,hi,hz0,hz1,hz2⟩:=Bt FX;have hs6:=hs.1;have HS:=hid hs;have HP:=hid hP;have HU:=hid hu;have HL:=hid hL;have Jr:=hid (o7 w vu us hu (by omega) (fun u hu=>by have h:=hL u hu;have:=AZ h.1;omega));have DY:=hid (fun W va y K hK hp ha hy=>jk T hT hs hg W b o va y K hK hp ha hy);have HIV:=hid (fun W va y hp ha hn hy=>ANk T hT hs hg W b o va y hp ha hn hy);have NL:=hid (fun W va vb x y hp ha hn hb hx hy=>AEz T hT hs hg W b o va vb x y hp ha hn hb hx hy);have En:=hid (fun x hx=>(FJ hT hg (x:=x) hx).1);have HG:=hid (BO hT hg);have HST:=hid (fun out y u k a h hu SL ha=>XV.step hT hg (us:=us) (x:=x) (out:=out) (y:=y) (u:=u) (k:=k) (a:=a) h hu SL ha);have HX:=hid hx;have HM0:=hid (show XV T us x 0 [] x from⟨hE,rfl,rfl⟩);obtain⟨aU,cU,rfl,_,_⟩:=Aq.form hu;rw[Bh]at HU Jr ⊢;obtain⟨m,hm⟩:∃m,us.length=m:=⟨_,rfl⟩;have HM:=hid hm;rw[hm]at KU HU Jr ⊢;clear hP hu hL hx hE hm hT hs hg;go_enter Tryz.func44,Tryz.ntmps44;go_wp2_with fail;refine Jr.out.mono ?_;rintro e w1 ⟨vp,rfl,hp1,hb1⟩;obtain⟨aP,cP,rfl,_⟩:=hp1.open;rw[Bh,HM.out]at hp1 ⊢;have NP:=hid (hp1.mono (S':=Any) (fun _ _=>trivial));have HB1:=hid hb1;have Qm:=hid (HP.out.keep (AA.of_below hb1));have HUw:=hid (AP.keep HU.out (AA.of_below hb1));have HXw:=hid (AL.keep HX.out (AA.of_below hb1));clear hp1 hb1 Jr HP HU HX;go_wp2_with fail;go_loopw [2,8,15] (fun xv ov iv wr=>∃(k:Nat) (out y:List Nat),k≤m∧iv= .int .i64 (k:Int)∧Hid (XV T us x k out y)∧Hid (Own w1.heap.size wr ov (ints out))∧Hid (AL (fun b=>some b≠ov.ownBlock) wr xv (ints y))∧Hid (Below w1.heap.size w1 wr)) (fun _ _ iv _=>m-(intOf iv).toNat);case atStart=>exact⟨0,[],x,AU _,rfl,HM0,hid (F7 _ _ _ _),hid (HXw.out.mono (fun b _ h=>by simp[Value.ownBlock]at h)),hid AX⟩
 case round=>
  obtain⟨k,out,y,hk,rfl,hM,hO,hY,hB⟩:=hrel;by_cases hlt:k<m
  ·obtain⟨u,hu⟩:∃u,us[k]?=some u:=⟨_,AO (by rw[HM.out];exact hlt)⟩;have KV:=HL.out u (Ak hu);have hyl:=AZ hM.out.el;obtain⟨d,hd⟩:∃d,dep u=d:=⟨_,rfl⟩;rw[hd]at KV;obtain⟨a,ha⟩:∃a,y[d]?=some a:=⟨_,AO (by rw[hyl];exact KV.2)⟩;have Zi:a≤7:=by
    obtain⟨L,hL,hlt'⟩:=LP hM.out.el ha;have:=HS.out.2 L (Ak hL);omega
   have hk1:=AA.of_below (S:=Any) hB.out;obtain⟨bP,oP,rfl,_,FE,hcP⟩:=AL.at (NP.out.keep hk1) (j:=k) (q:=d) (by rw[Bn,hu,←hd];rfl);obtain⟨aY,cY,rfl,_⟩:=AL.open hY.out;rw[hyl]at hY ⊢;obtain⟨bY,oY,rfl,_,hbY,bS⟩:=AL.at hY.out ha;have HUK:=hid hu;have EO:=hid KV.1;have FH:=hid (HST.out out y u k a hM.out hu KV.1 (by rw[hd];exact YH ha));have KO:=hid (show out.length=k from hM.out.len);have hdi:(d:Int)<(T.length:Int):=by have:=KV.2;omega
   have hd0:(0:Int)≤(d:Int):=by omega
   have hki:(k:Int)<(m:Int):=by omega
   have hd1:decide ((k:Int)<(m:Int))=true:=by simp;omega
   have Qn:=hid hlt;have h1:=Br (show wr.ownsRow w1.heap.size 2 1 _ k (vals (ints out)) from by have h:=hO.out;rw[Own,BL,hM.out.len]at h;exact h) (S:=Any) ((AA.refl _ wr).alloc (.cells #[.int .i64 (a:Int)] 2)) (fun _ _=>trivial);have hs0:=hB.out.size;clear hu KV hyl hd ha hk1 hO;go_wp2_with (at_builtin;(refine Fz _ rfl _ _ 24 rfl w1.heap.size 2 i0 (.int .i64 0) 1 8 Tryz.underlying24 hi hz0 hz1 hz2 rfl (by decide) _ _ _ rfl h1 ⟨wr.heap.size,0,none⟩ 1 1 [.int .i64 (a:Int)] rfl rfl ?c1 ?c2 ?c3 ?c4 ?c5 ?_));case c1=>
    intro j u hj
    match j,hj with
    |0,hj=>simp at hj;subst hj;simp[Addr.add]
   case c2=>intro u hu;simp at hu;subst hu;rfl
   case c3=>unfold maxLen;omega
   case c4=>omega
   case c5=>simp;omega
   intro v' w2 hown hgrow _;have HN:=hid (show Own w1.heap.size w2 v' (ints (out++[a])) from by
    rw[Own,BL,Cs,KO.out,show vals (ints (out++[a]))=vals (ints out)++[.int .i64 (a:Int)] by simp[vals,ints]];exact hown)
   have G6:=hid (show Below w1.heap.size w1 w2 from(hB.out.alloc hs0 _).grown hgrow (by simp;omega) (fun g hg=>(Af h1 g hg).1));have hY2:AL (fun _=>True) w2 (.slice (some ⟨bY,oY,none⟩) T.length cY) (ints y):=by
    have h1:AL (fun b=>some b≠Value.ownBlock u8∧b<wr.heap.size) (wr.alloc (.cells #[.int .i64 (a:Int)] 2)) _ _:=(Na hY.out).keep (AJ.alloc _);exact(h1.keep (AA.grown hgrow (fun k hk=>hk.1))).mono (fun _ _=>trivial)
   have U0:=hid hY2;have HVB:=hid (show∀k,v'.ownBlock=some k→k<w2.heap.size from fun k hk=>(Af hown k hk).2);have hk2:=AA.of_below (S:=Any) G6.out;obtain⟨bU,oU,q,rfl,_,EU,Db,hq⟩:=Aq.get (AP.keep HUw.out hk2) (k:=k) (x:=ints u) (by rw[Bn,HUK.out];rfl);have Dh:=hid (DY.out w2 q u a (by omega) (Qm.out.keep hk2) hq EO.out);clear hown hgrow h1 hB hY2 hk2 hq hcP bS hY;go_wp2_with fail;refine Dh.out.mono ?_;rintro e w3 ⟨g3,c3,rfl,ho3,hb3⟩;have HB3:=hid (G6.out.trans (hb3.mono G6.out.size));have U6:=hid (HG.out.npow EO.out a);have bu:=hid (HIV.out w3 _ _ (Qm.out.keep (AA.of_below HB3.out)) (ho3.sl.mono (fun _ _=>trivial)) (fun n c h=>by simp at h) U6.out);have U1:=hid (U0.out.keep (AA.of_below hb3));have Be:=hid hb3;clear ho3 hb3 Dh Db EU;go_wp2_with fail;refine bu.out.mono ?_;rintro e w4 ⟨g4,c4,rfl,Ey,hb4⟩;have U3:=En.out _ U6.out;have Bl:=hid (HB3.out.trans (hb4.mono HB3.out.size));have Kv:=hid U3;have SX:=hid (NL.out w4 _ _ _ _ (Qm.out.keep (AA.of_below Bl.out)) (Ey.sl.mono (fun _ _=>trivial)) (fun n c h=>by simp at h) (U1.out.keep (AA.of_below hb4)) U3 hM.out.el);have BF:=hid (Be.out.trans (hb4.mono Be.out.size));clear U3 Ey hb4 bu;go_wp2_with fail;refine SX.out.mono ?_;rintro e w5 ⟨g5,c5,rfl,Aw,hb5⟩;have Aa:=hid (Bl.out.trans (hb5.mono Bl.out.size));have HY5:=hid (Aw.sl.mono (S':=fun b=>some b≠v'.ownBlock) (fun b hb e=>by have:=HVB.out b e.symm;have:=BF.out.size;omega));have Ch:=hid (HN.out.of_below (BF.out.trans (hb5.mono BF.out.size)));clear Aw hb5 SX;go_wp2_with fail;go_roundw;case rel=>exact⟨k+1,out++[a],_,Qn.out,by go_num,FH,Ch,HY5,Aa⟩
   case measure=>have:=Qn.out;simp[intOf];omega
  ·obtain rfl:k=m:=by omega
   have hd1:decide ((k:Int)<(k:Int))=false:=by simp
   have HZC:=hid (oZ wr _ y (hY.out.mono (fun _ _=>trivial)) (by have:=AZ hM.out.el;omega));have y8:=hid (show(EI T us x).1=out from by
    rw[hM.out.eq,TJ (by rw[HM.out];exact Av _)];simp[EI])
   have HR:=hid (fun v (h:Own w1.heap.size wr v (ints out)) bl=>show AFE T us x w (.returned (.tuple #[v,.bool bl])) wr from⟨v,bl,rfl,by
    rw[y8.out];exact h.sl.mono (fun b hb=>Ad HB1.out.size hb),HB1.out.trans (hB.out.mono HB1.out.size)⟩)
   have HRR:=hid (HR.out _ hO.out);clear hO hY hB HR;go_wp2_with fail;refine HZC.out.mono ?_;rintro e w2 ⟨bl,rfl,_,rfl⟩;have HR3:=hid (HRR.out bl);clear HZC HRR;go_wp2_with fail;exact Aj (v:=.tuple #[u8,.bool bl]) (by simp[results,Tryz.results44,go_sem]) rfl HR3.out
end Go.Proofs.YtaadbccidfdniaaGreat.y7
namespace Go.Proofs.YtaadbccidfdniaaGreat.y9
open Go.RowKit Go.Proofs.YtaadbccidfdniaaGreat AB
open Go.Proofs.YtaadbccidfdniaaGreat.Dr (Any)
theorem ALn:(Tryz.prog.info? 5).map (fun i=>(i.zero,i.size,i.bytes))=some (some (.int .u8 0),1,1):=by kernel_rfl
def ANm (w:World)(e:Ending)(w':World):Prop:=∃s:ByteArray,e= .returned (.string s)∧s.size≤1000∧Below w.heap.size w w'
theorem AJB {w:World}{B:Nat}{v:Value}{xs:List Int}(h:w.ownsRow B 5 1 v xs.length (xs.map (Value.int .u8))):∃s:ByteArray,s.size≤xs.length∧(convert 22 9 v).run Tryz.prog w= .ok (.string s) w:=by
 rcases h.2 with⟨rfl,_⟩|⟨g,cap,cur,rfl,hb,hgg,hn,hm,hs,ht⟩
 ·exact⟨_,AU _,run_convert_bytes_nil w 22 5 Tryz.underlying22 Tryz.underlying5 0 0 9 Tryz.underlying9⟩
 ·refine⟨_,Nat.le_of_eq (by simp[strOfNums,ByteArray.size]),run_convert_bytes_arg w 22 5 Tryz.underlying22 Tryz.underlying5 g 0 xs.length cap xs rfl (fun i hi=>?_) 9 Tryz.underlying9⟩;rw[Cg,Ig h i (by omega)];simp[BV,AO hi]
theorem ACa (n:Nat)(hn:n≤6)(w:World)(vu:Value)(us:List (List Nat))(hu:AP Any w vu (us.map ints))(KU:us.length≤6)(hr:∀r∈us,r.length=n):
  Calls Tryz.prog 39 #[vu] w (ANm w):=by
 obtain⟨i1,hi1,hy0,hy1,hy2⟩:=Bt ALn;have HU:=hid hu;have HR:=hid hr;obtain⟨aU,cU,rfl,Db,_⟩:=Aq.form hu;rw[Bh]at HU Db ⊢;obtain⟨m,hm⟩:∃m,us.length=m:=⟨_,rfl⟩;have HM:=hid hm;rw[hm]at KU HU Db ⊢;clear hu hr hm;go_enter Tryz.func39,Tryz.ntmps39;go_wp2_with fail;go_loopw [3,10] (fun ov iv wr=>∃(i l:Nat) (xs:List Int),i≤m∧iv= .int .i64 (i:Int)∧l≤7*i∧Hid (xs.length=l)∧Hid (wr.ownsRow w.heap.size 5 1 ov l (xs.map (Value.int .u8)))∧Hid (Below w.heap.size w wr)) (fun _ iv _=>m-(intOf iv).toNat);case atStart=>exact⟨0,0,[],AU _,rfl,AU _,hid rfl,hid (F7 _ _ _ _),hid AX⟩
 case round=>
  obtain⟨i,l,xs,hi,rfl,hl,hX,hO,hB⟩:=hrel;by_cases hlt:i<m
  ·obtain⟨r,IX⟩:∃r,us[i]?=some r:=⟨_,AO (by rw[HM.out];exact hlt)⟩;obtain⟨bU,oU,q,rfl,_,EU,hcc,hq⟩:=Aq.get HU.out (k:=i) (x:=ints r) (by rw[Bn,IX];rfl);obtain⟨aR,cR,rfl,_⟩:=AL.open hq;rw[HR.out r (Ak IX)]at hq hcc;have HQ:=hid hq;have Zj:=hid (HR.out r (Ak IX));have Jg:=hid hlt;have A9:=hid hB.out;have hii:(i:Int)<(m:Int):=by omega
   have hi0:(0:Int)≤(i:Int):=by omega
   have hd1:decide ((i:Int)<(m:Int))=true:=by simp;omega
   have AFF:=((AA.of_below (S:=Any) hB.out).cell (b:=bU) (o:=oU+i) trivial EU).trans hcc;have AFG:bU<wr.heap.size:=Ai EU hB.out.size;clear IX hq hlt hcc EU;go_wp2_with fail;rename World=>wo;go_loopw [3,16] (fun ov jv wr=>∃(j l2:Nat) (xs:List Int),j≤n∧jv= .int .i64 (j:Int)∧l2≤l+j∧Hid (xs.length=l2)∧Hid (wr.ownsRow w.heap.size 5 1 ov l2 (xs.map (Value.int .u8)))∧Hid (Below w.heap.size w wr)) (fun _ jv _=>n-(intOf jv).toNat);case atStart=>exact⟨0,l,xs,AU _,rfl,by omega,hX,hO,hB⟩
   case round=>
    obtain⟨j,l2,ys,hj,rfl,hl2,hY,hO2,hB2⟩:=hrel;by_cases hjn:j<n
    ·obtain⟨a,ha⟩:∃a,r[j]?=some a:=⟨_,AO (by rw[Zj.out];exact hjn)⟩;obtain⟨bR,oR,rfl,_,hbR,hcR⟩:=AL.at (HQ.out.keep (AA.of_below hB2.out)) ha;have GJ:=hid hjn;have hji:(j:Int)<(n:Int):=by omega
     have hj0:(0:Int)≤(j:Int):=by omega
     have hd2:decide ((j:Int)<(n:Int))=true:=by simp;omega
     have hs0:=hB2.out.size;obtain⟨z,hz⟩:∃z,IntKind.u8.wrap (a:Int)=z:=⟨_,rfl⟩;have h1:=hO2.out.alloc (.cells #[.int .u8 z] 5);clear ha AFF AFG;go_wp2_with (at_builtin;(refine GQ _ rfl _ _ 22 rfl w.heap.size 5 i1 (.int .u8 0) 1 1 Tryz.underlying22 hi1 hy0 hy1 hy2 rfl (by decide) _ _ _ rfl h1 ⟨wr.heap.size,0,none⟩ 1 1 [.int .u8 z] rfl rfl ?c1 ?c2 (by decide) ?c3 ?c4 ?c5 _ rfl ?_));case c1=>
      intro j u hj
      match j,hj with
      |0,hj=>simp at hj;subst hj;simp[Addr.add]
     case c2=>intro u hu;simp at hu;subst hu;rfl
     case c3=>unfold maxLen;omega
     case c4=>omega
     case c5=>simp;omega
     intro g6 c6 w6 hown6 Ka Lc Ld;have zA:=hid (show(ys++[z]).length=l2+1 by simp[hY.out]);have FP:=hid (show w6.ownsRow w.heap.size 5 1 (.slice (some ⟨g6,0,none⟩) (l2+1) c6) (l2+1) ((ys++[z]).map (Value.int .u8)) by rw[Md];exact hown6);have Ar:=hid (show Below w.heap.size w w6 from(hB2.out.alloc hs0 _).grown Ka (by simp;omega) (fun g hg=>(Af h1 g hg).1));clear h1 hown6 Ka Lc Ld hz hO2 hB2;go_wp2_with fail;go_roundw;case rel=>exact⟨j+1,l2+1,_,GJ.out,by go_num,by omega,zA,FP,Ar⟩
     case measure=>have:=GJ.out;simp[intOf];omega
    ·obtain rfl:j=n:=by omega
     have hd2:decide ((j:Int)<(j:Int))=false:=by simp
     have hs0:=hB2.out.size;have h1:=hO2.out.alloc (.cells #[.int .u8 59] 5);clear AFF AFG;go_wp2_with (at_builtin;(refine GQ _ rfl _ _ 22 rfl w.heap.size 5 i1 (.int .u8 0) 1 1 Tryz.underlying22 hi1 hy0 hy1 hy2 rfl (by decide) _ _ _ rfl h1 ⟨wr.heap.size,0,none⟩ 1 1 [.int .u8 59] rfl rfl ?c1 ?c2 (by decide) ?c3 ?c4 ?c5 _ rfl ?_));case c1=>
      intro j u hj
      match j,hj with
      |0,hj=>simp at hj;subst hj;simp[Addr.add]
     case c2=>intro u hu;simp at hu;subst hu;rfl
     case c3=>unfold maxLen;omega
     case c4=>omega
     case c5=>simp;omega
     intro g6 c6 w6 hown6 Ka Lc Ld;have zA:=hid (show(ys++[59]).length=l2+1 by simp[hY.out]);have FP:=hid (show w6.ownsRow w.heap.size 5 1 (.slice (some ⟨g6,0,none⟩) (l2+1) c6) (l2+1) ((ys++[59]).map (Value.int .u8)) by rw[Md];exact hown6);have Ar:=hid (show Below w.heap.size w w6 from(hB2.out.alloc hs0 _).grown Ka (by simp;omega) (fun g hg=>(Af h1 g hg).1));clear h1 hown6 Ka Lc Ld hO2 hB2;go_wp2_with fail;go_roundw;case rel=>exact⟨i+1,l2+1,_,Jg.out,by go_num,by omega,zA,FP,Ar⟩
     case measure=>have:=Jg.out;simp[intOf];omega
  ·obtain rfl:i=m:=by omega
   have hd1:decide ((i:Int)<(i:Int))=false:=by simp
   obtain⟨s,hss,hs⟩:=AJB (show wr.ownsRow w.heap.size 5 1 _ xs.length (xs.map (Value.int .u8)) from by rw[hX.out];exact hO.out);have A9:=hid hB.out;have zB:=hid (show s.size≤1000 by have:=hX.out;omega);clear hO hB hX hss;go_wp2_with fail;go_ret;exact⟨s,rfl,zB.out,A9.out⟩
end Go.Proofs.YtaadbccidfdniaaGreat.y9
namespace Go.Proofs.YtaadbccidfdniaaGreat.PO
open Go.RowKit Go.Proofs.YtaadbccidfdniaaGreat AB Gen Cu Gt EZ CU FY Qj PM Ql U2 I9 ML y7
theorem TF:(Tryz.prog.info? 25).map (fun i=>(i.zero,i.size,i.bytes))=some (some (.slice none 0 0),1,24):=by kernel_rfl
theorem LK {w w':World}{B:Nat}{e:TypeId}{s n:Nat}{v:Value}{xs:List Value}(h:w.ownsRow B e s v n xs)(hk:∀k,v.ownBlock=some k→w'.heap[k]?=w.heap[k]?):w'.ownsRow B e s v n xs:=by
 refine⟨h.1,?_⟩;rcases h.2 with hn|⟨g,cap,cur,rfl,hb,hgg,rest⟩
 ·exact .inl hn
 ·exact .inr ⟨g,cap,cur,rfl,hb,by rw[hk g rfl];exact hgg,rest⟩
theorem own_ne {w:World}{B B':Nat}{e e':TypeId}{s s' n n':Nat}{v v':Value}{xs xs':List Value}(h:w.ownsRow B e s v n xs)(h':w.ownsRow B' e' s' v' n' xs')(he:e≠e')(k:Nat)(hk:v.ownBlock=some k):v'.ownBlock≠some k:=by
 intro hk';rcases h.2 with⟨rfl,_⟩|⟨g,cap,cur,rfl,hb,hgg,_⟩
 ·simp[Value.ownBlock]at hk
 ·rcases h'.2 with⟨rfl,_⟩|⟨g',cap',cur',rfl,hb',vJ,_⟩
  ·simp[Value.ownBlock]at hk'
  ·simp only[Value.ownBlock,Eg]at hk hk';subst hk;subst hk';rw[hgg]at vJ;simp only[Eg,Obj.cells.injEq]at vJ;exact he vJ.2.1
structure LD (W W2:World)(v v':Value):Prop where
 gr:W.grownBy W2 v.ownBlock
 bk:∀k,v'.ownBlock=some k→(v.ownBlock=some k∨W.heap.size≤k)∧k<W2.heap.size
theorem LD.keep {W W2:World}{v v':Value}(h:LD W W2 v v'):AA (fun k=>some k≠v.ownBlock) W W2:=AA.grown h.gr fun k hk=>hk
def Ex (B:Nat)(vO vP vC:Value):Nat→Prop:=fun k=>B≤k∧some k≠vO.ownBlock∧some k≠vP.ownBlock∧some k≠vC.ownBlock
def Fa {α:Type}(E:World→Value→α→Prop)(e:TypeId)(B:Nat)(W:World)(v:Value)(l:List α):Prop:=∃us:List Value,W.ownsRow B e 1 v l.length us∧us.length=l.length∧∀(i:Nat) (x:α) (u:Value),l[i]?=some x→us[i]?=some u→E W u x
theorem Fa.push {α:Type}{E E':World→Value→α→Prop}{e:TypeId}{B:Nat}{W W':World}{v' u:Value}{l:List α}{x:α}{us:List Value}(h2:us.length=l.length)(h3:∀(i:Nat) (x:α) (u:Value),l[i]?=some x→us[i]?=some u→E W u x)
  (hE:∀u x,E W u x→E' W' u x) (hu:E' W' u x) (ho:W'.ownsRow B e 1 v' (l.length+1) (us++[u])):Fa E' e B W' v' (l++[x]):=by
 refine⟨us++[u],by rw[Cs];exact ho,by simp[h2],fun i y q hy hq=>?_⟩;rcases CP i l.length with hi|hi
 ·rw[EA hi]at hy;rw[EA (by rw[h2];exact hi)]at hq;exact hE _ _ (h3 i y q hy hq)
 ·rw[D9 hi]at hy;rw[D9 (by rw[h2];exact hi),h2]at hq;cases hj:i-l.length with
  |zero=>rw[hj]at hy hq;simp at hy hq;subst hy;subst hq;exact hu
  |succ j=>rw[hj]at hy;simp at hy
theorem Fa.keep {α:Type}{E E':World→Value→α→Prop}{e:TypeId}{B:Nat}{W W':World}{v:Value}{l:List α}(h:Fa E e B W v l)(hk:∀k,v.ownBlock=some k→W'.heap[k]?=W.heap[k]?)(hE:∀u x,E W u x→E' W' u x):Fa E' e B W' v l:=by
 obtain⟨us,h1,h2,h3⟩:=h;exact⟨us,LK h1 hk,h2,fun i x u hx hu=>hE _ _ (h3 i x u hx hu)⟩
theorem Fa.nil {α:Type}{E:World→Value→α→Prop}{e:TypeId}{B:Nat}{W:World}:Fa E e B W (.slice none 0 0) []:=⟨[],F7 _ _ _ _,rfl,by simp⟩
theorem Fa.mh {α:Type}{E E':World→Value→α→Prop}{e:TypeId}{B:Nat}{W:World}{v:Value}{l:List α}(h:Fa E e B W v l)(hE:∀u x,E W u x→E' W u x):Aq E' (fun k=>B≤k) W v l:=by
 obtain⟨us,h1,h2,h3⟩:=h;rcases h1.2 with⟨rfl,h0⟩|⟨g,cap,cur,rfl,hb,hgg,hn,hm,hs,ht⟩
 ·obtain rfl:l=[]:=D8 h0;exact⟨none,0,rfl,Av _,AU _,fun _=>rfl,fun i x hx=>by simp at hx⟩
 ·refine⟨some ⟨g,0,none⟩,cap,rfl,hn,hm,by simp,fun i x hx=>?_⟩;have hi:=(Ag.1 hx).1;obtain⟨u,hu⟩:∃u,us[i]?=some u:=⟨_,AO (by omega)⟩;refine⟨g,0,rfl,hb,(Ba.1 hgg).1,u,?_,hE _ _ (h3 i x u hx hu)⟩;rw[Cg,Ig h1 i (by omega)];exact hu
structure PB (B:Nat)(W:World)(g:Nat)(vO vP vC:Value)(os:List Int)(ps:List (List Int))(cs:List (List (List Int))):Prop where
 hg:W.heap[g]?=some (.cells #[vO,vP,vC] 28)
 lt:g<B
 o:W.ownsRow B 2 1 vO os.length (vals os)
 p:Fa (fun W u x=>AL (Ex B vO vP vC) W u x) 24 B W vP ps
 c:Fa (fun W u x=>AP (Ex B vO vP vC) W u x) 25 B W vC cs
theorem YF {S:Nat→Prop}{w:World}{v:Value}{l:List (List Int)}(h:AP S w v l):AP (fun k=>S k∧k<w.heap.size) w v l:=by
 obtain⟨ao,c,h1,h2,h3,h0,h4⟩:=h;exact⟨ao,c,h1,h2,h3,h0,fun i x hx=>by obtain⟨b,o,e1,e2,e3,u,e4,e5⟩:=h4 i x hx;exact⟨b,o,e1,⟨e2,e3⟩,e3,u,e4,Na e5⟩⟩
theorem PB.below {B:Nat}{W W':World}{g:Nat}{vO vP vC:Value}{os:List Int}{ps:List (List Int)}{cs:List (List (List Int))}(h:PB B W g vO vP vC os ps cs)(hb:Below W.heap.size W W'):PB B W' g vO vP vC os ps cs:=by
 have hk:∀{e:TypeId} {n:Nat} {v:Value} {xs:List Value},W.ownsRow B e 1 v n xs→∀k,v.ownBlock=some k→W'.heap[k]?=W.heap[k]?:=fun h k hk=>hb.block k (Af h k hk).2;obtain⟨up,hp,_⟩:=h.p;obtain⟨uc,hc,_⟩:=h.c;exact⟨(hb.block g (Ba.1 h.hg).1).trans h.hg,h.lt,LK h.o (hk h.o),h.p.keep (hk hp) (fun u x e=>e.keep (AA.of_below hb)),h.c.keep (hk hc) (fun u x e=>AP.keep e (AA.of_below hb))⟩
theorem X8 {W:World}{g j k:Nat}{v:Value}(h:k≠g):(W.setCell ⟨g,j,none⟩ v).heap[k]?=W.heap[k]?:=Below.heap_setCell _ _ _ _ (fun e=>h (by simpa using e))
theorem PB.ALo {B:Nat}{W W2:World}{g:Nat}{vO Qo vP vC:Value}{os:List Int}{ps:List (List Int)}{cs:List (List (List Int))}(h:PB B W g vO vP vC os ps cs)(hG:LD W W2 vO Qo){a:Int}(ho:W2.ownsRow B 2 1 Qo (os.length+1) (vals os++[.int .i64 a])):
  PB B (W2.setCell ⟨g,0,none⟩ Qo) g Qo vP vC (os++[a]) ps cs:=by
 obtain⟨up,hp,hp2,hp3⟩:=h.p;obtain⟨uc,hc,hc2,hc3⟩:=h.c;have hgl:=(Ba.1 h.hg).1;have hlt:=h.lt;have hk:AA (fun k=>some k≠vO.ownBlock∧k≠g) W (W2.setCell ⟨g,0,none⟩ Qo):=(hG.keep.mono (fun k hk=>hk.1)).setCell (fun hk=>hk.2 rfl) _;have hE:∀k,Ex B vO vP vC k→k<W.heap.size→Ex B Qo vP vC k∧(some k≠vO.ownBlock∧k≠g):=fun k h1 h2=>⟨⟨h1.1,fun e=>by
  rcases(hG.bk k e.symm).1 with h3|h3
  ·exact h1.2.1 h3.symm
  ·omega,h1.2.2⟩,h1.2.1,by have:=h1.1;omega⟩
 have bz:vO.ownBlock≠some g:=fun e=>by have:=(Af h.o g e).1;omega
 have ho':W2.ownsRow B 2 1 Qo (os++[a]).length (vals (os++[a])):=by rw[Cs,show vals (os++[a])=vals os++[.int .i64 a] by simp[vals]];exact ho
 refine⟨?_,hlt,LK ho' (fun k hk=>X8 (by have:=(Af ho k hk).1;omega)),h.p.keep (fun k hk'=>?_) (fun u x e=>?_),h.c.keep (fun k hk'=>?_) (fun u x e=>?_)⟩
 ·have h2:W2.heap[g]?=some (.cells #[vO,vP,vC] 28):=(hG.gr.block g hgl (fun e=>bz e.symm)).trans h.hg;rw[GV _ _ _ _ _ _ h2];rfl
 ·have hl:=Af hp k hk';exact hk.block k ⟨fun e=>own_ne hp h.o (by decide) k hk' e.symm,by omega⟩ hl.2
 ·exact((Na e).keep (hk.mono (fun k hk=>(hE k hk.1 hk.2).2))).mono (fun k hk=>(hE k hk.1 hk.2).1)
 ·have hl:=Af hc k hk';exact hk.block k ⟨fun e=>own_ne hc h.o (by decide) k hk' e.symm,by omega⟩ hl.2
 ·exact AP.mono (AP.keep (YF e) (hk.mono (fun k hk=>(hE k hk.1 hk.2).2))) (fun k hk=>(hE k hk.1 hk.2).1)
theorem PB.ALp {B:Nat}{W W2:World}{g:Nat}{vO vP PR vC u:Value}{us:List Value}{os:List Int}{ps:List (List Int)}{cs:List (List (List Int))}{x:List Int}(h:PB B W g vO vP vC os ps cs)(hG:LD W W2 vP PR)
  (ES:us.length=ps.length) (hr:∀(i:Nat) (x:List Int) (u:Value),ps[i]?=some x→us[i]?=some u→AL (Ex B vO vP vC) W u x) (hu:AL (Ex B vO vP vC) W u x) (ho:W2.ownsRow B 24 1 PR (ps.length+1) (us++[u])):
  PB B (W2.setCell ⟨g,1,none⟩ PR) g vO PR vC os (ps++[x]) cs:=by
 obtain⟨up,hp,hp2,hp3⟩:=h.p;obtain⟨uc,hc,hc2,hc3⟩:=h.c;have hgl:=(Ba.1 h.hg).1;have hlt:=h.lt;have hk:AA (fun k=>some k≠vP.ownBlock∧k≠g) W (W2.setCell ⟨g,1,none⟩ PR):=(hG.keep.mono (fun k hk=>hk.1)).setCell (fun hk=>hk.2 rfl) _;have hE:∀k,Ex B vO vP vC k→k<W.heap.size→Ex B vO PR vC k∧(some k≠vP.ownBlock∧k≠g):=fun k h1 h2=>⟨⟨h1.1,h1.2.1,fun e=>by
  rcases(hG.bk k e.symm).1 with h3|h3
  ·exact h1.2.2.1 h3.symm
  ·omega,h1.2.2.2⟩,h1.2.2.1,by have:=h1.1;omega⟩
 have bz:vP.ownBlock≠some g:=fun e=>by have:=(Af hp g e).1;omega
 have hrd:∀u x,AL (Ex B vO vP vC) W u x→AL (Ex B vO PR vC) (W2.setCell ⟨g,1,none⟩ PR) u x:=fun u x e=>((Na e).keep (hk.mono (fun k hk=>(hE k hk.1 hk.2).2))).mono (fun k hk=>(hE k hk.1 hk.2).1);refine⟨?_,hlt,LK h.o (fun k hk'=>?_),Fa.push ES hr hrd (hrd _ _ hu) (LK ho (fun k hk=>X8 (by have:=(Af ho k hk).1;omega))),h.c.keep (fun k hk'=>?_) (fun u x e=>?_)⟩
 ·have h2:W2.heap[g]?=some (.cells #[vO,vP,vC] 28):=(hG.gr.block g hgl (fun e=>bz e.symm)).trans h.hg;rw[GV _ _ _ _ _ _ h2];rfl
 ·have hl:=Af h.o k hk';exact hk.block k ⟨fun e=>own_ne h.o hp (by decide) k hk' e.symm,by omega⟩ hl.2
 ·have hl:=Af hc k hk';exact hk.block k ⟨fun e=>own_ne hc hp (by decide) k hk' e.symm,by omega⟩ hl.2
 ·exact AP.mono (AP.keep (YF e) (hk.mono (fun k hk=>(hE k hk.1 hk.2).2))) (fun k hk=>(hE k hk.1 hk.2).1)
theorem PB.ALq {B:Nat}{W W2:World}{g:Nat}{vO vP vC PS u:Value}{us:List Value}{os:List Int}{ps:List (List Int)}{cs:List (List (List Int))}{x:List (List Int)}(h:PB B W g vO vP vC os ps cs)(hG:LD W W2 vC PS)
  (ES:us.length=cs.length) (hr:∀(i:Nat) (x:List (List Int)) (u:Value),cs[i]?=some x→us[i]?=some u→AP (Ex B vO vP vC) W u x) (hu:AP (Ex B vO vP vC) W u x) (ho:W2.ownsRow B 25 1 PS (cs.length+1) (us++[u])):
  PB B (W2.setCell ⟨g,2,none⟩ PS) g vO vP PS os ps (cs++[x]):=by
 obtain⟨up,hp,hp2,hp3⟩:=h.p;obtain⟨uc,hc,hc2,hc3⟩:=h.c;have hgl:=(Ba.1 h.hg).1;have hlt:=h.lt;have hk:AA (fun k=>some k≠vC.ownBlock∧k≠g) W (W2.setCell ⟨g,2,none⟩ PS):=(hG.keep.mono (fun k hk=>hk.1)).setCell (fun hk=>hk.2 rfl) _;have hE:∀k,Ex B vO vP vC k→k<W.heap.size→Ex B vO vP PS k∧(some k≠vC.ownBlock∧k≠g):=fun k h1 h2=>⟨⟨h1.1,h1.2.1,h1.2.2.1,fun e=>by
  rcases(hG.bk k e.symm).1 with h3|h3
  ·exact h1.2.2.2 h3.symm
  ·omega⟩,h1.2.2.2,by have:=h1.1;omega⟩
 have bz:vC.ownBlock≠some g:=fun e=>by have:=(Af hc g e).1;omega
 have hrd:∀u x,AP (Ex B vO vP vC) W u x→AP (Ex B vO vP PS) (W2.setCell ⟨g,2,none⟩ PS) u x:=fun u x e=>AP.mono (AP.keep (YF e) (hk.mono (fun k hk=>(hE k hk.1 hk.2).2))) (fun k hk=>(hE k hk.1 hk.2).1);refine⟨?_,hlt,LK h.o (fun k hk'=>?_),h.p.keep (fun k hk'=>?_) (fun u x e=>?_),Fa.push ES hr hrd (hrd _ _ hu) (LK ho (fun k hk=>X8 (by have:=(Af ho k hk).1;omega)))⟩
 ·have h2:W2.heap[g]?=some (.cells #[vO,vP,vC] 28):=(hG.gr.block g hgl (fun e=>bz e.symm)).trans h.hg;rw[GV _ _ _ _ _ _ h2];rfl
 ·have hl:=Af h.o k hk';exact hk.block k ⟨fun e=>own_ne h.o hc (by decide) k hk' e.symm,by omega⟩ hl.2
 ·have hl:=Af hp k hk';exact hk.block k ⟨fun e=>own_ne hp hc (by decide) k hk' e.symm,by omega⟩ hl.2
 ·exact((Na e).keep (hk.mono (fun k hk=>(hE k hk.1 hk.2).2))).mono (fun k hk=>(hE k hk.1 hk.2).1)
theorem PB.val {B:Nat}{W:World}{g:Nat}{vO vP vC:Value}{os:List Int}{ps:List (List Int)}{cs:List (List (List Int))}(h:PB B W g vO vP vC os ps cs):BC (fun k=>B≤k) W vO vP vC ⟨os,ps,cs⟩:=
 ⟨Own.sl (show Own B W vO os from h.o),h.p.mh (fun u x e=>e.mono (fun k hk=>hk.1)),h.c.mh (fun u x e=>AP.mono e (fun k hk=>hk.1))⟩
theorem PB.start {B:Nat}{W:World}{g:Nat}(hg:W.heap[g]?=some (.cells #[.slice none 0 0,.slice none 0 0,.slice none 0 0] 28))(lt:g<B):PB B W g (.slice none 0 0) (.slice none 0 0) (.slice none 0 0) [] [] []:=
 ⟨hg,lt,F7 _ _ _ _,Fa.nil,Fa.nil⟩
theorem PB.cell {B:Nat}{W:World}{g:Nat}{vO vP vC:Value}{os:List Int}{ps:List (List Int)}{cs:List (List (List Int))}(h:PB B W g vO vP vC os ps cs):W.cell? ⟨g,0,none⟩=some vO∧W.cell? ⟨g,1,none⟩=some vP∧W.cell? ⟨g,2,none⟩=some vC∧g<W.heap.size∧(∀o,W.frozen? ⟨g,o,none⟩=false):=by
 refine⟨?_,?_,?_,(Ba.1 h.hg).1,fun o=>by simp[World.frozen?,h.hg]⟩<;>(rw[Ah _ _ _ _ _ (0,0) h.hg];rfl)
theorem PB.grown {B:Nat}{W W2:World}{g:Nat}{vO vP vC vX vX':Value}{os:List Int}{ps:List (List Int)}{cs:List (List (List Int))}(h:PB B W g vO vP vC os ps cs)(hG:LD W W2 vX vX')(hX:∀k,vX.ownBlock=some k→B≤k):
  W2.cell? ⟨g,0,none⟩=some vO∧W2.cell? ⟨g,1,none⟩=some vP∧W2.cell? ⟨g,2,none⟩=some vC∧g<W2.heap.size∧(∀o,W2.frozen? ⟨g,o,none⟩=false):=by
 have h2:W2.heap[g]?=some (.cells #[vO,vP,vC] 28):=(hG.gr.block g (Ba.1 h.hg).1 (fun e=>by have:=hX g e.symm;have:=h.lt;omega)).trans h.hg;refine⟨?_,?_,?_,(Ba.1 h2).1,fun o=>by simp[World.frozen?,h2]⟩<;>(rw[Ah _ _ _ _ _ (0,0) h2];rfl)
theorem Aq.dropped {α:Type}{E:World→Value→α→Prop}{S:Nat→Prop}{w:World}{b o n c:Nat}{l:List α}(h:Aq E S w (.slice (some ⟨b,o,none⟩) n c) l){k:Nat}(hk:k≤l.length):
  Aq E S w (.slice (some ⟨b,o+k,none⟩) (n-k) (c-k)) (l.drop k)∧(c=k→∀o',Aq E S w (.slice (some ⟨b,o',none⟩) (n-k) (c-k)) (l.drop k)):=by
 obtain⟨ao,c',e,h1,h2,h3,h4⟩:=h;simp only[EY]at e;obtain⟨rfl,rfl,rfl⟩:=e;refine⟨⟨_,_,by rw[Cx],by rw[Cx];omega,by omega,by simp,fun i x hx=>?_⟩,fun hc o'=>⟨_,_,by rw[Cx],by rw[Cx];omega,by omega,by simp,fun i x hx=>?_⟩⟩
 ·rw[Ho]at hx;obtain⟨b',o2,e1,e2,e3,u,e4,e5⟩:=h4 _ x hx;simp only[Eg,Kj,and_true]at e1;obtain⟨rfl,rfl⟩:=e1;exact⟨b,o+k,rfl,e2,e3,u,by rw[Nat.add_assoc];exact e4,e5⟩
 ·have hi:=(Ag.1 hx).1;rw[Cx]at hi;omega
end Go.Proofs.YtaadbccidfdniaaGreat.PO
namespace Go.Proofs.YtaadbccidfdniaaGreat.mo
open Go.RowKit Go.Proofs.YtaadbccidfdniaaGreat AB Gen Cu Gt EZ CU FY Qj PM Ql U2 I9 ML y7 PO
def P9 (T:Tw)(us:List (List Nat))(w:World)(e:Ending)(w':World):Prop:=∃vO vP vC,e= .returned (.agg #[vO,vP,vC])∧BC (fun k=>w.heap.size≤k) w' vO vP vC (AQ (Ac T us))∧Below w.heap.size w w'
def Qp (T:Tw)(us:List (List Nat))(i:Nat):List Int:=(us.take i).map fun u=>(oF T (dep u):Int)
noncomputable def Qq (T:Tw)(us:List (List Nat))(i:Nat):List (List Int):=(us.take i).map fun u=>ints (SV T us u)
noncomputable def SY (T:Tw)(us:List (List Nat))(i:Nat):List (List (List Int)):=(List.range i).map fun j=>(us.drop (j+1)).map fun y=>ints (MM T us (us.getD j []) y)
theorem AJC {T:Tw}{us:List (List Nat)}{i:Nat}{u:List Nat}(h:us[i]?=some u):Qp T us (i+1)=Qp T us i++[(oF T (dep u):Int)]:=by unfold Qp;rw[IJ,h];simp
theorem AJD {T:Tw}{us:List (List Nat)}{i:Nat}{u:List Nat}(h:us[i]?=some u):Qq T us (i+1)=Qq T us i++[ints (SV T us u)]:=by unfold Qq;rw[IJ,h];simp
theorem AJE {T:Tw}{us:List (List Nat)}{i:Nat}{u:List Nat}(h:us[i]?=some u):SY T us (i+1)=SY T us i++[(us.drop (i+1)).map fun y=>ints (MM T us u y)]:=by
 unfold SY;rw[Pw,Md,GZ,Ng,BV,h];rfl
theorem AKO {T:Tw}{us:List (List Nat)}{i:Nat}(h:i≤us.length):(Qp T us i).length=i:=by unfold Qp;simp;omega
theorem AKP {T:Tw}{us:List (List Nat)}{i:Nat}(h:i≤us.length):(Qq T us i).length=i:=by unfold Qq;simp;omega
theorem AKQ {T:Tw}{us:List (List Nat)}{i:Nat}:(SY T us i).length=i:=by unfold SY;simp
theorem ALr {T:Tw}(hT:Wf T)(hg:AB.Good T){us:List (List Nat)}(hc:JC T us):(⟨Qp T us us.length,Qq T us us.length,SY T us us.length⟩:Bu)=AQ (Ac T us):=by
 rw[AJA hT hg hc,Qp,Qq,SY,KC]
theorem YO {B n:Nat}{e:TypeId}{W W1 W2:World}{v:Value}{g cap:Nat}{xs:List Value}(hb:Below W.heap.size W W1)(hg:W1.grownBy W2 v.ownBlock)(hat:v.ownBlock=some g∨g=W1.heap.size)(hlt:g<W2.heap.size):LD W W2 v (.slice (some ⟨g,0,none⟩) n cap):=by
 refine⟨Gp.JJ (Gp.Xo hb) hg,fun k hk=>?_⟩;simp only[Value.ownBlock,Eg]at hk;subst hk;refine⟨hat.imp id fun h=>?_,hlt⟩;have:=hb.size;omega
theorem ABr (T:Tw)(hT:Wf T)(hs:Small T)(hg:AB.Good T)(w:World)(b o:Nat)(vu:Value)(us:List (List Nat))(hP:BN Any w b o (AQ T))(hu:AP Any w vu (us.map ints))(KU:us.length≤6)(hc:JC T us):
  Calls Tryz.prog 20 #[.pointer (some ⟨b,o,none⟩),vu] w (P9 T us w):=by
 obtain⟨i1,hi1,hy0,hy1,hy2⟩:=Bt FX;obtain⟨i2,hi2,hy3,hy4,hy5⟩:=Bt Ie;obtain⟨i3,hi3,zC,Wn,zD⟩:=Bt TF;have hs6:=hs.1;have HS:=hid hs;have HP:=hid hP;have HU:=hid hu;have HL:=hid (TG hc);have HC:=hid hc;have Jr:=hid (fun W h=>o7 W vu us h (by omega) (fun u hu=>by have h:=TG hc u hu;have:=AZ h.1;omega));have DY:=hid (fun W va y K hK hp ha hy=>jk T hT hs hg W b o va y K hK hp ha hy);have IY:=hid (fun W vx x hp hu hx hE=>AHY T hT hs hg W b o vu vx us x hp hu KU (TG hc) hx hE);have Zq:=hid (fun W va vc x y hP ha hn hb hnc hx hy=>ANl T hT hs hg W b o va vc x y hP ha hn hb hnc hx hy);have Lr:=hid (fun a u hu ha=>YN hT hg (u:=u) (a:=a) hu ha);have HG:=hid (BO hT hg);have AFH:=hid (ALr hT hg hc);obtain⟨aU,cU,rfl,Db,_⟩:=Aq.form hu;rw[Bh]at HU Jr IY Db ⊢;obtain⟨m,hm⟩:∃m,us.length=m:=⟨_,rfl⟩;have HM:=hid hm;rw[hm]at KU HU Jr IY Db AFH ⊢;clear hP hu hc hm hT hs hg;go_enter Tryz.func20,Tryz.ntmps20;go_upto_region 2 with fail;obtain⟨W0,hW0⟩:∃W0,W0=(w.alloc (.cells #[.slice none 0 0,.slice none 0 0,.slice none 0 0] 28)).alloc (.cells #[.slice none 0 0,.slice none 0 0,.slice none 0 0] 28):=⟨_,rfl⟩;have hB0:Below (w.heap.size+2) ((w.alloc (.cells #[.slice none 0 0,.slice none 0 0,.slice none 0 0] 28)).alloc (.cells #[.slice none 0 0,.slice none 0 0,.slice none 0 0] 28)) W0:=by rw[hW0];exact A7 _ _
 have hs0:W0.heap.size=w.heap.size+2:=by rw[hW0];simp
 have hg1:W0.heap[w.heap.size+1]?=some (.cells #[.slice none 0 0,.slice none 0 0,.slice none 0 0] 28):=by
  rw[hW0];have h:=BA (w.alloc (.cells #[.slice none 0 0,.slice none 0 0,.slice none 0 0] 28)) (.cells #[.slice none 0 0,.slice none 0 0,.slice none 0 0] 28);rw[show(w.alloc (.cells #[.slice none 0 0,.slice none 0 0,.slice none 0 0] 28)).heap.size=w.heap.size+1 by simp]at h;exact h
 have hg0:W0.heap[w.heap.size]?=some (.cells #[.slice none 0 0,.slice none 0 0,.slice none 0 0] 28):=by
  rw[hW0,KD _ _ (by simp)];exact BA w _
 have HW0:=hid (show Below w.heap.size w W0 by rw[hW0];exact(AX.alloc AR _).alloc (by simp) _);have Jj:=hid hg0;have Eb:=hid hg1;rw[←hW0];clear hW0 hB0 hg1 hg0;have Dh:=hid (Jr.out W0 (AP.keep HU.out (AA.of_below HW0.out)));clear Jr;go_wp2_with fail;refine Dh.out.mono ?_;rintro e w1 ⟨vp,rfl,hp1,hb1⟩;obtain⟨aP,cP,rfl,_⟩:=hp1.open;rw[Bh,HM.out]at hp1 ⊢;have HW1:=hid (HW0.out.trans (hb1.mono (show w.heap.size≤W0.heap.size by omega)));have hsB:w.heap.size+2≤w1.heap.size:=Ad (Nat.le_of_eq hs0.symm) hb1.size;obtain⟨B,PL⟩:∃B,B=w1.heap.size:=⟨_,rfl⟩;rw[←PL]at hsB;have HPI:=hid (show AL (fun k=>k<B∧k≠w.heap.size+1) w1 (.slice aP m cP) (ints (us.map dep)) from(Na hp1).mono (fun k hk=>⟨by rw[PL];exact hk.2,by have:=hk.1;omega⟩));have ANn:=hid ((hb1.block w.heap.size (by omega)).trans Jj.out);have AFI:=hid (PB.start (B:=B) (W:=w1) ((hb1.block _ (by omega)).trans Eb.out) (show w.heap.size+1<B by omega));have cZ:=hid PL;clear hp1 hb1 Dh Eb hs0 PL;go_wp2_with fail;go_loopw [22] (fun iv wr=>∃(i:Nat) (vO vP vC:Value),i≤m∧iv= .int .i64 (i:Int)∧Hid (PB B wr (w.heap.size+1) vO vP vC (Qp T us i) (Qq T us i) (SY T us i))∧Hid (Below (w.heap.size+1) w1 wr)∧Hid (AA (fun k=>k<B∧k≠w.heap.size+1) w1 wr)) (fun iv _=>m-(intOf iv).toNat);case atStart=>exact⟨0,_,_,_,AU _,rfl,AFI,hid AX,hid AJ⟩
 case round=>
  obtain⟨i,vO,vP,vC,hi,rfl,cz,hB,hK⟩:=hrel;have A9:=hid (show Below w.heap.size w wr from HW1.out.trans (hB.out.mono (by omega)));have OG:B≤wr.heap.size:=by have:=cZ.out;have:=hB.out.size;omega
  clear AFI;by_cases hlt:i<m
  ·obtain⟨u,hu⟩:∃u,us[i]?=some u:=⟨_,AO (by rw[HM.out];exact hlt)⟩;have KV:=HL.out u (Ak hu);obtain⟨d,hd⟩:∃d,dep u=d:=⟨_,rfl⟩;rw[hd]at KV;obtain⟨L,hL⟩:∃L,T[d]?=some L:=⟨_,AO KV.2⟩;have hL7:L.o≤7:=HS.out.2 L (Ak hL);have hk1:=AA.of_below (S:=Any) A9.out;obtain⟨bP,oP,rfl,_,FE,hcP⟩:=AL.at (HPI.out.keep hK.out) (j:=i) (q:=d) (by rw[Bn,hu,←hd];rfl);obtain⟨bU,oU,q,rfl,_,EU,AFJ,hq⟩:=Aq.get HU.out (k:=i) (x:=ints u) (by rw[Bn,hu];rfl);have WR:=(hk1.cell (b:=bU) (o:=oU+i) trivial EU).trans AFJ;have vD:bU<wr.heap.size:=Ai EU A9.out.size;clear AFJ;obtain⟨aQ,cQ,rfl,_⟩:=AL.open hq;rw[AZ KV.1]at hq WR;obtain⟨bQ,oQ,rfl,-, -, -⟩:=AL.at hq (j:=d) (q:=u[d]'(by rw[AZ KV.1];exact KV.2)) (AO _);obtain⟨-, hPb,pO,pP,pC,p0,p1,p2,hv⟩:=HP.out.keep hk1;obtain⟨aO,cO,NS,NT,aC,cC,rfl,rfl,rfl,-, -, -⟩:=hv.open;obtain⟨bO,oO,rfl,-, CQ,BS⟩:=hv.ord hL;have HQ:=hid hq;have EO:=hid KV.1;have MK:=hid hu;have Gh:=hid (show(oF T (dep u):Int)=(L.o:Int) by rw[hd,J7 hL]);have HON:=hid (show oF T (dep u)=L.o by rw[hd,J7 hL]);have hdi:(d:Int)<(T.length:Int):=by have:=KV.2;omega
   have hd0:(0:Int)≤(d:Int):=by omega
   have hii:(i:Int)<(m:Int):=by omega
   have hi0:(0:Int)≤(i:Int):=by omega
   have hd1:decide ((i:Int)<(m:Int))=true:=by simp;omega
   have Qn:=hid hlt;clear hu KV hd hL hk1 hq hv p1 p2 hlt;go_upto_region 6 with fail;go_quiet (fail);obtain⟨w5,Ce⟩:∃w5,w5=wr.drewN nq:=⟨_,rfl⟩;rw[←Ce];have hb5:Below wr.heap.size wr w5:=by rw[Ce];exact Dk AX _
   have jq:=cz.out.below hb5;have Aa:=hid (hB.out.trans (hb5.mono (show w.heap.size+1≤wr.heap.size by omega)));have Rq:=hid (hK.out.trans (AA.below hb5 (fun k _ h=>h)));have hs5:B≤w5.heap.size:=Ad OG hb5.size;have vK:=hid jq;have KO:=hid (show(Qp T us i).length=i from AKO (by rw[HM.out];exact hi));obtain⟨x0,-, -, hgl,hfz⟩:=jq.cell;have Aw:=jq.o;rw[KO.out]at Aw;clear Ce hb5 cz hB hK jq hcP WR BS p0 hPb FE EU vD CQ;have h1:=Aw.alloc (.cells #[.int .i64 (L.o:Int)] 2);have x1:(w5.alloc (.cells #[.int .i64 (L.o:Int)] 2)).cell? ⟨w.heap.size+1,0,none⟩=some vO:=(((AA.refl Any w5).alloc _).cell (b:=w.heap.size+1) trivial hgl).trans x0;go_wp2_with (at_builtin;(refine GQ _ rfl _ _ 24 rfl B 2 i1 (.int .i64 0) 1 8 Tryz.underlying24 hi1 hy0 hy1 hy2 rfl (by decide) _ _ _ rfl h1 ⟨w5.heap.size,0,none⟩ 1 1 [.int .i64 (L.o:Int)] rfl rfl ?c1 ?c2 (by decide) ?c3 ?c4 ?c5 _ rfl ?_));case c1=>
    intro j u hj
    match j,hj with
    |0,hj=>simp at hj;subst hj;simp[Addr.add]
   case c2=>intro u hu;simp at hu;subst hu;rfl
   case c3=>unfold maxLen;omega
   case c4=>omega
   case c5=>simp;omega
   intro g6 c6 w6 hown6 Ka Lc Ld;have dA:LD w5 w6 vO (.slice (some ⟨g6,0,none⟩) (i+1) c6):=YO (B:=0) (e:=0) (xs:=[]) (AX.alloc AR _) Ka (by simpa using Lc) Ld;have vL:=hid (vK.out.ALo (W2:=w6) (a:=(L.o:Int)) dA (by rw[KO.out];exact hown6));have ANo:w5.heap.size≤w6.heap.size:=dA.gr.size;have Ar:=hid (show Below (w.heap.size+1) w5 (w6.setCell ⟨w.heap.size+1,0,none⟩ (.slice (some ⟨g6,0,none⟩) (i+1) c6)) from
    ((((A7 (w.heap.size+1) w5).alloc (by omega) _).grown Ka (by simp;omega) (fun g hg=>by have:=(Af Aw g hg).1;omega)).setCell AR _))
   obtain⟨x6,-, -, CX,hf6⟩:=vK.out.grown dA (fun k hk=>(Af Aw k hk).1);have f6:=hf6 0;have dB:=hid (show AA (fun k=>k<B∧k≠w.heap.size+1) w5 (w6.setCell ⟨w.heap.size+1,0,none⟩ (.slice (some ⟨g6,0,none⟩) (i+1) c6)) from(dA.keep.mono (fun k hk e=>by have:=(Af Aw k e.symm).1;have:=hk.1;omega)).setCell (fun h=>h.2 rfl) _);have mV:=hid (AJC (T:=T) MK.out);clear x1 h1 Aw x0 hgl hfz hown6 Ka Lc Ld dA hf6;go_upto_region 8 with fail;obtain⟨w7,hw7⟩:∃w7,w7=w6.setCell ⟨w.heap.size+1,0,none⟩ (.slice (some ⟨g6,0,none⟩) (i+1) c6):=⟨_,rfl⟩;rw[←hw7];rw[←hw7]at vL Ar dB;rw[←Gh.out,←mV.out]at vL;have ZF:=hid vL.out;have BB:=hid (Aa.out.trans (Ar.out.mono (by omega)));have hs7:B≤w7.heap.size:=by have:=Ar.out.size;omega
   have dD:=hid (show Below w.heap.size w w7 from HW1.out.trans (BB.out.mono (by omega)));have HK7:=hid (Rq.out.trans dB.out);have Dh:=hid (DY.out w7 (.slice (some ⟨bQ,oQ,none⟩) T.length cQ) u L.o (by omega) (HP.out.keep (AA.of_below dD.out)) (HQ.out.keep (AA.of_below dD.out)) EO.out);clear hw7 Aa Ar Rq dB vK mV Gh x6 CX f6 ANo hs5;go_wp2_with fail;refine Dh.out.mono ?_;rintro e w8 ⟨g8,c8,rfl,FI,CJ⟩;have zF:=hid (dD.out.trans (CJ.mono dD.out.size));have U6:=hid (HG.out.npow EO.out L.o);have SX:=hid (IY.out w8 (.slice (some ⟨g8,0,none⟩) T.length c8) _ (HP.out.keep (AA.of_below zF.out)) (AP.keep HU.out (AA.of_below zF.out)) (FI.sl.mono (fun _ _=>trivial)) U6.out);have Cb:=hid CJ;clear FI CJ Dh;go_wp2_with fail;refine SX.out.mono ?_;rintro e w9 ⟨v9,bl9,rfl,h9,EG⟩;obtain⟨a9,c9,rfl,_⟩:=AL.open h9;rw[qm,HM.out]at h9 ⊢;have Ra:=Cb.out.trans (EG.mono Cb.out.size);have jr:=ZF.out.below Ra;have vM:=hid jr;have HR9:=hid (show AL (Ex B (.slice (some ⟨g6,0,none⟩) (i+1) c6) vP vC) w9 (.slice a9 m c9) (ints (SV T us u)) from by
    have e1:ints (SV T us u)=ints (EI T us (npow (mul T) (AB.one T) u L.o)).1:=by unfold SV;rw[HON.out]
    rw[e1];obtain⟨_,hp,_⟩:=ZF.out.p;obtain⟨_,hc,_⟩:=ZF.out.c;have h8:=Cb.out.size;exact h9.mono (fun k hk=>⟨by omega,fun e=>by have:=(Af ZF.out.o k e.symm).2;omega,fun e=>by have:=(Af hp k e.symm).2;omega,fun e=>by have:=(Af hc k e.symm).2;omega⟩))
   have Gy:=hid (BB.out.trans (Ra.mono (show w.heap.size+1≤w7.heap.size by omega)));have mH:=hid (HK7.out.trans (AA.below Ra (fun k _ h=>h)));have MB:B≤w9.heap.size:=Ad hs7 Ra.size;have H8:=hid (show(Qq T us i).length=i from AKP (by rw[HM.out];exact hi));obtain⟨-, x9,-, dF,zG⟩:=jr.cell;obtain⟨us9,MN,ZG,ZH⟩:=jr.p;rw[H8.out]at MN;have XW:=hid (And.intro ZG ZH);have h1:=MN.alloc (.cells #[.slice a9 m c9] 24);have zH:(w9.alloc (.cells #[.slice a9 m c9] 24)).cell? ⟨w.heap.size+1,1,none⟩=some vP:=(((AA.refl Any w9).alloc _).cell (b:=w.heap.size+1) trivial dF).trans x9;have dG:=hid (show(Value.slice a9 m c9).oneCell'=true from rfl);clear h9 EG Ra SX jr ZF BB HK7 dD hs7 ZG ZH;go_upto_region 9 with fail;go_wp2_with (at_builtin;(refine GQ _ rfl _ _ 25 rfl B 24 i2 (.slice none 0 0) 1 24 Tryz.underlying25 hi2 hy3 hy4 hy5 rfl (by decide) _ _ _ rfl h1 ⟨w9.heap.size,0,none⟩ 1 1 [.slice a9 m c9] rfl rfl ?c1 ?c2 (by decide) ?c3 ?c4 ?c5 _ rfl ?_));case c1=>
    intro j u hj
    match j,hj with
    |0,hj=>simp at hj;subst hj;simp[Addr.add]
   case c2=>intro u hu;simp at hu;subst hu;exact dG.out
   case c3=>unfold maxLen;omega
   case c4=>omega
   case c5=>simp;omega
   intro g10 c10 Bj IG Ef LW Me;have ZI:LD w9 Bj vP (.slice (some ⟨g10,0,none⟩) (i+1) c10):=YO (B:=0) (e:=0) (xs:=[]) (AX.alloc AR _) Ef (by simpa using LW) Me;have TV:=hid (vM.out.ALp (W2:=Bj) ZI XW.out.1 XW.out.2 HR9.out (by rw[H8.out];exact IG));have ALs:w9.heap.size≤Bj.heap.size:=ZI.gr.size;have Dt:=hid (show Below (w.heap.size+1) w9 (Bj.setCell ⟨w.heap.size+1,1,none⟩ (.slice (some ⟨g10,0,none⟩) (i+1) c10)) from
    ((((A7 (w.heap.size+1) w9).alloc (by omega) _).grown Ef (by simp;omega) (fun g hg=>by have:=(Af MN g hg).1;omega)).setCell AR _))
   have vN:=hid (show AA (fun k=>k<B∧k≠w.heap.size+1) w9 (Bj.setCell ⟨w.heap.size+1,1,none⟩ (.slice (some ⟨g10,0,none⟩) (i+1) c10)) from(ZI.keep.mono (fun k hk e=>by have:=(Af MN k e.symm).1;have:=hk.1;omega)).setCell (fun h=>h.2 rfl) _);obtain⟨-, y10,-, ADh,ZJ⟩:=vM.out.grown ZI (fun k hk=>(Af MN k hk).1);have f10:=ZJ 1;have AFK:=hid (AJD (T:=T) MK.out);clear zH h1 MN x9 dF zG IG Ef LW Me ZI ZJ;go_upto_region 11 with fail;obtain⟨Hz,Rb⟩:∃Hz,Hz=Bj.setCell ⟨w.heap.size+1,1,none⟩ (.slice (some ⟨g10,0,none⟩) (i+1) c10):=⟨_,rfl⟩;rw[←Rb];rw[←Rb]at TV Dt vN;rw[←AFK.out]at TV;have ZK:=hid (Gy.out.trans (Dt.out.mono (by omega)));have AFL:=hid (mH.out.trans vN.out);have ANp:B≤Hz.heap.size:=by have:=Dt.out.size;omega
   have WT:=hid (show Below w.heap.size w Hz from HW1.out.trans (ZK.out.mono (by omega)));clear Rb Gy Dt mH vN vM AFK y10 ADh f10 ALs MB HR9 XW dG Cb zF U6;have mq:=hid (Aq.dropped (AP.keep HU.out (AA.of_below WT.out)) (k:=i+1) (by rw[Bh,HM.out];exact Qn.out));rw[←List.map_drop]at mq;have hwi:IntKind.i64.wrap ((i:Int)+1)=(i:Int)+1:=AY _ (by omega);have R5:(i:Int)+1≤(m:Int):=by omega
   have ANq:i+1≤m:=by omega
   go_cut [62,63,64] (fun sv nv iv W=>nv= .int .i64 ((m-(i+1):Nat):Int)∧iv= .int .i64 0∧(∃a c,sv= .slice a (m-(i+1)) c)∧Hid (AP Any W sv ((us.drop (i+1)).map ints))∧Hid (W=Hz));case first=>
    by_cases hcc:cU=i+1
    ·subst hcc;go_wp2_with fail;go_meet;have hm0:m-(i+1)=0:=by omega
     refine⟨by rw[hm0];rfl,rfl,⟨some ⟨bU,oU,none⟩,0,by rw[hm0]⟩,hid ?_,hid rfl⟩;have h:=mq.out.2 trivial oU;rw[hm0,Nf]at h;exact h
    ·go_wp2_with fail;go_meet;refine⟨by first|rfl|(congr 1;omega),rfl,⟨_,_,rfl⟩,hid ?_,hid rfl⟩;exact mq.out.1
   case rest=>
    rename World=>wc;obtain⟨rfl,rfl,⟨aT,cT,rfl⟩,hST,hwc⟩:=hcut;obtain rfl:=hwc.out;obtain⟨n,hn⟩:∃n,m-(i+1)=n:=⟨_,rfl⟩;have Iy:=hid hn;have dH:=hid (show(us.drop (i+1)).length=n by rw[Cx,HM.out,hn]);obtain⟨V,hV⟩:∃V,us.drop (i+1)=V:=⟨_,rfl⟩;have HV:=hid (show∀y∈V,El T y∧dep y<T.length from fun y hy=>HL.out y (KA (by rw[hV];exact hy)));have AFM:=hid (AJE (T:=T) MK.out);have xu:n≤6:=by omega
    rw[hV]at hST dH AFM;rw[hn]at hST ⊢;clear hn hV hwc mq hwi R5 ANq;go_wp2_with fail;go_loopw [12,64] (fun lv jv wr=>∃j:Nat,j≤n∧jv= .int .i64 (j:Int)∧Hid (Fa (fun W u x=>AL (fun k=>wc.heap.size≤k∧some k≠lv.ownBlock) W u x) 24 wc.heap.size wr lv ((V.take j).map fun y=>ints (MM T us u y)))∧Hid (Below wc.heap.size wc wr)) (fun _ jv _=>n-(intOf jv).toNat);case atStart=>exact⟨0,AU _,rfl,hid Fa.nil,hid AX⟩
    case round=>
     obtain⟨j,hj,rfl,hR,OQ⟩:=hrel;have XX:=hid (WT.out.trans (OQ.out.mono WT.out.size));by_cases hjn:j<n
     ·obtain⟨y,hy⟩:∃y,V[j]?=some y:=⟨_,AO (by rw[dH.out];exact hjn)⟩;have EF:=HV.out y (Ak hy);obtain⟨bT,oT,q,rfl,_,hbT,nA,hq⟩:=Aq.get (AP.keep hST.out (AA.of_below OQ.out)) (k:=j) (x:=ints y) (by rw[Bn,hy];rfl);obtain⟨aY,cY,rfl,_⟩:=AL.open hq;rw[AZ EF.1]at hq nA;obtain⟨bY,oY,rfl,-, -, -⟩:=AL.at hq (j:=0) (q:=y[0]'(by rw[AZ EF.1];omega)) (AO _);have DC:=hid (Zq.out wr (.slice (some ⟨bY,oY,none⟩) T.length cY) (.slice (some ⟨bQ,oQ,none⟩) T.length cQ) y u (HP.out.keep (AA.of_below XX.out)) hq (fun n c h=>by simp at h) (HQ.out.keep (AA.of_below XX.out)) (fun n c h=>by simp at h) EF.1 EO.out);have ANr:=hid (Lr.out y u EO.out EF.1);have Qc:=hid (show(V.take (j+1)).map (fun y=>ints (MM T us u y))=(V.take j).map (fun y=>ints (MM T us u y))++[ints (MM T us u y)] by rw[IJ,hy];simp);have Wt:=hid (show((V.take j).map fun y=>ints (MM T us u y)).length=j by rw[Bh,JX,dH.out];omega);have GJ:=hid hjn;have hji:(j:Int)<(n:Int):=by omega
      have hj0:(0:Int)≤(j:Int):=by omega
      have hd2:decide ((j:Int)<(n:Int))=true:=by simp;omega
      clear hy EF hq hjn;go_wp2_with fail;refine DC.out.mono ?_;rintro e XY ⟨g12,c12,rfl,ZA,WU⟩;have vQ:=hid (XX.out.trans (WU.mono XX.out.size));have SX:=hid (IY.out XY (.slice (some ⟨g12,0,none⟩) T.length c12) _ (HP.out.keep (AA.of_below vQ.out)) (AP.keep HU.out (AA.of_below vQ.out)) (ZA.sl.mono (fun _ _=>trivial)) ANr.out);have QE:=hid WU;clear ZA WU DC nA hbT;go_wp2_with fail;refine SX.out.mono ?_;rintro e Cw ⟨v13,AQD,rfl,nC,Ot⟩;obtain⟨Qr,c13,rfl,_⟩:=AL.open nC;rw[qm,HM.out]at nC ⊢;have hb1:=QE.out.trans (Ot.mono QE.out.size);have Bi:=hid hb1;obtain⟨AQE,ZL,AFN,AFO⟩:=hR.out;rw[Wt.out]at ZL;have AFP:∀k,Value.ownBlock u12=some k→Cw.heap[k]?=wr.heap[k]?:=fun k hk=>hb1.block k (Af ZL k hk).2;have AFQ:=hid (And.intro AFN AFO);have ANs:=hid (show AL (fun k=>wr.heap.size≤k) Cw (.slice Qr m c13) (ints (MM T us u y)) from nC.mono (fun k hk=>Ad QE.out.size hk));have vR:=LK ZL AFP;have AQF:=hid vR;have SE:=hid (Af ZL);have h1:=vR.alloc (.cells #[.slice Qr m c13] 24);have AFR:wc.heap.size≤Cw.heap.size:=Ad OQ.out.size hb1.size;clear nC Ot hb1 SX AFP AFN AFO ZL vR QE vQ XX;go_wp2_with (at_builtin;(refine GQ _ rfl _ _ 25 rfl wc.heap.size 24 i2 (.slice none 0 0) 1 24 Tryz.underlying25 hi2 hy3 hy4 hy5 rfl (by decide) _ _ _ rfl h1 ⟨Cw.heap.size,0,none⟩ 1 1 [.slice Qr m c13] rfl rfl ?c1 ?c2 (by decide) ?c3 ?c4 ?c5 _ rfl ?_));case c1=>
       intro j u hj
       match j,hj with
       |0,hj=>simp at hj;subst hj;simp[Addr.add]
      case c2=>intro u hu;simp at hu;subst hu;rfl
      case c3=>unfold maxLen;omega
      case c4=>omega
      case c5=>simp;omega
      intro g14 c14 Ju ADB qo ADi ADj;have vS:LD Cw Ju u12 (.slice (some ⟨g14,0,none⟩) (j+1) c14):=YO (B:=0) (e:=0) (xs:=[]) (AX.alloc AR _) qo (by simpa using ADi) ADj;have hrd:∀u x,AL (fun k=>(wc.heap.size≤k∧some k≠Value.ownBlock u12)) Cw u x→AL (fun k=>wc.heap.size≤k∧some k≠Value.ownBlock (.slice (some ⟨g14,0,none⟩) (j+1) c14)) Ju u x:=fun u x h=>
       ((Na h).keep (vS.keep.mono (fun k hk=>hk.1.2))).mono (fun k hk=>⟨hk.1.1,fun e=>by
        rcases(vS.bk k e.symm).1 with h3|h3
        ·exact hk.1.2 h3.symm
        ·have:=hk.2;omega⟩)
      have Ti:=hid (show Fa (fun W u x=>AL (fun k=>wc.heap.size≤k∧some k≠Value.ownBlock (.slice (some ⟨g14,0,none⟩) (j+1) c14)) W u x) 24 wc.heap.size Ju (.slice (some ⟨g14,0,none⟩) (j+1) c14) ((V.take (j+1)).map fun y=>ints (MM T us u y)) from by
       rw[Qc.out];refine Fa.push (E:=fun W u x=>AL (fun k=>wc.heap.size≤k∧some k≠Value.ownBlock u12) W u x) (W:=Cw) AFQ.out.1 (fun i x u h1 h2=>(AFQ.out.2 i x u h1 h2).keep (AA.of_below Bi.out)) hrd (hrd _ _ ?_) (by rw[Wt.out];exact ADB);exact ANs.out.mono (fun k hk=>⟨Ad OQ.out.size hk,fun e=>by have:=(SE.out k e.symm).2;omega⟩))
      have RS:=hid (show Below wc.heap.size wc Ju from((OQ.out.trans (Bi.out.mono OQ.out.size)).alloc AFR _).grown qo (by simp;omega) (fun g hg=>(Af h1 g hg).1));clear h1 ADB qo ADi ADj vS hrd AFR;go_wp2_with fail;go_roundw;case rel=>exact⟨j+1,by have:=GJ.out;omega,by go_num,Ti,RS⟩
      case measure=>have:=GJ.out;simp[intOf];omega
     ·obtain rfl:j=n:=by omega
      have hd2:decide ((j:Int)<(j:Int))=false:=by simp
      have hR2:=hR.out;rw[←dH.out,KC]at hR2;have hsl:=hR2.mh (E':=fun w u x=>AL (fun k=>wc.heap.size≤k) w u x) (fun u x h=>h.mono (fun k hk=>hk.1));have Ay:=hid (show AP (fun k=>wc.heap.size≤k) wr u12 (V.map fun y=>ints (MM T us u y)) from hsl);obtain⟨aL,cL,hlv,_,_⟩:=Aq.form hsl;rw[Bh,dH.out]at hlv;subst hlv;have jw:=TV.out.below OQ.out;have AFS:=hid jw;have Bi:=hid (ZK.out.trans (OQ.out.mono (show w.heap.size+1≤wc.heap.size by omega)));have UO:=hid (AFL.out.trans (AA.below OQ.out (fun k _ h=>h)));have OG:B≤wr.heap.size:=Ad ANp OQ.out.size;have ANt:=hid (show AP (Ex B (.slice (some ⟨g6,0,none⟩) (i+1) c6) (.slice (some ⟨g10,0,none⟩) (i+1) c10) vC) wr (.slice aL j cL) (V.map fun y=>ints (MM T us u y)) from by
       obtain⟨_,hp,_⟩:=TV.out.p;obtain⟨_,hc,_⟩:=TV.out.c;exact AP.mono Ay.out (fun k hk=>⟨by omega,fun e=>by have:=(Af TV.out.o k e.symm).2;omega,fun e=>by have:=(Af hp k e.symm).2;omega,fun e=>by have:=(Af hc k e.symm).2;omega⟩))
      have Ec:=hid (AKQ (T:=T) (us:=us) (i:=i));obtain⟨-, -, x9,dF,zG⟩:=jw.cell;obtain⟨us9,MN,ZG,ZH⟩:=jw.c;rw[Ec.out]at MN;have XW:=hid (And.intro ZG ZH);have h1:=MN.alloc (.cells #[.slice aL j cL] 25);have zH:(wr.alloc (.cells #[.slice aL j cL] 25)).cell? ⟨w.heap.size+1,2,none⟩=some vC:=(((AA.refl Any wr).alloc _).cell (b:=w.heap.size+1) trivial dF).trans x9;clear hR hR2 hsl jw ZG ZH Ay OQ XX ZK AFL TV WT;go_upto_region 17 with fail;go_wp2_with (at_builtin;(refine GQ _ rfl _ _ 26 rfl B 25 i3 (.slice none 0 0) 1 24 Tryz.underlying26 hi3 zC Wn zD rfl (by decide) _ _ _ rfl h1 ⟨wr.heap.size,0,none⟩ 1 1 [.slice aL j cL] rfl rfl ?c1 ?c2 (by decide) ?c3 ?c4 ?c5 _ rfl ?_));case c2=>first|rfl|(intro u hu;simp at hu;subst hu;rfl)
      case c3=>unfold maxLen;omega
      case c4=>omega
      case c5=>first|omega|(simp;omega)
      intro g15 c15 JD YP Q4 ADk ADl;have jy:LD wr JD vC (.slice (some ⟨g15,0,none⟩) (i+1) c15):=YO (B:=0) (e:=0) (xs:=[]) (AX.alloc AR _) Q4 (by simpa using ADk) ADl;have ADm:=hid (AFS.out.ALq (W2:=JD) jy XW.out.1 XW.out.2 ANt.out (by rw[Ec.out];exact YP));rw[←AFM.out]at ADm;have Le:=hid (show Below (w.heap.size+1) wr (JD.setCell ⟨w.heap.size+1,2,none⟩ (.slice (some ⟨g15,0,none⟩) (i+1) c15)) from
       ((((A7 (w.heap.size+1) wr).alloc (by omega) _).grown Q4 (by simp;omega) (fun g hg=>by have:=(Af MN g hg).1;omega)).setCell AR _))
      have vT:=hid (show AA (fun k=>k<B∧k≠w.heap.size+1) wr (JD.setCell ⟨w.heap.size+1,2,none⟩ (.slice (some ⟨g15,0,none⟩) (i+1) c15)) from(jy.keep.mono (fun k hk e=>by have:=(Af MN k e.symm).1;have:=hk.1;omega)).setCell (fun h=>h.2 rfl) _);have vV:=hid (Bi.out.trans Le.out);have ANu:=hid (UO.out.trans vT.out);obtain⟨-, -, y10,ADh,ZJ⟩:=AFS.out.grown jy (fun k hk=>(Af MN k hk).1);have f10:=ZJ 2;clear zH h1 MN x9 dF zG YP Q4 ADk ADl jy ZJ;go_wp2_with fail;go_roundw;case rel=>exact⟨i+1,_,_,_,Qn.out,by go_num,ADm,vV,ANu⟩
      case measure=>have:=Qn.out;simp[intOf];omega
  ·obtain rfl:i=m:=by omega
   have hd1:decide ((i:Int)<(i:Int))=false:=by simp
   have HV:=hid (show BC (fun k=>B≤k) wr vO vP vC (AQ (Ac T us)) from by have h:=cz.out.val;rw[AFH.out]at h;exact h);obtain⟨aO,cO,NS,NT,aC,cC,rfl,rfl,rfl,-, -, -⟩:=HV.out.open;obtain⟨x0,x1,x2,hg1,hf1⟩:=cz.out.cell;have h0:wr.heap[w.heap.size]?=some (.cells #[.slice none 0 0,.slice none 0 0,.slice none 0 0] 28):=by
    rw[hK.out.block w.heap.size ⟨by omega,by omega⟩ (by have:=cZ.out;omega)];exact ANn.out
   have z0:∀j,j<3→wr.cell? ⟨w.heap.size,j,none⟩=some (.slice none 0 0):=fun j hj=>by
    rw[Ah _ _ _ _ _ (0,0) h0]
    match j,hj with
    |0,_=>rfl
    |1,_=>rfl
    |2,_=>rfl
   have y0:=z0 0 (by decide);have y1:=z0 1 (by decide);have y2:=z0 2 (by decide);have fz:∀j,wr.frozen? ⟨w.heap.size,j,none⟩=false:=fun j=>by simp[World.frozen?,h0]
   have f0:=fz 0;have f1:=fz 1;have f2:=fz 2;have hgl:w.heap.size<wr.heap.size:=by omega
   have jg:=hid (show Below w.heap.size w (((wr.setCell ⟨w.heap.size,0,none⟩ (.slice aO (Ac T us).length cO)).setCell ⟨w.heap.size,1,none⟩ (.slice NS (Ac T us).length NT)).setCell ⟨w.heap.size,2,none⟩ (.slice aC (Ac T us).length cC)) from((A9.out.setCell AR _).setCell AR _).setCell AR _);have HV2:=hid (show BC (fun k=>w.heap.size≤k) (((wr.setCell ⟨w.heap.size,0,none⟩ (.slice aO (Ac T us).length cO)).setCell ⟨w.heap.size,1,none⟩ (.slice NS (Ac T us).length NT)).setCell ⟨w.heap.size,2,none⟩ (.slice aC (Ac T us).length cC)) (.slice aO (Ac T us).length cO) (.slice NS (Ac T us).length NT) (.slice aC (Ac T us).length cC) (AQ (Ac T us)) from
    (HV.out.keep (((( AA.refl _ wr).setCell (by show¬B≤w.heap.size;omega) _).setCell (by show¬B≤w.heap.size;omega) _).setCell (by show¬B≤w.heap.size;omega) _)).mono (fun k (hk:B≤k)=>by have:=cZ.out;omega))
   have h3:(((wr.setCell ⟨w.heap.size,0,none⟩ (.slice aO (Ac T us).length cO)).setCell ⟨w.heap.size,1,none⟩ (.slice NS (Ac T us).length NT)).setCell ⟨w.heap.size,2,none⟩ (.slice aC (Ac T us).length cC)).heap[w.heap.size]?=some (.cells #[.slice aO (Ac T us).length cO,.slice NS (Ac T us).length NT,.slice aC (Ac T us).length cC] 28):=by
    rw[GV _ _ _ _ _ _ (GV _ _ _ _ _ _ (GV _ _ _ _ _ _ h0))];rfl
   clear cz hB hK z0 fz h0;go_wp2_with fail;obtain⟨W,hW⟩:∃W,W=((wr.setCell ⟨w.heap.size,0,none⟩ (.slice aO (Ac T us).length cO)).setCell ⟨w.heap.size,1,none⟩ (.slice NS (Ac T us).length NT)).setCell ⟨w.heap.size,2,none⟩ (.slice aC (Ac T us).length cC):=⟨_,rfl⟩;rw[←hW]at h3 jg HV2 ⊢;have q0:W.cell? ⟨w.heap.size,0,none⟩=some (.slice aO (Ac T us).length cO):=by rw[Ah _ _ _ _ _ (0,0) h3];rfl
   have q1:W.cell? ⟨w.heap.size,1,none⟩=some (.slice NS (Ac T us).length NT):=by rw[Ah _ _ _ _ _ (0,0) h3];rfl
   have q2:W.cell? ⟨w.heap.size,2,none⟩=some (.slice aC (Ac T us).length cC):=by rw[Ah _ _ _ _ _ (0,0) h3];rfl
   have HR:=hid (show P9 T us w (.returned (.agg #[.slice aO (Ac T us).length cO,.slice NS (Ac T us).length NT,.slice aC (Ac T us).length cC])) W from⟨_,_,_,rfl,HV2.out,jg.out⟩);clear hW h3 y0 y1 y2 f0 f1 f2;exact Aj (v:=.agg #[.slice aO (Ac T us).length cO,.slice NS (Ac T us).length NT,.slice aC (Ac T us).length cC]) (by simp[results,Tryz.results20,go_sem,q0,q1,q2]) rfl HR.out
end Go.Proofs.YtaadbccidfdniaaGreat.mo
