import Derived.Test.YtaadbccidfdniaaGreatZ0
import Derived.Test.YtaadbccidfdniaaGreatZa
import Derived.BigQuiet
import Derived.Below
import Derived.WalkSmall
import Derived.Test.YtaadbccidfdniaaGreatProg
import Derived.WalkSpells
import Derived.WalkLawsBesides
import Derived.Deep.QuietTactic
import Derived.Outline
import Derived.Handy
import Derived.Laws.AppendOwn
import Derived.IntWalk
import Derived.Deep.DeepCutAuto
import Derived.Deep.OwnRows
import Derived.Deep.LoopGhost
import Derived.Deep.RegionHeld3
/-
  Lemmas for the law FnCopies, in short spelling.
-/
open Go.Lib (hid)
set_option linter.unusedVariables false
set_option linter.unusedSimpArgs false
set_option maxRecDepth 100000
set_option maxHeartbeats 40000000
namespace Go.Proofs.YtaadbccidfdniaaGreat.Gen
open AB
def Gen {α:Type}(m:α→α→α)(e:α)(cs:List α)(x:α):Prop:=∀S:α→Prop,S e→(∀y c,S y→c∈cs→S (m y c))→S x
theorem Gen.one {α:Type}{m:α→α→α}{e:α}{cs:List α}:Gen m e cs e:=fun _ h _=>h
theorem Gen.step {α:Type}{m:α→α→α}{e:α}{cs:List α}{x c:α}(h:Gen m e cs x)(hc:c∈cs):Gen m e cs (m x c):=fun S h1 h2=>h2 x c (h S h1 h2) hc
theorem Gen.mem {α:Type}{M:α→Prop}{m:α→α→α}{e:α}(G:CV M m e){cs:List α}(hc:∀c∈cs,M c){x:α}(h:Gen m e cs x):M x:=h M G.me (fun y c hy h=>G.cl hy (hc c h))
theorem Gen.mul {α:Type}{M:α→Prop}{m:α→α→α}{e:α}(G:CV M m e){cs:List α}(hc:∀c∈cs,M c){x y:α}(hx:Gen m e cs x)(hy:Gen m e cs y):Gen m e cs (m x y):=by
 have hM:=hx.mem G hc;have:=hy (fun y=>M y∧Gen m e cs (m x y)) ⟨G.me,by rw[G.eR hM];exact hx⟩ (fun y c h h'=>⟨G.cl h.1 (hc c h'),by rw[←G.Am hM h.1 (hc c h')];exact h.2.step h'⟩);exact this.2
theorem Gen.of {α:Type}{M:α→Prop}{m:α→α→α}{e:α}(G:CV M m e){cs:List α}(hc:∀c∈cs,M c){c:α}(h:c∈cs):Gen m e cs c:=by
 have:=(Gen.one (m:=m) (e:=e) (cs:=cs)).step h;rwa[G.eL (hc c h)]at this
structure Sub {α:Type}(M:α→Prop)(m:α→α→α)(e:α)(S:α→Prop):Prop where
 me:S e
 cl:∀{x y},S x→S y→S (m x y)
 le:∀{x},S x→M x
theorem Sub.npow {α:Type}{M:α→Prop}{m:α→α→α}{e:α}{S:α→Prop}(h:Sub M m e S){x:α}(hx:S x)(k:Nat):S (npow m e x k):=
 JP S _ (fun _ hz=>h.cl hz hx) k e h.me
theorem Sub.gen {α:Type}{M:α→Prop}{m:α→α→α}{e:α}{S:α→Prop}(h:Sub M m e S){cs:List α}(hc:∀c∈cs,S c){x:α}(hx:Gen m e cs x):S x:=hx S h.me (fun y c hy h'=>h.cl hy (hc c h'))
theorem Gen.sub {α:Type}{M:α→Prop}{m:α→α→α}{e:α}(G:CV M m e){cs:List α}(hc:∀c∈cs,M c):Sub M m e (Gen m e cs):=⟨Gen.one,fun a b=>a.mul G hc b,fun a=>a.mem G hc⟩
theorem fC {α:Type}{M:α→Prop}{m:α→α→α}{e:α}(G:CV M m e){x:α}(hx:M x)(a b:Nat):npow m e (npow m e x a) b=npow m e x (a*b):=by
 induction b with
 |zero=>rfl
 |succ b ih=>rw[Dz,ih,Nat.mul_succ,G.NV hx]
structure Bq {α:Type}(M:α→Prop)(m:α→α→α)(e:α)(n:Nat)(o:Nat→Nat)(f:Nat→α→Nat)(inv:α→α):Prop where
 G:CV M m e
 o2:∀d,d<n→2≤o d
 fe:∀d,d<n→f d e=0
 lt:∀{d x},d<n→M x→f d x<o d
 fm:∀{d x y},d<n→M x→M y→(∀j,j<d→f j x=0)→(∀j,j<d→f j y=0)→f d (m x y)=(f d x+f d y)%o d
 ze:∀{x},M x→(∀j,j<n→f j x=0)→x=e
 iM:∀{x},M x→M (inv x)
 iR:∀{x},M x→m x (inv x)=e
 iL:∀{x},M x→m (inv x) x=e
def A {α:Type}(M:α→Prop)(f:Nat→α→Nat)(d:Nat)(x:α):Prop:=M x∧∀j,j<d→f j x=0
section
variable {α:Type} {M:α→Prop} {m:α→α→α} {e:α} {n:Nat} {o:Nat→Nat} {f:Nat→α→Nat} {inv:α→α}
theorem GL {d:Nat}{x:α}:A M f (d+1) x↔A M f d x∧f d x=0:=by
 constructor
 ·rintro⟨h1,h2⟩;exact⟨⟨h1,fun j hj=>h2 j (by omega)⟩,h2 d (by omega)⟩
 ·rintro⟨⟨h1,h2⟩,h3⟩;exact⟨h1,fun j hj=>by
   rcases CP j d with h|h
   ·exact h2 j h
   ·obtain rfl:j=d:=by omega
    exact h3⟩
theorem WG {d d':Nat}{x:α}(h:A M f d x)(hd:d'≤d):A M f d' x:=⟨h.1,fun j hj=>h.2 j (by omega)⟩
theorem Bq.wz (F:Bq M m e n o f inv){d:Nat}(hd:d≤n):A M f d e:=⟨F.G.me,fun j hj=>F.fe j (by omega)⟩
theorem Bq.ADK (F:Bq M m e n o f inv){d:Nat}(hd:d≤n){x y:α}(hx:A M f d x)(hy:A M f d y):A M f d (m x y):=
 ⟨F.G.cl hx.1 hy.1,fun j hj=>by
  rw[F.fm (by omega) hx.1 hy.1 (fun i hi=>hx.2 i (by omega)) (fun i hi=>hy.2 i (by omega)),hx.2 j hj,hy.2 j hj];exact Nat.zero_mod _⟩
theorem Bq.J6 (F:Bq M m e n o f inv){d:Nat}(hd:d≤n):Sub M m e (A M f d):=⟨F.wz hd,fun a b=>F.ADK hd a b,fun a=>a.1⟩
theorem Bq.J5 (F:Bq M m e n o f inv){d:Nat}(hd:d<n){x:α}(hx:A M f d x)(k:Nat):f d (npow m e x k)=k*f d x%o d:=by
 induction k with
 |zero=>rw[JL,F.fe d hd];simp
 |succ k ih=>
  have hk:=(F.J6 (DT hd)).npow hx k;rw[Dz,F.fm hd hk.1 hx.1 hk.2 hx.2,ih,Nat.succ_mul,Nat.mod_add_mod]
theorem Bq.ord (F:Bq M m e n o f inv):∀(k d:Nat),d+k=n→∀x,A M f d x→∃N,0<N∧npow m e x N=e
 |0,d,h,x,hx=>⟨1,by omega,by rw[F.G.Oa hx.1];exact F.ze hx.1 (fun j hj=>hx.2 j (by omega))⟩
 |k+1,d,h,x,hx=>by
  have h1:A M f (d+1) (npow m e x (o d)):=GL.2 ⟨(F.J6 (by omega)).npow hx _,by rw[F.J5 (by omega) hx,Nat.mul_mod_right]⟩;obtain⟨N,hN,hp⟩:=Bq.ord F k (d+1) (by omega) _ h1;rw[fC F.G hx.1]at hp;exact⟨o d*N,Nat.mul_pos (by have:=F.o2 d (by omega);omega) hN,hp⟩
theorem Bq.ord' (F:Bq M m e n o f inv){x:α}(hx:M x):∃N,npow m e x (N+1)=e:=by
 obtain⟨N,h1,h2⟩:=F.ord n 0 (by omega) x ⟨hx,fun j hj=>absurd hj (CO _)⟩;exact⟨N-1,by rw[show N-1+1=N by omega];exact h2⟩
theorem Bq.AIM (F:Bq M m e n o f inv){x:α}(hx:M x):∃N,inv x=npow m e x N∧npow m e x (N+1)=e:=by
 obtain⟨N,hN⟩:=F.ord' hx;refine⟨N,?_,hN⟩;refine F.G.qN hx (F.iM hx) (F.G.npow hx N) ?_;rw[F.iL hx];exact((Dz m e x N).symm.trans hN).symm
theorem Bq.J2 (F:Bq M m e n o f inv){S:α→Prop}(h:Sub M m e S){x:α}(hx:S x):S (inv x):=by
 obtain⟨N,hN,_⟩:=F.AIM (h.le hx);rw[hN];exact h.npow hx N
theorem Bq.TA (F:Bq M m e n o f inv){x:α}(hx:M x)(k:Nat):m (npow m e x k) (npow m e (inv x) k)=e∧m (npow m e (inv x) k) (npow m e x k)=e:=by
 have hi:=F.iM hx;constructor
 ·induction k with
  |zero=>exact F.G.eL F.G.me
  |succ k ih=>
   rw[Dz,Ki k 1,F.G.NV hi,F.G.Oa hi,F.G.Am (F.G.npow hx k) hx (F.G.cl hi (F.G.npow hi k)),←F.G.Am hx hi (F.G.npow hi k),F.iR hx,F.G.eL (F.G.npow hi k),ih]
 ·induction k with
  |zero=>exact F.G.eL F.G.me
  |succ k ih=>
   rw[Dz,Ki k 1,F.G.NV hx,F.G.Oa hx,F.G.Am (F.G.npow hi k) hi (F.G.cl hx (F.G.npow hx k)),←F.G.Am hi hx (F.G.npow hx k),F.iL hx,F.G.eL (F.G.npow hx k),ih]
def strip (m:α→α→α)(e:α)(f:Nat→α→Nat)(inv:α→α)(t:Nat→Option α):Nat→Nat→α→Nat×α
 |0,d,x=>(d,x)
 |k+1,d,x=>if f d x=0 then strip m e f inv t k (d+1) x else
  match t d with
  |none=>(d,x)
  |some y=>strip m e f inv t k (d+1) (m x (npow m e (inv y) (f d x)))
def Mem (m:α→α→α)(e:α)(f:Nat→α→Nat)(inv:α→α)(t:Nat→Option α)(k d:Nat)(x:α):Prop:=(strip m e f inv t k d x).1=d+k
theorem MS {t:Nat→Option α}{k d:Nat}{x:α}(h:f d x=0):strip m e f inv t (k+1) d x=strip m e f inv t k (d+1) x:=by rw[strip,Bo h]
theorem OZ {t:Nat→Option α}{k d:Nat}{x y:α}(h:f d x≠0)(ht:t d=some y):strip m e f inv t (k+1) d x=strip m e f inv t k (d+1) (m x (npow m e (inv y) (f d x))):=by rw[strip,BD h,ht]
theorem PY {t:Nat→Option α}{k d:Nat}{x:α}(h:f d x≠0)(ht:t d=none):strip m e f inv t (k+1) d x=(d,x):=by rw[strip,BD h,ht]
theorem pq (t:Nat→Option α):∀(k d:Nat) (x:α),d≤(strip m e f inv t k d x).1∧(strip m e f inv t k d x).1≤d+k
 |0,d,x=>⟨Av _,Av _⟩
 |k+1,d,x=>by
  by_cases h:f d x=0
  ·rw[MS h];have:=pq t k (d+1) x;omega
  ·cases ht:t d with
   |none=>rw[PY h ht];exact⟨Av _,Nat.le_add_right _ _⟩
   |some y=>rw[OZ h ht];have:=pq t k (d+1) (m x (npow m e (inv y) (f d x)));omega
def Tb (M:α→Prop)(n:Nat)(f:Nat→α→Nat)(t:Nat→Option α):Prop:=∀d y,t d=some y→d<n∧A M f d y∧f d y=1
theorem Bq.red (F:Bq M m e n o f inv){d:Nat}(hd:d<n){x y:α}(hx:A M f d x)(hy:A M f d y)(h1:f d y=1):A M f (d+1) (m x (npow m e (inv y) (f d x))):=by
 have hs:=F.J6 (DT hd);have hi:=F.J2 hs hy;have hp:=hs.npow hi (f d x);refine GL.2 ⟨hs.cl hx hp,?_⟩;have hy2:=hs.npow hy (f d x);have e1:f d (m (npow m e y (f d x)) (npow m e (inv y) (f d x)))=0:=by rw[(F.TA hy.1 _).1,F.fe d hd]
 rw[F.fm hd hy2.1 hp.1 hy2.2 hp.2,F.J5 hd hy,h1,Ic,Nat.mod_add_mod]at e1;rw[F.fm hd hx.1 hp.1 hx.2 hp.2,e1]
theorem Bq.YB (F:Bq M m e n o f inv){t:Nat→Option α}(ht:Tb M n f t):∀(k d:Nat) (x:α),d+k=n→A M f d x→
  A M f (strip m e f inv t k d x).1 (strip m e f inv t k d x).2∧((strip m e f inv t k d x).1<n→f (strip m e f inv t k d x).1 (strip m e f inv t k d x).2≠0∧t (strip m e f inv t k d x).1=none)
 |0,d,x,h,hx=>⟨hx,fun h'=>absurd h' (by simp only[strip];omega)⟩
 |k+1,d,x,h,hx=>by
  by_cases h0:f d x=0
  ·rw[MS h0];exact Bq.YB F ht k (d+1) x (by omega) (GL.2 ⟨hx,h0⟩)
  ·cases hd:t d with
   |none=>rw[PY h0 hd];exact⟨hx,fun _=>⟨h0,hd⟩⟩
   |some y=>rw[OZ h0 hd];exact Bq.YB F ht k (d+1) _ (by omega) (F.red (by omega) hx (ht d y hd).2.1 (ht d y hd).2.2)
theorem pF {S:α→Prop}(F:Bq M m e n o f inv)(hS:Sub M m e S){t:Nat→Option α}(ht:∀d y,t d=some y→S y):∀(k d:Nat) (x:α),S x→S (strip m e f inv t k d x).2
 |0,d,x,hx=>hx
 |k+1,d,x,hx=>by
  by_cases h0:f d x=0
  ·rw[MS h0];exact pF F hS ht k (d+1) x hx
  ·cases hd:t d with
   |none=>rw[PY h0 hd];exact hx
   |some y=>rw[OZ h0 hd];exact pF F hS ht k (d+1) _ (hS.cl hx (hS.npow (F.J2 hS (ht d y hd)) _))
def Ext (t t':Nat→Option α):Prop:=∀d y,t d=some y→t' d=some y
theorem eG {t t':Nat→Option α}(h:Ext t t'):∀(k d:Nat) (x:α),∃k',(strip m e f inv t k d x).1+k'=d+k∧strip m e f inv t' k d x=strip m e f inv t' k' (strip m e f inv t k d x).1 (strip m e f inv t k d x).2
 |0,d,x=>⟨0,rfl,rfl⟩
 |k+1,d,x=>by
  by_cases h0:f d x=0
  ·rw[MS h0,MS h0];obtain⟨k',h1,h2⟩:=eG h k (d+1) x;exact⟨k',by omega,h2⟩
  ·cases hd:t d with
   |none=>rw[PY h0 hd];exact⟨k+1,rfl,rfl⟩
   |some y=>
    rw[OZ h0 hd,OZ h0 (h d y hd)];obtain⟨k',h1,h2⟩:=eG h k (d+1) (m x (npow m e (inv y) (f d x)));exact⟨k',by omega,h2⟩
theorem Mem.ext {t t':Nat→Option α}(h:Ext t t'){k d:Nat}{x:α}(hx:Mem m e f inv t k d x):Mem m e f inv t' k d x:=by
 obtain⟨k',h1,h2⟩:=eG (m:=m) (e:=e) (f:=f) (inv:=inv) h k d x;unfold Mem at hx ⊢;rw[h2];rw[hx]at h1 ⊢;obtain rfl:k'=0:=by omega
 rfl
theorem AAd (t:Nat→Option α):∀(j k d:Nat) (x:α),(∀i,i<d+j→f i x=0)→strip m e f inv t (j+k) d x=strip m e f inv t k (d+j) x
 |0,k,d,x,h=>by rw[Cg];rfl
 |j+1,k,d,x,h=>by
  rw[show j+1+k=j+k+1 by omega,MS (h d (by omega)),AAd t j k (d+1) x (fun i hi=>h i (by omega)),show d+1+j=d+(j+1) by omega]
theorem MU {t:Nat→Option α}{k d:Nat}{x:α}(hd:d+k=n)(h:A M f d x):Mem m e f inv t n 0 x↔Mem m e f inv t k d x:=by
 unfold Mem;rw[←hd,AAd t d k 0 x (by simpa using h.2),Cg,Cg]
theorem AIN (F:Bq M m e n o f inv){t t':Nat→Option α}(ht:Tb M n f t)(h:Ext t t'){x:α}(hx:M x)(hm:Mem m e f inv t' n 0 (strip m e f inv t n 0 x).2):Mem m e f inv t' n 0 x:=by
 have hA:=(F.YB ht n 0 x (by omega) ⟨hx,fun j hj=>absurd hj (CO _)⟩).1;obtain⟨k',h1,h2⟩:=eG (m:=m) (e:=e) (f:=f) (inv:=inv) h n 0 x;have h3:=(MU (n:=n) (k:=k') (t:=t') (by omega) hA).1 hm;unfold Mem at h3 ⊢;rw[h2,h3,h1]
end
end Go.Proofs.YtaadbccidfdniaaGreat.Gen
namespace Go.Proofs.YtaadbccidfdniaaGreat.Gen
open AB
section
variable {α:Type} {M:α→Prop} {m:α→α→α} {e:α} {n:Nat} {o:Nat→Nat} {f:Nat→α→Nat} {inv:α→α}
def CF (m:α→α→α)(inv:α→α)(x y:α):α:=m (inv (m y x)) (m x y)
def Sd (M:α→Prop)(m:α→α→α)(e:α)(n:Nat)(f:Nat→α→Nat)(inv:α→α)(t:Nat→Option α)(d:Nat)(x:α):Prop:=A M f d x∧Mem m e f inv t n 0 x
theorem Hf {t:Nat→Option α}{d:Nat}{x:α}:Sd M m e n f inv t (d+1) x↔Sd M m e n f inv t d x∧f d x=0:=by
 unfold Sd;rw[GL];constructor
 ·rintro⟨⟨a,b⟩,c⟩;exact⟨⟨a,c⟩,b⟩
 ·rintro⟨⟨a,c⟩,b⟩;exact⟨⟨a,b⟩,c⟩
theorem VV {t:Nat→Option α}{k d:Nat}{x:α}(hd:d+(k+1)=n)(ht:t d=none)(h:Sd M m e n f inv t d x):f d x=0:=by
 have h1:=(MU hd h.1).1 h.2;by_cases h0:f d x=0
 ·exact h0
 ·unfold Mem at h1;rw[PY h0 ht]at h1;simp only at h1;omega
theorem AB7 (F:Bq M m e n o f inv){t:Nat→Option α}{k d:Nat}{x y:α}(hd:d+(k+1)=n)(htb:Tb M n f t)(ht:t d=some y)(hx:A M f d x):Sd M m e n f inv t d x↔Sd M m e n f inv t (d+1) (m x (npow m e (inv y) (f d x))):=by
 have hr:=F.red (by omega) hx (htb d y ht).2.1 (htb d y ht).2.2;unfold Sd;rw[MU hd hx,MU (k:=k) (d:=d+1) (by omega) hr];constructor
 ·rintro⟨_,h⟩;refine⟨hr,?_⟩;by_cases h0:f d x=0
  ·rw[h0,JL,F.G.eR hx.1];unfold Mem at h ⊢;rw[MS h0]at h;omega
  ·unfold Mem at h ⊢;rw[OZ h0 ht]at h;omega
 ·rintro⟨_,h⟩;refine⟨hx,?_⟩;by_cases h0:f d x=0
  ·rw[h0,JL,F.G.eR hx.1]at h;unfold Mem at h ⊢;rw[MS h0];omega
  ·unfold Mem at h ⊢;rw[OZ h0 ht];omega
theorem Bq.iZ (F:Bq M m e n o f inv){d:Nat}(hd:d<n){x y:α}(hx:A M f d x)(hy:A M f d y):A M f (d+1) (CF m inv x y):=by
 have hs:=F.J6 (DT hd);have hyx:=hs.cl hy hx;have hxy:=hs.cl hx hy;have hi:=F.J2 hs hyx;have hc:A M f d (CF m inv x y):=hs.cl hi hxy;refine GL.2 ⟨hc,?_⟩;have e1:m (m y x) (CF m inv x y)=m x y:=by rw[CF,←F.G.Am hyx.1 hi.1 hxy.1,F.iR hyx.1,F.G.eL hxy.1]
 have e2:=BM (f d) e1;rw[F.fm hd hyx.1 hc.1 hyx.2 hc.2,F.fm hd hx.1 hy.1 hx.2 hy.2,F.fm hd hy.1 hx.1 hy.2 hx.2,Ki (f d y),Nat.mod_add_mod]at e2;have hlt:=F.lt hd hc.1;change f d (CF m inv x y)<o d at hlt;change (f d x+f d y+f d (CF m inv x y))%o d=(f d x+f d y)%o d at e2;show f d (CF m inv x y)=0;generalize f d (CF m inv x y)=c at hlt e2 ⊢;generalize f d x+f d y=s at e2;have h1:=Nat.mod_add_div (s+c) (o d);have h2:=Nat.mod_add_div s (o d);rw[e2]at h1;have h3:c=o d*((s+c)/o d)-o d*(s/o d):=by omega
 rw[←Nat.mul_sub]at h3;rcases Nat.eq_zero_or_pos ((s+c)/o d-s/o d)with h4|h4
 ·rw[h4]at h3;simpa using h3
 ·have:=Nat.le_mul_of_pos_right (o d) h4;omega
theorem Bq.back (F:Bq M m e n o f inv){t:Nat→Option α}{k d:Nat}(hd:d+(k+1)=n)(htb:Tb M n f t){y:α}(ht:t d=some y)(hS:Sub M m e (Sd M m e n f inv t (d+1)))(hp:Mem m e f inv t n 0 (npow m e y (o d)))
  {s:α} (hs:Sd M m e n f inv t (d+1) s) (a:Nat):Sd M m e n f inv t d (m s (npow m e y a)):=by
 obtain⟨_,DL,hy1⟩:=htb d y ht;have hA:=F.J6 (d:=d) (by omega);have hsA:A M f d s:=(GL.1 hs.1).1;have hya:=hA.npow DL a;have hx:=hA.cl hsA hya;have hs0:f d s=0:=(GL.1 hs.1).2;have hf:f d (m s (npow m e y a))=a%o d:=by rw[F.fm (by omega) hsA.1 hya.1 hsA.2 hya.2,F.J5 (by omega) DL,hy1,hs0,Ic,Cg,Nat.mod_mod]
 refine(AB7 F hd htb ht hx).2 ?_;rw[hf];have hyo:Sd M m e n f inv t (d+1) (npow m e y (o d)):=⟨GL.2 ⟨hA.npow DL _,by rw[F.J5 (by omega) DL,Nat.mul_mod_right]⟩,hp⟩;have e1:npow m e y a=m (npow m e (npow m e y (o d)) (a/o d)) (npow m e y (a%o d)):=by
  rw[fC F.G DL.1,←F.G.NV DL.1,Nat.div_add_mod]
 have h1:=F.G.npow (F.G.npow DL.1 (o d)) (a/o d);have h2:=F.G.npow DL.1 (a%o d);have h3:=F.G.npow (F.iM DL.1) (a%o d);rw[e1,←F.G.Am hsA.1 h1 h2,F.G.Am (F.G.cl hsA.1 h1) h2 h3,(F.TA DL.1 _).1,F.G.eR (F.G.cl hsA.1 h1)];exact hS.cl hs (hS.npow hyo _)
theorem Bq.closed (F:Bq M m e n o f inv){t:Nat→Option α}(htb:Tb M n f t)(hp:∀d y,t d=some y→Mem m e f inv t n 0 (npow m e y (o d)))
  (hc:∀d d' y z,d<d'→t d=some y→t d'=some z→Mem m e f inv t n 0 (CF m inv y z)∨Mem m e f inv t n 0 (CF m inv z y)):∀k d,d+k=n→
  Sub M m e (Sd M m e n f inv t d)∧(∀d' z,d≤d'→t d'=some z→Sd M m e n f inv t d z)∧
  (∀x,Sd M m e n f inv t d x→∀P:α→Prop,P e→(∀a d' z,d≤d'→t d'=some z→P a→Sd M m e n f inv t d a→P (m a z))→P x)
 |0,d,hd=>by
  have hz:∀x,Sd M m e n f inv t d x→x=e:=fun x h=>F.ze h.1.1 (fun j hj=>h.1.2 j (by omega));have he:Sd M m e n f inv t d e:=⟨F.wz (by omega),(MU hd (F.wz (by omega))).2 rfl⟩;refine⟨⟨he,fun {x y} hx hy=>by rw[hz x hx,hz y hy,F.G.eL F.G.me];exact he,fun h=>h.1.1⟩,fun d' z h1 h2=>?_,fun x hx P h1 _=>by rw[hz x hx];exact h1⟩;have:=(htb d' z h2).1;omega
 |k+1,d,hd=>by
  obtain⟨hS,hT,hP⟩:=Bq.closed F htb hp hc k (d+1) (by omega);have hA:=F.J6 (d:=d) (by omega);have hle:∀x,Sd M m e n f inv t (d+1) x→Sd M m e n f inv t d x:=fun x h=>(Hf.1 h).1;cases ht:t d with
  |none=>
   have hge:∀x,Sd M m e n f inv t d x→Sd M m e n f inv t (d+1) x:=fun x h=>Hf.2 ⟨h,VV hd ht h⟩;refine⟨⟨hle _ hS.me,fun hx hy=>hle _ (hS.cl (hge _ hx) (hge _ hy)),fun h=>h.1.1⟩,fun d' z h1 h2=>?_,fun x hx P h1 h2=>hP x (hge x hx) P h1 (fun a d' z h3 h4 h5 h6=>h2 a d' z (by omega) h4 h5 (hle _ h6))⟩;rcases CP d d' with h|h
   ·exact hle _ (hT d' z h h2)
   ·obtain rfl:d'=d:=by omega
    rw[ht]at h2;simp at h2
  |some y=>
   obtain⟨_,DL,hy1⟩:=htb d y ht;have CW:=DL.1;have G:=F.G;have hb:=fun {s:α} (hs:Sd M m e n f inv t (d+1) s) a=>F.back hd htb ht hS (hp d y ht) hs a;have hf:∀x,Sd M m e n f inv t d x→∃s a,Sd M m e n f inv t (d+1) s∧x=m s (npow m e y a):=fun x hx=>by
    refine⟨_,f d x,(AB7 F hd htb ht hx.1).1 hx,?_⟩;rw[G.Am hx.1.1 (G.npow (F.iM CW) _) (G.npow CW _),(F.TA CW _).2,G.eR hx.1.1]
   have AMF:∀d' z,d+1≤d'→t d'=some z→∃z',Sd M m e n f inv t (d+1) z'∧m z y=m y z':=fun d' z hdd hz=>by
    have xA:=hT d' z hdd hz;have Wh:A M f d z:=WG (htb d' z hz).2.1 (by omega);have Jb:=Wh.1;rcases hc d d' y z (by omega) ht hz with h|h
    ·have Wi:Sd M m e n f inv t (d+1) (CF m inv y z):=⟨F.iZ (by omega) DL Wh,h⟩;have hi:=F.J2 hS Wi;refine⟨m z (inv (CF m inv y z)),hS.cl xA hi,?_⟩;have e1:m (m z y) (CF m inv y z)=m y z:=by rw[CF,←G.Am (G.cl Jb CW) (F.iM (G.cl Jb CW)) (G.cl CW Jb),F.iR (G.cl Jb CW),G.eL (G.cl CW Jb)]
     rw[←G.Am CW Jb hi.1.1,←e1,G.Am (G.cl Jb CW) Wi.1.1 hi.1.1,F.iR Wi.1.1,G.eR (G.cl Jb CW)]
    ·have Wi:Sd M m e n f inv t (d+1) (CF m inv z y):=⟨F.iZ (by omega) Wh DL,h⟩;refine⟨m z (CF m inv z y),hS.cl xA Wi,?_⟩;rw[←G.Am CW Jb Wi.1.1,CF,←G.Am (G.cl CW Jb) (F.iM (G.cl CW Jb)) (G.cl Jb CW),F.iR (G.cl CW Jb),G.eL (G.cl Jb CW)]
   have n1:∀s,Sd M m e n f inv t (d+1) s→∃s',Sd M m e n f inv t (d+1) s'∧m s y=m y s':=fun s hs=>by
    refine hP s hs (fun s=>∃s',Sd M m e n f inv t (d+1) s'∧m s y=m y s') ⟨e,hS.me,by rw[G.eL CW,G.eR CW]⟩ ?_;rintro a d' z h1 h2 ⟨a',ha',e1⟩ ha;obtain⟨z',hz',e2⟩:=AMF d' z h1 h2;have Jb:=(htb d' z h2).2.1.1;exact⟨m a' z',hS.cl ha' hz',by rw[G.Am ha.1.1 Jb CW,e2,←G.Am ha.1.1 CW hz'.1.1,e1,G.Am CW ha'.1.1 hz'.1.1]⟩
   have nk:∀j s,Sd M m e n f inv t (d+1) s→∃s',Sd M m e n f inv t (d+1) s'∧m s (npow m e y j)=m (npow m e y j) s':=fun j=>by
    induction j with
    |zero=>intro s hs;exact⟨s,hs,by rw[JL,G.eR hs.1.1,G.eL hs.1.1]⟩
    |succ j ih=>
     intro s hs;obtain⟨s',hs',e1⟩:=ih s hs;obtain⟨s2,hs2,e2⟩:=n1 s' hs';have hj:=G.npow CW j;exact⟨s2,hs2,by rw[Dz,←G.Am hs.1.1 hj CW,e1,G.Am hj hs'.1.1 CW,e2,←G.Am hj CW hs2.1.1]⟩
   have n2:∀s,Sd M m e n f inv t (d+1) s→∃s',Sd M m e n f inv t (d+1) s'∧m y s=m s' y:=fun s hs=>by
    obtain⟨N,hN⟩:=F.ord' CW;obtain⟨s',hs',e1⟩:=nk N s hs;have hj:=G.npow CW N;have Wj:=hs.1.1;have e3:m (npow m e y N) y=e:=(Dz m e y N).symm.trans hN;have e4:m y (npow m e y N)=e:=by rw[G.AAq CW];exact hN
    refine⟨s',hs',?_⟩;have e5:m y (m s (npow m e y N))=s':=by rw[e1,←G.Am CW hj hs'.1.1,e4,G.eL hs'.1.1]
    rw[←e5,G.Am CW (G.cl Wj hj) CW,G.Am Wj hj CW,e3,G.eR Wj]
   have nk2:∀j s,Sd M m e n f inv t (d+1) s→∃s',Sd M m e n f inv t (d+1) s'∧m (npow m e y j) s=m s' (npow m e y j):=fun j=>by
    induction j with
    |zero=>intro s hs;exact⟨s,hs,by rw[JL,G.eR hs.1.1,G.eL hs.1.1]⟩
    |succ j ih=>
     intro s hs;obtain⟨s',hs',e1⟩:=n2 s hs;obtain⟨s2,hs2,e2⟩:=ih s' hs';have hj:=G.npow CW j;exact⟨s2,hs2,by rw[Dz,G.Am hj CW hs.1.1,e1,←G.Am hj hs'.1.1 CW,e2,G.Am hs2.1.1 hj CW]⟩
   have hsub:Sub M m e (Sd M m e n f inv t d):=by
    refine⟨hle _ hS.me,fun {x z} hx hz=>?_,fun h=>h.1.1⟩;obtain⟨s,a,hs,rfl⟩:=hf x hx;obtain⟨s2,b,hs2,rfl⟩:=hf z hz;obtain⟨s3,hs3,e1⟩:=nk2 a s2 hs2;have ha:=G.npow CW a;have kU:=G.npow CW b;have Wj:=hs.1.1;have h2M:=hs2.1.1;have h3M:=hs3.1.1;have:m (m s (npow m e y a)) (m s2 (npow m e y b))=m (m s s3) (npow m e y (a+b)):=by
     rw[G.Am Wj ha (G.cl h2M kU),←G.Am ha h2M kU,e1,G.Am h3M ha kU,←G.NV CW,G.Am Wj h3M (G.npow CW _)]
    rw[this];exact hb (hS.cl hs hs3) _
   have hyS:Sd M m e n f inv t d y:=by
    have:=hb hS.me 1;rwa[G.Oa CW,G.eL CW]at this
   refine⟨hsub,fun d' z h1 h2=>?_,fun x hx P h1 h2=>?_⟩
   ·rcases CP d d' with h|h
    ·exact hle _ (hT d' z h h2)
    ·obtain rfl:d'=d:=by omega
     rw[ht]at h2;injection h2 with h2;rw[←h2];exact hyS
   ·obtain⟨s,a,hs,rfl⟩:=hf x hx;have h3:P s:=hP s hs P h1 (fun a d' z h3 h4 h5 h6=>h2 a d' z (by omega) h4 h5 (hle _ h6));have h4:∀a,P (m s (npow m e y a))∧Sd M m e n f inv t d (m s (npow m e y a)):=fun a=>by
     refine⟨?_,hb hs a⟩
     induction a with
     |zero=>rw[JL,G.eR hs.1.1];exact h3
     |succ a ih=>
      rw[Dz,←G.Am hs.1.1 (G.npow CW a) CW];exact h2 _ d y AR ht ih (hb hs a)
    exact(h4 a).1
def Zb:List Nat→List Nat→Prop
 |[],[]=>True
 |a::es,b::os=>a<b∧Zb es os
 |_,_=>False
def BU (t:Nat→Option α):Nat→Nat→List α
 |0,_=>[]
 |k+1,d=>match t d with
  |none=>BU t k (d+1)
  |some u=>u::BU t k (d+1)
def Hw (t:Nat→Option α)(o:Nat→Nat):Nat→Nat→List Nat
 |0,_=>[]
 |k+1,d=>match t d with
  |none=>Hw t o k (d+1)
  |some _=>o d::Hw t o k (d+1)
def Chd (M:α→Prop)(m:α→α→α)(e:α)(n:Nat)(f:Nat→α→Nat)(inv:α→α)(t t2:Nat→Option α):Prop:=
 ∀d,(t d=none→t2 d=none)∧∀y,t d=some y→∃s,Sd M m e n f inv t (d+1) s∧t2 d=some (m y s)
theorem Bq.full (F:Bq M m e n o f inv){t t2:Nat→Option α}(htb:Tb M n f t)(hS:∀d,d≤n→Sub M m e (Sd M m e n f inv t d))(hT:∀d z,t d=some z→Sd M m e n f inv t d z)(h2:Chd M m e n f inv t t2):∀k d,d+k=n→∀x,
  Sd M m e n f inv t d x↔∃es,Zb es (Hw t2 o k d)∧ev m e (BU t2 k d) es=x
 |0,d,hd,x=>by
  have he:=(hS d (by omega)).me;constructor
  ·intro h;exact⟨[],trivial,(F.ze h.1.1 (fun j hj=>h.1.2 j (by omega))).symm⟩
  ·rintro⟨es,h1,rfl⟩;cases es with
   |nil=>exact he
   |cons _ _=>exact h1.elim
 |k+1,d,hd,x=>by
  have ih:=Bq.full F htb hS hT h2 k (d+1) (by omega);have hsub:=hS d (by omega);cases ht:t d with
  |none=>
   have e2:=(h2 d).1 ht;rw[BU,Hw,e2];refine Iff.trans ⟨fun h=>Hf.2 ⟨h,VV hd ht h⟩,fun h=>(Hf.1 h).1⟩ (ih x)
  |some y=>
   obtain⟨s,hs,e2⟩:=(h2 d).2 y ht;rw[BU,Hw,e2];obtain⟨_,DL,hy1⟩:=htb d y ht;have hsA:=GL.1 hs.1;have hu:Sd M m e n f inv t d (m y s):=hsub.cl (hT d y ht) (Hf.1 hs).1;generalize hue:m y s=u at hu;have huM:=hu.1.1;have h1u:f d u=1:=by
    rw[←hue,F.fm (by omega) DL.1 hsA.1.1 DL.2 hsA.1.2,hy1,hsA.2];exact Ez (F.o2 d (by omega))
   have G:=F.G;constructor
   ·intro h;have hv:Sd M m e n f inv t d (m (npow m e (inv u) (f d x)) x):=hsub.cl (hsub.npow (F.J2 hsub hu) _) h;have hi:Sd M m e n f inv t d (npow m e (inv u) (f d x)):=hsub.npow (F.J2 hsub hu) _;have hp:Sd M m e n f inv t d (npow m e u (f d x)):=hsub.npow hu _;have e1:f d (m (npow m e (inv u) (f d x)) (npow m e u (f d x)))=0:=by rw[(F.TA huM _).2,F.fe d (by omega)]
    rw[F.fm (by omega) hi.1.1 hp.1.1 hi.1.2 hp.1.2,F.J5 (by omega) hu.1,h1u,Ic,Nat.add_mod_mod]at e1;have e3:f d (m (npow m e (inv u) (f d x)) x)=0:=by rw[F.fm (by omega) hi.1.1 h.1.1 hi.1.2 h.1.2,e1]
    obtain⟨es,h3,h4⟩:=(ih _).1 (Hf.2 ⟨hv,e3⟩);refine⟨f d x::es,⟨F.lt (by omega) h.1.1,h3⟩,?_⟩;rw[AB.ev,h4,←G.Am hp.1.1 hi.1.1 h.1.1,(F.TA huM _).1,G.eL h.1.1]
   ·rintro⟨es,h3,rfl⟩;cases es with
    |nil=>exact h3.elim
    |cons a es=>
     exact hsub.cl (hsub.npow hu a) (Hf.1 ((ih _).2 ⟨es,h3.2,rfl⟩)).1
structure Inv (M:α→Prop)(m:α→α→α)(e:α)(n:Nat)(o:Nat→Nat)(f:Nat→α→Nat)(inv:α→α)(im:List α)(t:Nat→Option α)(work:List α):Prop where
 tb:Tb M n f t
 tg:∀d y,t d=some y→Gen m e im y
 wg:∀w∈work,Gen m e im w
 ob:∀t',Ext t t'→(∀w∈work,Mem m e f inv t' n 0 w)→(∀x∈im,Mem m e f inv t' n 0 x)∧(∀d y,t d=some y→Mem m e f inv t' n 0 (npow m e y (o d)))∧
  ∀d d' y z,d<d'→t d=some y→t d'=some z→Mem m e f inv t' n 0 (CF m inv y z)∨Mem m e f inv t' n 0 (CF m inv z y)
theorem Inv.start (F:Bq M m e n o f inv){im:List α}(him:∀c∈im,M c):Inv M m e n o f inv im (fun _=>none) im:=
 ⟨fun _ _ h=>by simp at h,fun _ _ h=>by simp at h,fun w hw=>Gen.of F.G him hw,fun t' _ h=>⟨h,fun _ _ h=>by simp at h,fun _ _ _ _ _ h=>by simp at h⟩⟩
theorem Inv.member {im work:List α}{t:Nat→Option α}{x:α}(h:Inv M m e n o f inv im t (work++[x]))(hx:(strip m e f inv t n 0 x).1=n):Inv M m e n o f inv im t work:=by
 refine⟨h.tb,h.tg,fun w hw=>h.wg w (TM _ hw),fun t' he hw=>h.ob t' he (fun w hw'=>?_)⟩;rcases GY.1 hw' with h1|h1
 ·exact hw w h1
 ·rw[GU.1 h1];refine Mem.ext he ?_;unfold Mem;rw[hx];simp
def put (t:Nat→Option α)(d:Nat)(y:α):Nat→Option α:=fun j=>if j=d then some y else t j
theorem Inv.enter (F:Bq M m e n o f inv){im work LQ:List α}(him:∀c∈im,M c){t:Nat→Option α}{x:α}(h:Inv M m e n o f inv im t (work++[x])){d:Nat}{r y:α}(hx:strip m e f inv t n 0 x=(d,r))(hd:d<n){c:Nat}(hy:y=npow m e r c)(hy1:f d y=1)
  (h1:∀w∈work,w∈LQ) (h2:r∈LQ) (h3:npow m e y (o d)∈LQ) (h4:∀d' z,d'≠d→t d'=some z→CF m inv y z∈LQ)
  (h5:∀w∈LQ,w∈work∨w=r∨w=npow m e y (o d)∨∃d' z,d'≠d∧t d'=some z∧w=CF m inv y z):Inv M m e n o f inv im (put t d y) LQ:=by
 have hgs:=Gen.sub F.G him;have Zc:=h.wg x (TK _ DJ);have Ri:=hgs.le Zc;have hA:=F.YB h.tb n 0 x (by omega) ⟨Ri,fun j hj=>absurd hj (CO _)⟩;have hsg:=pF F hgs h.tg n 0 x Zc;have hrest:=fun t' he hm=>AIN F (t':=t') h.tb he Ri hm;rw[hx]at hA hsg hrest;simp only at hA hsg hrest;have htd:=(hA.2 hd).2;have QI:Gen m e im y:=hy▸hgs.npow hsg c;have DL:A M f d y:=hy▸(F.J6 (DT hd)).npow hA.1 c;have hput:∀j z,put t d y j=some z→(j=d∧z=y)∨(j≠d∧t j=some z):=fun j z hz=>by
  unfold put at hz;split at hz
  ·next hj=>injection hz with hz;exact .inl ⟨hj,hz.symm⟩
  ·next hj=>exact .inr ⟨hj,hz⟩
 have Yq:∀t',Ext (put t d y) t'→Ext t t':=fun t' he j z hz=>he j z (by
  unfold put;rw[BD (fun hj=>by rw[hj,htd]at hz;simp at hz)];exact hz)
 refine⟨fun j z hz=>?_,fun j z hz=>?_,fun w hw=>?_,fun t' he hw=>?_⟩
 ·rcases hput j z hz with⟨rfl,rfl⟩|⟨_,hz⟩
  ·exact⟨hd,DL,hy1⟩
  ·exact h.tb j z hz
 ·rcases hput j z hz with⟨rfl,rfl⟩|⟨_,hz⟩
  ·exact QI
  ·exact h.tg j z hz
 ·rcases h5 w hw with h6|rfl|rfl|⟨d',z,_,hz,rfl⟩
  ·exact h.wg w (TM _ h6)
  ·exact hsg
  ·exact hgs.npow QI _
  ·have Zd:=h.tg d' z hz;exact hgs.cl (F.J2 hgs (hgs.cl Zd QI)) (hgs.cl QI Zd)
 ·have hold:=h.ob t' (Yq t' he) (fun w hw'=>by
   rcases GY.1 hw' with h6|h6
   ·exact hw w (h1 w h6)
   ·rw[GU.1 h6];exact hrest t' (Yq t' he) (hw r h2))
  refine⟨hold.1,fun j z hz=>?_,fun j j' z z' hj hz hz'=>?_⟩
  ·rcases hput j z hz with⟨rfl,rfl⟩|⟨_,hz⟩
   ·exact hw _ h3
   ·exact hold.2.1 j z hz
  ·rcases hput j z hz with⟨e1,e2⟩|⟨hne,hz2⟩
   ·rcases hput j' z' hz' with⟨e3,e4⟩|⟨hne',hz2'⟩
    ·omega
    ·rw[e2];exact .inl (hw _ (h4 j' z' hne' hz2'))
   ·rcases hput j' z' hz' with⟨e3,e4⟩|⟨hne',hz2'⟩
    ·rw[e4];exact .inr (hw _ (h4 j z hne hz2))
    ·exact hold.2.2 j j' z z' hj hz2 hz2'
structure Nw (M:α→Prop)(m:α→α→α)(e:α)(n:Nat)(f:Nat→α→Nat)(inv:α→α)(im:List α)(t:Nat→Option α):Prop where
 tb:Tb M n f t
 sub:∀d,d≤n→Sub M m e (Sd M m e n f inv t d)
 mem:∀d z,t d=some z→Sd M m e n f inv t d z
 gen:∀x,Gen m e im x↔Sd M m e n f inv t 0 x
theorem Inv.Ze (F:Bq M m e n o f inv){im:List α}(him:∀c∈im,M c){t:Nat→Option α}(h:Inv M m e n o f inv im t []):Nw M m e n f inv im t:=by
 have ho:=h.ob t (fun _ _ h=>h) (fun w hw=>by simp at hw);have hcl:=F.closed h.tb ho.2.1 ho.2.2;have hcl':∀d,d≤n→_:=fun d hd=>hcl (n-d) d (by omega);refine⟨h.tb,fun d hd=>(hcl' d hd).1,fun d z hz=>(hcl' d (DT (h.tb d z hz).1)).2.1 d z AR hz,fun x=>⟨fun hx=>?_,fun hx=>?_⟩⟩
 ·exact(hcl' 0 (by omega)).1.gen (fun c hc=>⟨⟨him c hc,fun j hj=>absurd hj (CO _)⟩,ho.1 c hc⟩) hx
 ·exact(hcl' 0 (by omega)).2.2 x hx (Gen m e im) Gen.one (fun a d' z _ hz ha _=>ha.mul F.G him (h.tg d' z hz))
end
end Go.Proofs.YtaadbccidfdniaaGreat.Gen
namespace Go.Proofs.YtaadbccidfdniaaGreat.Cu
open AB Gen
open Classical in
noncomputable def Ap (T:Tw)(x:List Nat):List Nat:=if h:∃y,El T y∧mul T x y=AB.one T∧mul T y x=AB.one T then Classical.choose h else AB.one T
theorem FJ {T:Tw}(h:Wf T)(hg:AB.Good T){x:List Nat}(hx:El T x):El T (Ap T x)∧mul T x (Ap T x)=AB.one T∧mul T (Ap T x) x=AB.one T:=by
 have hex:∃y,El T y∧mul T x y=AB.one T∧mul T y x=AB.one T:=(BO h hg).iv hx;unfold Ap;rw[dif_pos hex];exact P5 hex
theorem fq {T:Tw}(h:Wf T)(hg:AB.Good T){x y:List Nat}(hx:El T x)(hy:El T y)(e:mul T x y=AB.one T):y=Ap T x:=by
 have hv:=FJ h hg hx;exact(BO h hg).Ob hx hy hv.1 (e.trans hv.2.1.symm)
def oF (T:Tw)(d:Nat):Nat:=(T.getD d default).o
def fF (d:Nat)(x:List Nat):Nat:=x.getD d 0
theorem eH {x:List Nat}{d:Nat}(hd:d≤x.length)(h:∀j,j<d→fF j x=0):x=pad d (x.drop d):=by
 refine Oi fun i=>?_;unfold pad;rcases CP i d with hi|hi
 ·rw[EA (by simpa using hi),Nl,Bo hi];have:=h i hi;unfold fF at this;rw[BV,AO (by omega)]at this;rw[AO (by omega)];simpa using this
 ·rw[D9 (by simpa using hi),Ho,DK,Kg hi]
theorem iB (d a:Nat)(x:List Nat):fF d (pad d (a::x))=a:=by
 unfold fF pad;rw[BV,D9 (by simp)];simp
theorem J7 {T:Tw}{d:Nat}{L:Lv}(h:T[d]?=some L):oF T d=L.o:=by
 unfold oF;rw[BV,h];rfl
theorem Em {T:Tw}(h:Wf T)(hg:AB.Good T):Bq (El T) (mul T) (AB.one T) T.length (oF T) fF (Ap T):=by
 refine⟨BO h hg,fun d hd=>?_,fun d hd=>?_,fun {d x} hd hx=>?_,fun {d x y} hd hx hy h1 h2=>?_,fun {x} hx h1=>?_,fun hx=>(FJ h hg hx).1,fun hx=>(FJ h hg hx).2.1,fun hx=>(FJ h hg hx).2.2⟩
 ·obtain⟨L,hL⟩:∃L,T[d]?=some L:=⟨_,AO hd⟩;rw[J7 hL];exact(lvl' h hL).2.2.2.2
 ·unfold fF AB.one;rw[BV,Nl];split<;>rfl
 ·obtain⟨a,ha⟩:∃a,x[d]?=some a:=⟨_,AO (by rw[AZ hx];exact hd)⟩;obtain⟨L,hL,hlt⟩:=LP hx ha;rw[J7 hL];unfold fF;rw[BV,ha];exact hlt
 ·obtain⟨L,hL⟩:∃L,T[d]?=some L:=⟨_,AO hd⟩;have ex:=eH (by rw[AZ hx];omega) h1;have ey:=eH (by rw[AZ hy];omega) h2;have hxd:=KY hx d;have Zf:=KY hy d;rw[Fw hL]at hxd Zf;generalize x.drop d=x' at ex hxd;generalize y.drop d=y' at ey Zf;cases x' with
  |nil=>exact hxd.elim
  |cons a x'=>
   cases y' with
   |nil=>exact Zf.elim
   |cons b y'=>
    have e:mul T x y=pad d (mul (T.drop d) (a::x') (b::y')):=by rw[ex,ey,AIJ h d (by rw[Fw hL];exact hxd) (by rw[Fw hL];exact Zf) (by omega)]
    rw[e,Fw hL,JN,J7 hL,ex,ey,iB,iB];have ha:=hxd.1;have hb:=Zf.1;split
    ·rw[iB,Nat.mod_eq_sub_mod (by omega),Ez (by omega)]
    ·rw[iB,Ez (by omega)]
 ·have:=eH (d:=T.length) (by rw[AZ hx];omega) h1;rw[this,←AZ hx,Nb];simp[pad,AB.one,AZ hx]
theorem ACh {Q T:Tw}(hQ:Wf Q)(hg:AB.Good Q)(hT:Wf T){cs:List (List Nat)}(hc:∀c∈cs,El Q c)(hR:Rel (mul Q) (AB.one Q) T cs)(x:List Nat):Gen (mul Q) (AB.one Q) cs x↔∃z,El T z∧ev (mul Q) (AB.one Q) cs z=x:=by
 have G:=BO hQ hg;have hcl:=Xt hR;have hone:∀(cs:List (List Nat)) n,ev (mul Q) (AB.one Q) cs (List.replicate n 0)=AB.one Q:=by
  intro cs
  induction cs with
  |nil=>intro n;cases n<;>rfl
  |cons d ds UJ=>intro n;cases n with
   |zero=>rfl
   |succ n=>exact(BM (mul Q _) (UJ n)).trans (by rw[JL,G.eL G.me])
 have hunit:∀(cs:List (List Nat)) (T:Tw),(∀c∈cs,El Q c)→cs.length=T.length→∀j c,cs[j]?=some c→ev (mul Q) (AB.one Q) cs (unit T j)=c:=by
  intro cs
  induction cs with
  |nil=>intro T _ _ j c hj;simp at hj
  |cons d ds UJ=>intro T hd hl j c hj;cases T with
   |nil=>simp at hl
   |cons L T=>
    have hd1:=hd d DJ;cases j with
    |zero=>
     simp only[CB,Eg]at hj;subst hj;rw[Xv];show mul Q (npow (mul Q) (AB.one Q) d 1) (ev (mul Q) (AB.one Q) ds (AB.one T))=d;rw[G.Oa hd1];exact(BM (mul Q d) (hone ds _)).trans (G.eR hd1)
    |succ j=>
     rw[eF];show mul Q (npow (mul Q) (AB.one Q) d 0) (ev (mul Q) (AB.one Q) ds (unit T j))=c;rw[UJ T (fun x hx=>hd x (Dj _ hx)) (by simpa using hl) j c (by simpa using hj),JL];exact G.eL (hd c (Dj _ (Ak (by simpa using hj))))
 constructor
 ·intro h;refine h (fun x=>∃z,El T z∧ev (mul Q) (AB.one Q) cs z=x) ⟨AB.one T,D5 hT,hone cs _⟩ ?_;rintro y c ⟨z,hz,rfl⟩ hcm;obtain⟨j,hj⟩:=GM hcm;have hjl:j<cs.length:=(Ag.1 hj).1;refine⟨mul T z (unit T j),C8 hT hz (MV hT j),?_⟩;rw[G.Rh hT hc hR hz (MV hT j),hunit cs T hc hcl j c hj]
 ·rintro⟨z,_,rfl⟩;have:∀(ds:List (List Nat)),(∀d∈ds,d∈cs)→∀z,Gen (mul Q) (AB.one Q) cs (ev (mul Q) (AB.one Q) ds z):=by
   intro ds
   induction ds with
   |nil=>intro _ z;cases z<;>exact Gen.one
   |cons d ds ih=>intro hd z;cases z with
    |nil=>exact Gen.one
    |cons a z=>
     have hs:=Gen.sub G hc;exact hs.cl (hs.npow (Gen.of G hc (hd d DJ)) a) (ih (fun x hx=>hd x (Dj _ hx)) z)
  exact this cs (fun _ h=>h) z
end Go.Proofs.YtaadbccidfdniaaGreat.Cu
namespace Go.Proofs.YtaadbccidfdniaaGreat.Gt
open AB Gen
section
variable {α:Type} {M:α→Prop} {m:α→α→α} {e:α} {n:Nat} {o:Nat→Nat} {f:Nat→α→Nat} {inv:α→α}
def DU (m:α→α→α)(e:α)(o:Nat→Nat)(f:Nat→α→Nat)(t:Nat→Option α):Nat→Nat→α→Nat×α
 |0,d,x=>(d,x)
 |k+1,d,x=>if f d x=0 then DU m e o f t k (d+1) x else
  match t d with
  |none=>(d,x)
  |some y=>DU m e o f t k (d+1) (m (npow m e y (o d-f d x)) x)
def Ei (m:α→α→α)(e:α)(o:Nat→Nat)(f:Nat→α→Nat)(t:Nat→Option α)(k d:Nat)(x:α):Prop:=(DU m e o f t k d x).1=d+k
theorem Sy {t:Nat→Option α}{k d:Nat}{x:α}(h:f d x=0):DU m e o f t (k+1) d x=DU m e o f t k (d+1) x:=by rw[DU,Bo h]
theorem Sz {t:Nat→Option α}{k d:Nat}{x y:α}(h:f d x≠0)(ht:t d=some y):DU m e o f t (k+1) d x=DU m e o f t k (d+1) (m (npow m e y (o d-f d x)) x):=by rw[DU,BD h,ht]
theorem VQ {t:Nat→Option α}{k d:Nat}{x:α}(h:f d x≠0)(ht:t d=none):DU m e o f t (k+1) d x=(d,x):=by rw[DU,BD h,ht]
theorem rG (t:Nat→Option α):∀(k d:Nat) (x:α),d≤(DU m e o f t k d x).1∧(DU m e o f t k d x).1≤d+k
 |0,d,x=>⟨Av _,Av _⟩
 |k+1,d,x=>by
  by_cases h:f d x=0
  ·rw[Sy h];have:=rG t k (d+1) x;omega
  ·cases ht:t d with
   |none=>rw[VQ h ht];exact⟨Av _,Nat.le_add_right _ _⟩
   |some y=>rw[Sz h ht];have:=rG t k (d+1) (m (npow m e y (o d-f d x)) x);omega
theorem sZ (F:Bq M m e n o f inv){d:Nat}(hd:d<n){x y:α}(hx:A M f d x)(hy:A M f d y)(h1:f d y=1):A M f (d+1) (m (npow m e y (o d-f d x)) x):=by
 have hs:=F.J6 (DT hd);have hp:=hs.npow hy (o d-f d x);refine GL.2 ⟨hs.cl hp hx,?_⟩;have hlt:=F.lt hd hx.1;rw[F.fm hd hp.1 hx.1 hp.2 hx.2,F.J5 hd hy,h1,Ic,Nat.mod_add_mod,Nat.sub_add_cancel (DT hlt),Nat.mod_self]
theorem YU (F:Bq M m e n o f inv){t:Nat→Option α}(ht:Tb M n f t):∀(k d:Nat) (x:α),d+k=n→A M f d x→
  A M f (DU m e o f t k d x).1 (DU m e o f t k d x).2∧((DU m e o f t k d x).1<n→f (DU m e o f t k d x).1 (DU m e o f t k d x).2≠0∧t (DU m e o f t k d x).1=none)
 |0,d,x,h,hx=>⟨hx,fun h'=>absurd h' (by simp only[DU];omega)⟩
 |k+1,d,x,h,hx=>by
  by_cases h0:f d x=0
  ·rw[Sy h0];exact YU F ht k (d+1) x (by omega) (GL.2 ⟨hx,h0⟩)
  ·cases hd:t d with
   |none=>rw[VQ h0 hd];exact⟨hx,fun _=>⟨h0,hd⟩⟩
   |some y=>rw[Sz h0 hd];exact YU F ht k (d+1) _ (by omega) (sZ F (by omega) hx (ht d y hd).2.1 (ht d y hd).2.2)
theorem qV {S:α→Prop}(F:Bq M m e n o f inv)(hS:Sub M m e S){t:Nat→Option α}(ht:∀d y,t d=some y→S y):∀(k d:Nat) (x:α),S x→S (DU m e o f t k d x).2
 |0,d,x,hx=>hx
 |k+1,d,x,hx=>by
  by_cases h0:f d x=0
  ·rw[Sy h0];exact qV F hS ht k (d+1) x hx
  ·cases hd:t d with
   |none=>rw[VQ h0 hd];exact hx
   |some y=>rw[Sz h0 hd];exact qV F hS ht k (d+1) _ (hS.cl (hS.npow (ht d y hd) _) hx)
theorem fu {t t':Nat→Option α}(h:Ext t t'):∀(k d:Nat) (x:α),∃k',(DU m e o f t k d x).1+k'=d+k∧DU m e o f t' k d x=DU m e o f t' k' (DU m e o f t k d x).1 (DU m e o f t k d x).2
 |0,d,x=>⟨0,rfl,rfl⟩
 |k+1,d,x=>by
  by_cases h0:f d x=0
  ·rw[Sy h0,Sy h0];obtain⟨k',h1,h2⟩:=fu h k (d+1) x;exact⟨k',by omega,h2⟩
  ·cases hd:t d with
   |none=>rw[VQ h0 hd];exact⟨k+1,rfl,rfl⟩
   |some y=>
    rw[Sz h0 hd,Sz h0 (h d y hd)];obtain⟨k',h1,h2⟩:=fu h k (d+1) (m (npow m e y (o d-f d x)) x);exact⟨k',by omega,h2⟩
theorem Ei.ext {t t':Nat→Option α}(h:Ext t t'){k d:Nat}{x:α}(hx:Ei m e o f t k d x):Ei m e o f t' k d x:=by
 obtain⟨k',h1,h2⟩:=fu (m:=m) (e:=e) (o:=o) (f:=f) h k d x;unfold Ei at hx ⊢;rw[h2];rw[hx]at h1 ⊢;obtain rfl:k'=0:=by omega
 rfl
theorem Xw (t:Nat→Option α):∀(j k d:Nat) (x:α),(∀i,i<d+j→f i x=0)→DU m e o f t (j+k) d x=DU m e o f t k (d+j) x
 |0,k,d,x,h=>by rw[Cg];rfl
 |j+1,k,d,x,h=>by
  rw[show j+1+k=j+k+1 by omega,Sy (h d (by omega)),Xw t j k (d+1) x (fun i hi=>h i (by omega)),show d+1+j=d+(j+1) by omega]
theorem AAt {t:Nat→Option α}{k d:Nat}{x:α}(hd:d+k=n)(h:A M f d x):Ei m e o f t n 0 x↔Ei m e o f t k d x:=by
 unfold Ei;rw[←hd,Xw t d k 0 x (by simpa using h.2),Cg,Cg]
theorem AHl (F:Bq M m e n o f inv){t t':Nat→Option α}(ht:Tb M n f t)(h:Ext t t'){x:α}(hx:M x)(hm:Ei m e o f t' n 0 (DU m e o f t n 0 x).2):Ei m e o f t' n 0 x:=by
 have hA:=(YU F ht n 0 x (by omega) ⟨hx,fun j hj=>absurd hj (CO _)⟩).1;obtain⟨k',h1,h2⟩:=fu (m:=m) (e:=e) (o:=o) (f:=f) h n 0 x;have h3:=(AAt (n:=n) (k:=k') (t:=t') (by omega) hA).1 hm;unfold Ei at h3 ⊢;rw[h2,h3,h1]
def Mv (d:Nat)(t:Nat→Option α):Nat→Option α:=fun j=>if j<d then none else t j
theorem Xx {d j:Nat}{t:Nat→Option α}{y:α}:Mv d t j=some y↔d≤j∧t j=some y:=by
 unfold Mv;split
 ·constructor
  ·intro h;simp at h
  ·rintro⟨h1,_⟩;omega
 ·constructor
  ·intro h;exact⟨by omega,h⟩
  ·exact fun h=>h.2
theorem oH {t t':Nat→Option α}:∀(k d:Nat) (x:α),(∀j,d≤j→t j=t' j)→strip m e f inv t k d x=strip m e f inv t' k d x
 |0,d,x,h=>rfl
 |k+1,d,x,h=>by
  by_cases h0:f d x=0
  ·rw[MS h0,MS h0];exact oH k (d+1) x (fun j hj=>h j (by omega))
  ·cases hd:t d with
   |none=>rw[PY h0 hd,PY h0 (by rw[←h d AR];exact hd)]
   |some y=>rw[OZ h0 hd,OZ h0 (by rw[←h d AR];exact hd)];exact oH k (d+1) _ (fun j hj=>h j (by omega))
theorem qW {t:Nat→Option α}{k d:Nat}{x:α}:Mem m e f inv (Mv d t) k d x↔Mem m e f inv t k d x:=by
 unfold Mem;rw[oH (t:=Mv d t) (t':=t) k d x (fun j hj=>by unfold Mv;rw[BD (by omega)])]
theorem AEA (F:Bq M m e n o f inv){t:Nat→Option α}(htb:Tb M n f t)(hp:∀d y,t d=some y→Ei m e o f t n 0 (npow m e y (o d)))
  (hc:∀d d' y z,d<d'→t d=some y→t d'=some z→Ei m e o f t n 0 (CF m inv y z)∨Ei m e o f t n 0 (CF m inv z y)):∀k d,d+k=n→∀x,A M f d x→(Ei m e o f t k d x↔Mem m e f inv t k d x)
 |0,d,hd,x,hx=>Iff.rfl
 |k+1,d,hd,x,hx=>by
  have ih:=AEA F htb hp hc k (d+1) (by omega);by_cases h0:f d x=0
  ·have h1:=ih x (GL.2 ⟨hx,h0⟩);unfold Ei Mem at h1 ⊢;rw[Sy h0,MS h0,show d+(k+1)=d+1+k by omega];exact h1
  ·cases ht:t d with
   |none=>
    unfold Ei Mem;rw[VQ h0 ht,PY h0 ht]
   |some y=>
    obtain⟨_,DL,hy1⟩:=htb d y ht;have up:∀z,A M f (d+1) z→Ei m e o f t n 0 z→Mem m e f inv (Mv d t) n 0 z:=fun z hz hm=>by
     have h1:=(ih z hz).1 ((AAt (by omega) hz).1 hm);have h2:Mem m e f inv t n 0 z:=(MU (by omega) hz).2 h1;exact(MU hd (GL.1 hz).1).2 (qW.2 ((MU hd (GL.1 hz).1).1 h2))
    have hA:=F.J6 (d:=d) (by omega);have htb':Tb M n f (Mv d t):=fun j z hz=>htb j z (Xx.1 hz).2;obtain⟨hS,hT,_⟩:=F.closed htb' (fun j z hz=>by
      obtain⟨hj,hz⟩:=Xx.1 hz;obtain⟨hjn,Wh,hz1⟩:=htb j z hz;refine up _ (WG (GL.2 ⟨(F.J6 (DT hjn)).npow Wh _,?_⟩) (by omega)) (hp j z hz);rw[F.J5 hjn Wh,Nat.mul_mod_right]) (fun j j' y1 z1 hj h1 h2=>by
      obtain⟨hj1,h1⟩:=Xx.1 h1;obtain⟨hj2,h2⟩:=Xx.1 h2;have a1:=WG (htb j y1 h1).2.1 hj1;have a2:=WG (htb j' z1 h2).2.1 hj2;rcases hc j j' y1 z1 hj h1 h2 with h3|h3
      ·exact .inl (up _ (F.iZ (by omega) a1 a2) h3)
      ·exact .inr (up _ (F.iZ (by omega) a2 a1) h3)) (k+1) d hd
    have hy:Sd M m e n f inv (Mv d t) d y:=hT d y AR (Xx.2 ⟨Av _,ht⟩);have hpw:=hS.npow hy (o d-f d x);have hr:=sZ F (by omega) hx DL hy1;have e1:Ei m e o f t (k+1) d x↔Mem m e f inv t k (d+1) (m (npow m e y (o d-f d x)) x):=by
     rw[←ih _ hr];unfold Ei;rw[Sz h0 ht,show d+(k+1)=d+1+k by omega]
    have e2:Mem m e f inv t k (d+1) (m (npow m e y (o d-f d x)) x)↔Sd M m e n f inv (Mv d t) d (m (npow m e y (o d-f d x)) x):=by
     rw[←MU (n:=n) (by omega) hr,MU hd (GL.1 hr).1,←qW,←MU hd (GL.1 hr).1];exact⟨fun h=>⟨(GL.1 hr).1,h⟩,fun h=>h.2⟩
    have e3:Sd M m e n f inv (Mv d t) d (m (npow m e y (o d-f d x)) x)↔Sd M m e n f inv (Mv d t) d x:=by
     constructor
     ·intro h;have h1:=hS.cl (F.J2 hS hpw) h;rw[←F.G.Am (F.iM hpw.1.1) hpw.1.1 hx.1,F.iL hpw.1.1,F.G.eL hx.1]at h1;exact h1
     ·intro h;exact hS.cl hpw h
    have e4:Sd M m e n f inv (Mv d t) d x↔Mem m e f inv t (k+1) d x:=by
     rw[←qW,←MU hd hx];exact⟨fun h=>h.2,fun h=>⟨hx,h⟩⟩
    exact e1.trans (e2.trans (e3.trans e4))
structure JZ (M:α→Prop)(m:α→α→α)(e:α)(n:Nat)(o:Nat→Nat)(f:Nat→α→Nat)(inv:α→α)(im:List α)(t:Nat→Option α)(work:List α):Prop where
 tb:Tb M n f t
 tg:∀d y,t d=some y→Gen m e im y
 wg:∀w∈work,Gen m e im w
 ob:∀t',Ext t t'→(∀w∈work,Ei m e o f t' n 0 w)→(∀x∈im,Ei m e o f t' n 0 x)∧(∀d y,t d=some y→Ei m e o f t' n 0 (npow m e y (o d)))∧
  ∀d d' y z,d<d'→t d=some y→t d'=some z→Ei m e o f t' n 0 (CF m inv y z)∨Ei m e o f t' n 0 (CF m inv z y)
theorem JZ.start (F:Bq M m e n o f inv){im:List α}(him:∀c∈im,M c):JZ M m e n o f inv im (fun _=>none) im:=
 ⟨fun _ _ h=>by simp at h,fun _ _ h=>by simp at h,fun w hw=>Gen.of F.G him hw,fun t' _ h=>⟨h,fun _ _ h=>by simp at h,fun _ _ _ _ _ h=>by simp at h⟩⟩
theorem JZ.member {im work:List α}{t:Nat→Option α}{x:α}(h:JZ M m e n o f inv im t (x::work))(hx:(DU m e o f t n 0 x).1=n):JZ M m e n o f inv im t work:=by
 refine⟨h.tb,h.tg,fun w hw=>h.wg w (Dj _ hw),fun t' he hw=>h.ob t' he (fun w hw'=>?_)⟩;rcases F8.1 hw' with h1|h1
 ·rw[h1];refine Ei.ext he ?_;unfold Ei;rw[hx];simp
 ·exact hw w h1
theorem JZ.enter (F:Bq M m e n o f inv){im work LQ:List α}(him:∀c∈im,M c){t:Nat→Option α}{x:α}(h:JZ M m e n o f inv im t (x::work)){d:Nat}{r y:α}(hx:DU m e o f t n 0 x=(d,r))(hd:d<n){c:Nat}(hy:y=npow m e r c)(hy1:f d y=1)
  (h1:∀w∈work,w∈LQ) (h2:r∈LQ) (h3:npow m e y (o d)∈LQ) (h4:∀d' z,t d'=some z→CF m inv z y∈LQ)
  (h5:∀w∈LQ,w∈work∨w=r∨w=npow m e y (o d)∨∃d' z,t d'=some z∧w=CF m inv z y):JZ M m e n o f inv im (put t d y) LQ:=by
 have hgs:=Gen.sub F.G him;have Zc:=h.wg x DJ;have Ri:=hgs.le Zc;have hA:=YU F h.tb n 0 x (by omega) ⟨Ri,fun j hj=>absurd hj (CO _)⟩;have hsg:=qV F hgs h.tg n 0 x Zc;have hrest:=fun t' he hm=>AHl F (t':=t') h.tb he Ri hm;rw[hx]at hA hsg hrest;simp only at hA hsg hrest;have htd:=(hA.2 hd).2;have QI:Gen m e im y:=hy▸hgs.npow hsg c;have DL:A M f d y:=hy▸(F.J6 (DT hd)).npow hA.1 c;have hput:∀j z,put t d y j=some z→(j=d∧z=y)∨(j≠d∧t j=some z):=fun j z hz=>by
  unfold put at hz;split at hz
  ·next hj=>injection hz with hz;exact .inl ⟨hj,hz.symm⟩
  ·next hj=>exact .inr ⟨hj,hz⟩
 have Yq:∀t',Ext (put t d y) t'→Ext t t':=fun t' he j z hz=>he j z (by
  unfold put;rw[BD (fun hj=>by rw[hj,htd]at hz;simp at hz)];exact hz)
 refine⟨fun j z hz=>?_,fun j z hz=>?_,fun w hw=>?_,fun t' he hw=>?_⟩
 ·rcases hput j z hz with⟨rfl,rfl⟩|⟨_,hz⟩
  ·exact⟨hd,DL,hy1⟩
  ·exact h.tb j z hz
 ·rcases hput j z hz with⟨rfl,rfl⟩|⟨_,hz⟩
  ·exact QI
  ·exact h.tg j z hz
 ·rcases h5 w hw with h6|rfl|rfl|⟨d',z,hz,rfl⟩
  ·exact h.wg w (Dj _ h6)
  ·exact hsg
  ·exact hgs.npow QI _
  ·have Zd:=h.tg d' z hz;exact hgs.cl (F.J2 hgs (hgs.cl QI Zd)) (hgs.cl Zd QI)
 ·have hold:=h.ob t' (Yq t' he) (fun w hw'=>by
   rcases F8.1 hw' with h6|h6
   ·rw[h6];exact hrest t' (Yq t' he) (hw r h2)
   ·exact hw w (h1 w h6))
  refine⟨hold.1,fun j z hz=>?_,fun j j' z z' hj hz hz'=>?_⟩
  ·rcases hput j z hz with⟨rfl,rfl⟩|⟨_,hz⟩
   ·exact hw _ h3
   ·exact hold.2.1 j z hz
  ·rcases hput j z hz with⟨e1,e2⟩|⟨hne,hz2⟩
   ·rcases hput j' z' hz' with⟨e3,e4⟩|⟨hne',hz2'⟩
    ·omega
    ·rw[e2];exact .inr (hw _ (h4 j' z' hz2'))
   ·rcases hput j' z' hz' with⟨e3,e4⟩|⟨hne',hz2'⟩
    ·rw[e4];exact .inl (hw _ (h4 j z hz2))
    ·exact hold.2.2 j j' z z' hj hz2 hz2'
theorem JZ.Ze (F:Bq M m e n o f inv){im:List α}(him:∀c∈im,M c){t:Nat→Option α}(h:JZ M m e n o f inv im t []):Nw M m e n f inv im t:=by
 have ho:=h.ob t (fun _ _ h=>h) (fun w hw=>by simp at hw);have hgs:=Gen.sub F.G him;have hlm:=AEA F h.tb ho.2.1 ho.2.2 n 0 (by omega);have up:∀x,M x→Ei m e o f t n 0 x→Mem m e f inv t n 0 x:=fun x hx hm=>(hlm x ⟨hx,fun j hj=>absurd hj (CO _)⟩).1 hm;have Wl:∀d y d' z,t d=some y→t d'=some z→M (CF m inv y z):=fun d y d' z h1 h2=>by
  have a:=(h.tb d y h1).2.1.1;have b:=(h.tb d' z h2).2.1.1;exact F.G.cl (F.iM (F.G.cl b a)) (F.G.cl a b)
 have hcl:=F.closed h.tb (fun d y hy=>up _ (F.G.npow (h.tb d y hy).2.1.1 _) (ho.2.1 d y hy)) (fun d d' y z hj h1 h2=>(ho.2.2 d d' y z hj h1 h2).imp (up _ (Wl d y d' z h1 h2)) (up _ (Wl d' z d y h2 h1)));have hcl':∀d,d≤n→_:=fun d hd=>hcl (n-d) d (by omega);refine⟨h.tb,fun d hd=>(hcl' d hd).1,fun d z hz=>(hcl' d (DT (h.tb d z hz).1)).2.1 d z AR hz,fun x=>⟨fun hx=>?_,fun hx=>?_⟩⟩
 ·exact(hcl' 0 (by omega)).1.gen (fun c hc=>⟨⟨him c hc,fun j hj=>absurd hj (CO _)⟩,up c (him c hc) (ho.1 c hc)⟩) hx
 ·exact(hcl' 0 (by omega)).2.2 x hx (Gen m e im) Gen.one (fun a d' z _ hz ha _=>ha.mul F.G him (h.tg d' z hz))
def Fr (M:α→Prop)(m:α→α→α)(n:Nat)(o:Nat→Nat)(f:Nat→α→Nat):Prop:=∀{d x z},d<n→M x→A M f d z→(∀j,j<d→f j (m x z)=f j x)∧f d (m x z)=(f d x+f d z)%o d
def Zs (f:Nat→α→Nat)(t:Nat→Option α)(d j:Nat)(x:α):Prop:=∀i,d≤i→i<j→t i≠none→f i x=0
theorem AHG (F:Bq M m e n o f inv)(R:Fr M m n o f){im:List α}{t:Nat→Option α}(hc:Nw M m e n f inv im t){d:Nat}(hd:d<n){r r':α}(h:Sd M m e n f inv t d r)(h':Sd M m e n f inv t d r')(h1:f d r=f d r')
  (hz:Zs f t (d+1) n r) (hz':Zs f t (d+1) n r'):r=r':=by
 have hS:=hc.sub d (DT hd);have hi:=F.J2 hS h;have hzz:=hS.cl hi h';have e1:m r (m (inv r) r')=r':=by rw[←F.G.Am h.1.1 hi.1.1 h'.1.1,F.iR h.1.1,F.G.eL h'.1.1]
 have key:m (inv r) r'=e:=by
  refine F.ze hzz.1.1 fun j hj=>?_
  induction j using Nat.strongRecOn with
  |_ j ih=>
   have hA:A M f j (m (inv r) r'):=⟨hzz.1.1,fun i hi=>ih i hi (by omega)⟩;have h2:=(R hj h.1.1 hA).2;rw[e1]at h2;have hlt:=F.lt hj hzz.1.1;by_cases hjd:j<d
   ·exact hzz.1.2 j hjd
   by_cases hjd:j=d
   ·subst hjd;rw[←h1]at h2;have ha:=F.lt hj h.1.1;generalize f j (m (inv r) r')=c at h2 hlt ⊢;generalize f j r=a at h2 ha;by_cases hs:a+c<o j
    ·rw[Ez hs]at h2;omega
    ·rw[Nat.mod_eq_sub_mod (by omega),Ez (by omega)]at h2;omega
   ·cases ht:t j with
    |none=>
     have hSj:Sd M m e n f inv t j (m (inv r) r'):=⟨hA,hzz.2⟩;exact VV (k:=n-j-1) (by omega) ht hSj
    |some y=>
     rw[hz j (by omega) hj (by rw[ht];simp),hz' j (by omega) hj (by rw[ht];simp),Cg,Ez hlt]at h2;exact h2.symm
 rw[key,F.G.eR h.1.1]at e1;exact e1
theorem pG (F:Bq M m e n o f inv){im:List α}{t t':Nat→Option α}(hc:Nw M m e n f inv im t)(hc':Nw M m e n f inv im t'){d:Nat}(h:t d=none):t' d=none:=by
 cases ht:t' d with
 |none=>rfl
 |some y=>
  obtain⟨hd,hy,h1⟩:=hc'.tb d y ht;have h2:=(hc.gen y).1 ((hc'.gen y).2 ⟨⟨hy.1,fun j hj=>absurd hj (CO _)⟩,(hc'.mem d y ht).2⟩);have h3:=VV (k:=n-d-1) (by omega) h (show Sd M m e n f inv t d y from⟨hy,h2.2⟩);omega
def Cf (M:α→Prop)(m:α→α→α)(e:α)(n:Nat)(f:Nat→α→Nat)(inv:α→α)(t t2:Nat→Option α):Prop:=
 ∀d,(t d=none→t2 d=none)∧∀y,t d=some y→∃r,Sd M m e n f inv t d r∧f d r=1∧Zs f t (d+1) n r∧t2 d=some r
theorem canon (F:Bq M m e n o f inv)(R:Fr M m n o f){im:List α}{t t' t2 t2':Nat→Option α}(hc:Nw M m e n f inv im t)(hc':Nw M m e n f inv im t')(h:Cf M m e n f inv t t2)(h':Cf M m e n f inv t' t2')(d:Nat):t2 d=t2' d:=by
 cases ht:t d with
 |none=>rw[(h d).1 ht,(h' d).1 (pG F hc hc' ht)]
 |some y=>
  cases ht':t' d with
  |none=>rw[pG F hc' hc ht']at ht;simp at ht
  |some y'=>
   obtain⟨r,h1,h2,h3,h4⟩:=(h d).2 y ht;obtain⟨r',h1',h2',h3',h4'⟩:=(h' d).2 y' ht';have hd:=(hc.tb d y ht).1;rw[h4,h4'];have hmem:Mem m e f inv t n 0 r':=((hc.gen r').1 ((hc'.gen r').2 ⟨⟨h1'.1.1,fun j hj=>absurd hj (CO _)⟩,h1'.2⟩)).2;refine BM some (AHG F R hc hd h1 ⟨h1'.1,hmem⟩ (h2.trans h2'.symm) h3 fun i hi hn hne=>h3' i hi hn fun h0=>hne (pG F hc' hc h0))
theorem ABR {t t':Nat→Option α}:∀(k d:Nat),(∀j,t j=t' j)→BU t k d=BU t' k d
 |0,d,h=>rfl
 |k+1,d,h=>by rw[BU,BU,h d,ABR k (d+1) h]
theorem AB8 (F:Bq M m e n o f inv){im:List α}{t:Nat→Option α}(hc:Nw M m e n f inv im t){x s:α}(hx:M x)(hs:Sd M m e n f inv t 0 s)(hz:Zs f t 0 n (m x s)):m x s=e↔Gen m e im x:=by
 have hS:=hc.sub 0 (AU _);rw[hc.gen];constructor
 ·intro h;have h1:=F.J2 hS hs;have e1:m (m x s) (inv s)=x:=by rw[F.G.Am hx hs.1.1 h1.1.1,F.iR hs.1.1,F.G.eR hx]
  rw[h,F.G.eL h1.1.1]at e1;rw[←e1];exact h1
 ·intro h;have h1:=hS.cl h hs;refine F.ze h1.1.1 fun j hj=>?_
  induction j using Nat.strongRecOn with
  |_ j ih=>
   cases ht:t j with
   |none=>exact VV (k:=n-j-1) (by omega) ht ⟨⟨h1.1.1,fun i hi=>ih i hi (by omega)⟩,h1.2⟩
   |some y=>exact hz j (AU _) hj (by rw[ht];simp)
end
end Go.Proofs.YtaadbccidfdniaaGreat.Gt
namespace Go.Proofs.YtaadbccidfdniaaGreat.EZ
open AB Gen Cu Gt
def dep:List Nat→Nat
 |[]=>0
 |a::x=>if a=0 then dep x+1 else 0
theorem iC:∀x:List Nat,dep x≤x.length
 |[]=>Av _
 |a::x=>by
  have:=iC x;rw[dep,Hl];split<;>omega
theorem Pm:∀(x:List Nat) (k:Nat),(∀j,j<k→x[j]?=some 0)→(∀a,x[k]?=some a→a≠0)→k≤x.length→dep x=k
 |[],k,_,_,h=>by simp at h;subst h;rfl
 |a::x,0,_,h,_=>by
  rw[dep,BD (h a rfl)]
 |a::x,k+1,h1,h2,h3=>by
  have h0:=h1 0 (by omega);simp at h0;rw[dep,Bo h0,Pm x k (fun j hj=>by have:=h1 (j+1) (by omega);simpa using this) (fun a ha=>h2 a (by simpa using ha)) (by simpa using h3)]
theorem AIO {x:List Nat}{j:Nat}(h:j<dep x):x[j]?=some 0:=by
 induction x generalizing j with
 |nil=>simp[dep]at h
 |cons a x ih=>
  rw[dep]at h;by_cases ha:a=0
  ·rw[Bo ha]at h;cases j with
   |zero=>rw[ha];rfl
   |succ j=>rw[Bz];exact ih (by omega)
  ·rw[BD ha]at h;omega
theorem qX {x:List Nat}(h:dep x<x.length):∃a,x[dep x]?=some a∧a≠0:=by
 induction x with
 |nil=>simp at h
 |cons a x ih=>
  rw[dep]at h ⊢;by_cases ha:a=0
  ·rw[Bo ha]at h ⊢;rw[Bz];exact ih (by simpa using h)
  ·rw[BD ha];exact⟨a,rfl,ha⟩
theorem Vp {T:Tw}{x:List Nat}(hx:El T x):A (El T) fF (dep x) x:=⟨hx,fun j hj=>by unfold fF;rw[BV,AIO hj];rfl⟩
theorem TE {T:Tw}{d:Nat}{x:List Nat}(hx:A (El T) fF d x)(h:fF d x≠0)(hd:d<T.length):dep x=d:=by
 have hl:=AZ hx.1;refine Pm x d (fun j hj=>?_) (fun a ha h0=>h ?_) (by omega)
 ·have h1:=hx.2 j hj;unfold fF at h1;rw[BV,AO (by omega)]at h1;rw[AO (by omega)];simp at h1;rw[h1]
 ·unfold fF;rw[BV,ha,h0];rfl
theorem YH {x:List Nat}{d a:Nat}(h:x[d]?=some a):fF d x=a:=by unfold fF;rw[BV,h];rfl
theorem fr {T:Tw}(h:Wf T):Fr (El T) (mul T) T.length (oF T) fF:=fun {d x z} hd hx hz=>by
 obtain⟨L,hL⟩:∃L,T[d]?=some L:=⟨_,AO hd⟩;have ez:=eH (by rw[AZ hz.1];omega) hz.2;have hzd:=KY hz.1 d;have hxd:=KY hx d;have e:=fV h d hx hzd (by omega);rw[←ez]at e;have hxl:=AZ hx;have htl:(x.take d).length=d:=by rw[JX];omega
 constructor
 ·intro j hj;unfold fF;rw[e,BV,BV,EA (by omega),YT hj]
 ·have e2:fF d (mul T x z)=((mul (T.drop d) (x.drop d) (z.drop d))).getD 0 0:=by
   unfold fF;rw[e,BV,BV,D9 (by omega),htl,Nf]
  have e3:fF d x=(x.drop d).getD 0 0:=by unfold fF;rw[BV,BV,Ho,Oc]
  have e4:fF d z=(z.drop d).getD 0 0:=by unfold fF;rw[BV,BV,Ho,Oc]
  rw[e2,e3,e4];rw[Fw hL]at hxd hzd ⊢;generalize x.drop d=x' at hxd ⊢;generalize z.drop d=z' at hzd ⊢;cases x' with
  |nil=>exact hxd.elim
  |cons a x'=>
   cases z' with
   |nil=>exact hzd.elim
   |cons b z'=>
    have ha:=hxd.1;have hb:=hzd.1;rw[JN,J7 hL];show _=(a+b)%L.o;split
    ·rw[Nat.mod_eq_sub_mod (by omega),Ez (by omega)];rfl
    ·rw[Ez (by omega)];rfl
def Mw (T:Tw)(u x:List Nat):List Nat:=mul T x (npow (mul T) (AB.one T) u ((oF T (dep u)-fF (dep u) x)%oF T (dep u)))
def rep (T:Tw):List (List Nat)→List Nat→List Nat
 |[],x=>x
 |u::us,x=>rep T us (Mw T u x)
theorem AIP {T:Tw}(h:Wf T)(hg:AB.Good T){d:Nat}(hd:d<T.length){u x:List Nat}(hu:A (El T) fF d u)(h1:fF d u=1)(hx:El T x):
  ∃c,Mw T u x=mul T x (npow (mul T) (AB.one T) u c)∧fF d (Mw T u x)=0:=by
 have F:=Em h hg;have Lp:=TE hu (by omega) hd;refine⟨_,rfl,?_⟩;unfold Mw;rw[Lp];have hp:=(F.J6 (DT hd)).npow hu ((oF T d-fF d x)%oF T d);rw[(fr h hd hx hp).2,F.J5 hd hu,h1,Ic,Nat.mod_mod,Nat.add_mod_mod,Kg (DT (F.lt hd hx)),Nat.mod_self]
abbrev Kr (T:Tw)(t:Nat→Option (List Nat))(d:Nat)(x:List Nat):Prop:=Sd (El T) (mul T) (AB.one T) T.length fF (Ap T) t d x
theorem fD {T:Tw}(h:Wf T)(hg:AB.Good T){im:List (List Nat)}{t t2:Nat→Option (List Nat)}(hc:Nw (El T) (mul T) (AB.one T) T.length fF (Ap T) im t):
  ∀(k d:Nat),d+k=T.length→(∀j,d≤j→(t j=none→t2 j=none)∧∀y,t j=some y→∃r,Kr T t j r∧fF j r=1∧t2 j=some r)→∀x,El T x→∃s,Kr T t d s∧rep T (BU t2 k d) x=mul T x s∧Zs fF t d T.length (mul T x s)
 |0,d,hd,ht,x,hx=>⟨AB.one T,(hc.sub d (by omega)).me,by rw[(BO h hg).eR hx];rfl,fun i h1 h2=>by omega⟩
 |k+1,d,hd,ht,x,hx=>by
  have F:=Em h hg;have G:=F.G;have hS:=hc.sub d (by omega);cases hy:t d with
  |none=>
   obtain⟨s,h1,h2,h3⟩:=fD h hg hc k (d+1) (by omega) (fun j hj=>ht j (by omega)) x hx;refine⟨s,(Hf.1 h1).1,by rw[BU,(ht d AR).1 hy];exact h2,fun i hi hn hne=>?_⟩;rcases CP d i with hlt|hge
   ·exact h3 i hlt hn hne
   ·obtain rfl:i=d:=by omega
    exact absurd hy hne
  |some y=>
   obtain⟨r,hr,hr1,hr2⟩:=(ht d AR).2 y hy;obtain⟨c,hcl,hcz⟩:=AIP h hg (by omega) hr.1 hr1 hx;have hpr:=hS.npow hr c;have C9:El T (Mw T r x):=by rw[hcl];exact G.cl hx hpr.1.1
   obtain⟨s,h1,h2,h3⟩:=fD h hg hc k (d+1) (by omega) (fun j hj=>ht j (by omega)) (Mw T r x) C9;have e:mul T (Mw T r x) s=mul T x (mul T (npow (mul T) (AB.one T) r c) s):=by rw[hcl,G.Am hx hpr.1.1 h1.1.1]
   refine⟨mul T (npow (mul T) (AB.one T) r c) s,hS.cl hpr (Hf.1 h1).1,by rw[BU,hr2];show rep T _ (Mw T r x)=_;rw[h2,e],fun i hi hn hne=>?_⟩;rw[←e];rcases CP d i with hlt|hge
   ·exact h3 i hlt hn hne
   ·obtain rfl:i=d:=by omega
    have hA1:A (El T) fF (i+1) s:=h1.1;rcases CP (i+1) T.length with hlt|hge'
    ·rw[(fr h hlt C9 hA1).1 i (by omega)];exact hcz
    ·have hs1:s=AB.one T:=F.ze h1.1.1 fun j hj=>hA1.2 j (by omega);rw[hs1,G.eR C9];exact hcz
theorem rH {T:Tw}(h:Wf T)(hg:AB.Good T):∀(us:List (List Nat)) {x:List Nat},(∀u∈us,El T u)→El T x→El T (rep T us x)
 |[],x,_,hx=>hx
 |u::us,x,hu,hx=>rH h hg us (fun v hv=>hu v (Dj _ hv)) (C8 h hx ((BO h hg).npow (hu u DJ) _))
end Go.Proofs.YtaadbccidfdniaaGreat.EZ
namespace Go.Proofs.YtaadbccidfdniaaGreat
open Go.RowKit
def BW (B:Nat)(w0:World):={ w':World // Below B w0 w' }
instance BW.ne (B:Nat)(w0:World):Nonempty (BW B w0):=⟨⟨w0,A7 _ _⟩⟩
theorem AAC {P:Program}{id:Nat}{Q:Exit→Act→World→Prop}{a:Act}{w:World}{l:List Oper}(B:Nat)(w0:World)(hw:Below B w0 w)(hm:P.follows .mixedOrders=true)(hB:Region.lexB .any l.toArray=true)
  (h:wpQuiet P l.toArray (fun w'=>∃x:BW B w0,w'=x.1) (fun a'=>∀w',(∃x:BW B w0,w'=x.1)→Q .normal a' w') l a):(Code.region id l.toArray true).wp P Q a w:=
 wp_region_quiet (C:=fun w'=>∃x:BW B w0,w'=x.1) hm hB ⟨⟨_,hw.drew⟩,rfl⟩ (by simpa using h)
theorem AG5 {P:Program}{f:FuncId}{args:Array Value}{B:Nat}{w0:World}{x:BW B w0}{v:Value}(hB:B≤w0.heap.size)
  (h:Calls P f args x.1 fun e w'=>e= .returned v∧Below x.1.heap.size x.1 w'):Calls P f args x.1 fun e w''=>e= .returned v∧∃y:BW B w0,w''=y.1:=
 h.mono fun _ w' ⟨he,hb⟩=>⟨he,⟨w',x.2.trans (hb.mono (Ad hB x.2.size))⟩,rfl⟩
theorem AAT {P:Program}{f:FuncId}{args:Array Value}{B:Nat}{w0:World}{x:BW B w0}{v:Value}
  (h:Calls P f args x.1 fun e w'=>e= .returned v∧∃n,w'=x.1.drewN n):Calls P f args x.1 fun e w''=>e= .returned v∧∃y:BW B w0,w''=y.1:=
 h.mono fun _ w' ⟨he,n,hb⟩=>⟨he,⟨w',by rw[hb];exact Dk x.2 n⟩,rfl⟩
theorem ADL {W w1:World}(hb:Below W.heap.size W w1):(∀b o,b<W.heap.size→w1.cell? ⟨b,o,none⟩=W.cell? ⟨b,o,none⟩)∧(∀b o,b<W.heap.size→w1.frozen? ⟨b,o,none⟩=W.frozen? ⟨b,o,none⟩):=
 ⟨fun b o h=>hb.cell (p:=⟨b,o,none⟩) h,fun b o h=>hb.frozen (p:=⟨b,o,none⟩) h⟩
end Go.Proofs.YtaadbccidfdniaaGreat
namespace Go.Proofs.YtaadbccidfdniaaGreat
open Go.RowKit AB
theorem FX:(Tryz.prog.info? 2).map (fun i=>(i.zero,i.size,i.bytes))=some (some (.int .i64 0),1,8):=by kernel_rfl
abbrev vals (x:List Int):List Value:=x.map (Value.int .i64)
def Own (B:Nat)(w:World)(v:Value)(x:List Int):Prop:=w.ownsRow B 2 1 v x.length (vals x)
theorem Own.form {B:Nat}{w:World}{v:Value}{x:List Int}(h:Own B w v x)(hx:0<x.length):∃g cap,v= .slice (some ⟨g,0,none⟩) x.length cap:=by
 rcases h.2 with⟨rfl,h0⟩|⟨g,cap,cur,rfl,_⟩
 ·omega
 ·exact⟨g,cap,rfl⟩
theorem Own.lt {B:Nat}{w:World}{g n cap:Nat}{x:List Int}(h:Own B w (.slice (some ⟨g,0,none⟩) n cap) x):B≤g∧g<w.heap.size:=Af h g rfl
theorem Own.sl {B:Nat}{w:World}{v:Value}{x:List Int}(h:Own B w v x):AL (fun k=>B≤k) w v x:=by
 rcases h.2 with⟨rfl,h0⟩|⟨g,cap,cur,rfl,hb,hh,hn,hm,hs,ht⟩
 ·have hx:x=[]:=D8 h0;subst hx;exact⟨none,0,rfl,Av _,AU _,fun _=>rfl,fun i y hy=>by simp at hy⟩
 ·refine⟨_,cap,rfl,hn,hm,fun e=>absurd e (by simp),fun i y hy=>⟨g,0,rfl,hb,(Af h g rfl).2,.int .i64 y,?_,rfl⟩⟩;have hi:i<x.length:=(Ag.1 hy).1;rw[Cg,Ig h i (by omega)];simp[vals,hy]
theorem Own.AO6 {B:Nat}{w:World}{g n cap:Nat}{x:List Int}(h:Own B w (.slice (some ⟨g,0,none⟩) n cap) x):AL (fun k=>k=g) w (.slice (some ⟨g,0,none⟩) n cap) x:=by
 obtain⟨ao,c,e,h1,h2,_,h3⟩:=h.sl;obtain⟨rfl,rfl,rfl⟩:ao=some ⟨g,0,none⟩∧n=x.length∧c=cap:=by simpa[eq_comm]using e
 refine⟨_,c,rfl,h1,h2,fun e=>absurd e (by simp),fun i y hy=>?_⟩;obtain⟨b,o,e1,e2,e3,e4⟩:=h3 i y hy;obtain⟨rfl,rfl⟩:b=g∧o=0:=by simpa[eq_comm]using e1
 exact⟨b,0,rfl,rfl,e3,e4⟩
theorem Own.keep {B:Nat}{S:Nat→Prop}{w w':World}{v:Value}{x:List Int}(h:Own B w v x)(hk:AA S w w')(hS:∀k,v.ownBlock=some k→S k):Own B w' v x:=by
 refine⟨h.1,?_⟩;rcases h.2 with h2|⟨g,cap,cur,rfl,hb,hh,r⟩
 ·exact .inl h2
 ·have hg:=(Af h g rfl).2;exact .inr ⟨g,cap,cur,rfl,hb,by rw[hk.block g (hS g rfl) hg];exact hh,r⟩
theorem Own.of_below {B:Nat}{w w':World}{v:Value}{x:List Int}(h:Own B w v x)(hb:Below w.heap.size w w'):Own B w' v x:=h.keep (S:=fun _=>True) (AA.of_below hb) (fun _ _=>trivial)
theorem Own.mono {B B':Nat}{w:World}{v:Value}{x:List Int}(h:Own B w v x)(hB:B'≤B):Own B' w v x:=by
 refine⟨h.1,?_⟩;rcases h.2 with h2|⟨g,cap,cur,e,hb,r⟩
 ·exact .inl h2
 ·exact .inr ⟨g,cap,cur,e,Ad hB hb,r⟩
theorem ABS (x:List Int)(j:Nat)(a:Int):(vals x).set j (.int .i64 a)=vals (x.set j a):=by simp[vals]
theorem Own.set {B:Nat}{w:World}{g n cap:Nat}{x:List Int}(h:Own B w (.slice (some ⟨g,0,none⟩) n cap) x)(j:Nat)(a:Int):
  Own B (w.setCell ⟨g,j,none⟩ (.int .i64 a)) (.slice (some ⟨g,0,none⟩) n cap) (x.set j a)∧w.grownBy (w.setCell ⟨g,j,none⟩ (.int .i64 a)) (some g):=by
 obtain⟨ao,c,e,_⟩:=h.sl;obtain⟨_,rfl,_⟩:ao=some ⟨g,0,none⟩∧n=x.length∧c=cap:=by simpa[eq_comm]using e
 have:=Q8 h j (.int .i64 a);rw[ABS]at this;refine⟨?_,this.2⟩;unfold Own;rw[List.length_set];exact this.1
theorem Own.drew {B:Nat}{w:World}{v:Value}{x:List Int}(h:Own B w v x):Own B w.drew v x:=h.keep (S:=fun _=>True) ((AA.refl _ w).drew) (fun _ _=>trivial)
theorem Own.alloc {B:Nat}{w:World}{v:Value}{x:List Int}(h:Own B w v x)(o:Obj):Own B (w.alloc o) v x:=h.keep (S:=fun _=>True) ((AA.refl _ w).alloc o) (fun _ _=>trivial)
theorem Own.cell {B:Nat}{w:World}{g n cap:Nat}{x:List Int}(h:Own B w (.slice (some ⟨g,0,none⟩) n cap) x){j:Nat}{a:Int}(ha:x[j]?=some a):w.cell? ⟨g,j,none⟩=some (.int .i64 a)∧w.frozen? ⟨g,j,none⟩=false:=by
 obtain⟨ao,c,e,_⟩:=h.sl;obtain⟨_,rfl,_⟩:ao=some ⟨g,0,none⟩∧n=x.length∧c=cap:=by simpa[eq_comm]using e
 have hj:j<x.length:=(Ag.1 ha).1;exact⟨by rw[Ig h j (by omega)];simp[vals,ha],YR h j⟩
theorem Own.made {B:Nat}(w:World)(n:Nat)(hB:B≤w.heap.size)(hn:n≤maxLen):Own B (w.alloc (.cells (madeCells #[.int .i64 0] n) 2)) (.slice (some ⟨w.heap.size,0,none⟩) n n) (List.replicate n 0):=by
 have:=Nq (base:=B) (e:=2) (size:=1) w (madeCells #[.int .i64 0] n) n hB hn (by simp[madeCells]);rw[Q7]at this;unfold Own;simpa[vals]using this
def Kk (x:List Int)(w:World)(e:Ending)(w':World):Prop:=∃v,e= .returned v∧Own w.heap.size w' v x∧Below w.heap.size w w'
theorem Vq {a b:Bool}(h:a=b):Ending.returned (.bool a)= .returned (.bool b):=by rw[h]
theorem ADM {k:IntKind}{a b:Int}(h:a=b):Ending.returned (.int k a)= .returned (.int k b):=by rw[h]
theorem ints_set (x:List Nat)(j a:Nat):(ints x).set j (a:Int)=ints (x.set j a):=by simp[ints]
theorem OX (n:Nat):List.replicate n (0:Int)=ints (List.replicate n 0):=by simp[ints]
def Ej (x:List Int)(w:World)(e:Ending)(w':World):Prop:=∃g cap,e= .returned (.slice (some ⟨g,0,none⟩) x.length cap)∧Own w.heap.size w' (.slice (some ⟨g,0,none⟩) x.length cap) x∧Below w.heap.size w w'
theorem Own.head {B:Nat}{w:World}{v:Value}{x:List Int}(h:Own B w v x)(hn:v≠.slice none 0 0):∃g cap,v= .slice (some ⟨g,0,none⟩) x.length cap:=by
 rcases h.2 with⟨rfl,h0⟩|⟨g,cap,cur,rfl,_⟩
 ·exact absurd rfl hn
 ·exact⟨g,cap,rfl⟩
theorem AA.drewN {S:Nat→Prop}{a w:World}(h:AA S a w)(n:Nat):AA S a (w.drewN n):=h.trans (AA.of_below (Dk AX n))
theorem Own.drewN {B:Nat}{w:World}{v:Value}{x:List Int}(h:Own B w v x)(n:Nat):Own B (w.drewN n) v x:=h.keep (S:=fun _=>True) ((AA.refl _ w).drewN n) (fun _ _=>trivial)
theorem Au {wr w':World}(h:AA (fun _=>True) wr w'):(∀b o,b<wr.heap.size→w'.cell? ⟨b,o,none⟩=wr.cell? ⟨b,o,none⟩)∧AA (fun _=>True) wr w':=⟨fun b o hb=>h.cell trivial hb,h⟩
theorem Dc {w wr:World}{o:Obj}(hb:Below (w.heap.size+1) (w.alloc o) wr)(S:Nat→Prop):AA S w wr:=
 ⟨Ad (by simp) hb.size,fun k _ hs=>(hb.block k (by omega)).trans (E5 w o k hs)⟩
theorem Cq {w wr:World}{c0 c1 c2:Value}{t:TypeId}(hb:Below (w.heap.size+1) (w.alloc (.cells #[c0,c1,c2] t)) wr):
  wr.cell? ⟨w.heap.size,0,none⟩=some c0∧wr.cell? ⟨w.heap.size,1,none⟩=some c1∧wr.cell? ⟨w.heap.size,2,none⟩=some c2:=by
 refine⟨?_,?_,?_⟩<;>(rw[hb.cell (by show w.heap.size<_;omega),Ah _ w.heap.size _ #[c0,c1,c2] t (0,0) (BA w _)];rfl)
theorem Dq {w wr:World}{o:Obj}(hb:Below (w.heap.size+1) (w.alloc o) wr):Below w.heap.size w wr:=
 ((A7 _ w).alloc AR o).trans (hb.mono (by omega))
theorem addr_add (b o j:Nat):(⟨b,o,none⟩:Addr).add j=⟨b,o+j,none⟩:=by simp[Addr.add]
theorem Own.Nh {B:Nat}{w:World}{g n cap:Nat}{x:List Nat}(h:Own B w (.slice (some ⟨g,0,none⟩) n cap) (ints x))(j a:Nat):
  Own B (w.setCell ⟨g,j,none⟩ (.int .i64 (a:Int))) (.slice (some ⟨g,0,none⟩) n cap) (ints (x.set j a))∧w.grownBy (w.setCell ⟨g,j,none⟩ (.int .i64 (a:Int))) (some g):=by
 rw[←ints_set];exact h.set j a
theorem AL.src {S:Nat→Prop}{w w':World}{ad:Addr}{n c:Nat}{l:List Int}(h:AL S w (.slice (some ad) n c) l)(hk:AA S w w'):∀j u,(vals l)[j]?=some u→w'.cell? (ad.add j)=some u:=by
 intro j u hj;obtain⟨ao,c',e,_,_,_,hx⟩:=h;obtain⟨rfl,_,_⟩:ao=some ad∧n=l.length∧c=c':=by simpa[eq_comm]using e
 simp only[vals,Bn,II]at hj;obtain⟨x,hj,rfl⟩:=hj;obtain⟨b,o,he,hb,hlt,u,hcell,rfl⟩:=hx j x hj;obtain rfl:ad=⟨b,o,none⟩:=Mc he;rw[addr_add,hk.cell hb hlt];exact hcell
theorem Qy (l:List Int):∀u∈vals l,u.oneCell'=true:=by intro u hu;simp only[vals,Cy]at hu;obtain⟨x,_,rfl⟩:=hu;rfl
end Go.Proofs.YtaadbccidfdniaaGreat
namespace Go.Proofs.YtaadbccidfdniaaGreat
open Go.RowKit
theorem Ie:(Tryz.prog.info? 24).map (fun i=>(i.zero,i.size,i.bytes))=some (some (.slice none 0 0),1,24):=by kernel_rfl
theorem YV:(Tryz.prog.info? 3).map (fun i=>(i.zero,i.size,i.bytes))=some (some (.int .i64 0),1,8):=by kernel_rfl
theorem ADN:(Tryz.prog.info? 64).map (fun i=>(i.zero,i.size,i.bytes))=some (some (.slice none 0 0),1,24):=by kernel_rfl
theorem LF {w:World}{B B':Nat}{e e':TypeId}{s s':Nat}{u v:Value}{n n':Nat}{xs ys:List Value}(hu:w.ownsRow B e s u n xs)(hv:w.ownsRow B' e' s' v n' ys)(hne:e≠e'):u.ownBlock=none∨u.ownBlock≠v.ownBlock:=by
 rcases hu.2 with⟨rfl,_⟩|⟨g,cap,cur,rfl,_,hg,_⟩
 ·exact .inl rfl
 ·refine .inr fun h=>?_;rcases hv.2 with⟨rfl,_⟩|⟨g',cap',cur',rfl,_,hg',_⟩
  ·simp[Value.ownBlock]at h
  ·simp[Value.ownBlock]at h;subst h;rw[hg]at hg';simp at hg';exact hne hg'.2
theorem Br {w w':World}{B:Nat}{e:TypeId}{s n:Nat}{v:Value}{xs:List Value}{S:Nat→Prop}(h:w.ownsRow B e s v n xs)(hk:AA S w w')(hS:∀k,B≤k→S k):w'.ownsRow B e s v n xs:=by
 refine⟨h.1,?_⟩;rcases h.2 with hn|⟨g,cap,cur,rfl,hb,hgg,rest⟩
 ·exact .inl hn
 ·exact .inr ⟨g,cap,cur,rfl,hb,by rw[hk.block g (hS g hb) (Ba.1 hgg).1];exact hgg,rest⟩
theorem JI {w:World}{B B':Nat}{e:TypeId}{s n:Nat}{v:Value}{xs:List Value}(h:w.ownsRow B e s v n xs)(hB:B'≤B):w.ownsRow B' e s v n xs:=by
 refine⟨h.1,?_⟩;rcases h.2 with hn|⟨g,cap,cur,rfl,hb,rest⟩
 ·exact .inl hn
 ·exact .inr ⟨g,cap,cur,rfl,Ad hB hb,rest⟩
def Ck (e:TypeId)(B:Nat)(w:World)(u:Value)(r:List Nat):Prop:=(∃g c,u= .slice (some ⟨g,0,none⟩) r.length c)∧w.ownsRow B e 1 u r.length (vals (ints r))
def Own2 (e2 e:TypeId)(B:Nat)(w:World)(v:Value)(rows:List (List Nat)):Prop:=
 ∃us:List Value,w.ownsRow B e2 1 v rows.length us∧us.length=rows.length∧∀(i:Nat) (r:List Nat) (u:Value),rows[i]?=some r→us[i]?=some u→Ck e B w u r
theorem Own2.nil (e2 e:TypeId)(B:Nat)(w:World):Own2 e2 e B w (.slice none 0 0) []:=⟨[],F7 _ _ _ _,rfl,by simp⟩
theorem Ck.keep {e:TypeId}{B:Nat}{S:Nat→Prop}{w w':World}{u:Value}{r:List Nat}(h:Ck e B w u r)(hk:AA S w w')(hS:∀k,B≤k→S k):Ck e B w' u r:=⟨h.1,Br h.2 hk hS⟩
theorem Own2.keep {e2 e:TypeId}{B:Nat}{S:Nat→Prop}{w w':World}{v:Value}{rows:List (List Nat)}(h:Own2 e2 e B w v rows)(hk:AA S w w')(hS:∀k,B≤k→S k):Own2 e2 e B w' v rows:=by
 obtain⟨us,h1,h2,h4⟩:=h;exact⟨us,Br h1 hk hS,h2,fun i r u hr hu=>(h4 i r u hr hu).keep hk hS⟩
theorem Own2.of_below {e2 e:TypeId}{B:Nat}{w w':World}{v:Value}{rows:List (List Nat)}(h:Own2 e2 e B w v rows)(hb:Below w.heap.size w w'):Own2 e2 e B w' v rows:=h.keep (S:=fun _=>True) (AA.of_below hb) (fun _ _=>trivial)
theorem Own2.mono {e2 e:TypeId}{B B':Nat}{w:World}{v:Value}{rows:List (List Nat)}(h:Own2 e2 e B w v rows)(hB:B'≤B):Own2 e2 e B' w v rows:=by
 obtain⟨us,h1,h2,h4⟩:=h;exact⟨us,JI h1 hB,h2,fun i r u hr hu=>⟨(h4 i r u hr hu).1,JI (h4 i r u hr hu).2 hB⟩⟩
theorem Own2.push {e2 e:TypeId}(hne:e≠e2){B n:Nat}{w w':World}{v v' u:Value}{rows:List (List Nat)}{r:List Nat}{us:List Value}(hn:rows.length=n)
  (h1:w.ownsRow B e2 1 v n us) (h2:us.length=rows.length) (h4:∀(i:Nat) (r:List Nat) (u:Value),rows[i]?=some r→us[i]?=some u→Ck e B w u r)
  (hu:Ck e B w u r) (ho:w'.ownsRow B e2 1 v' (n+1) (us++[u])) (hg:w.grownBy w' v.ownBlock):Own2 e2 e B w' v' (rows++[r]):=by
 subst hn;refine⟨us++[u],by simpa using ho,by simp[h2],fun i r' u' hr' hu'=>?_⟩;have hown:Ck e B w u' r':=by
  rcases CP i rows.length with hi|hi
  ·rw[EA hi]at hr';rw[EA (by omega)]at hu';exact h4 i r' u' hr' hu'
  ·rw[D9 hi]at hr';rw[D9 (by omega)]at hu';rw[h2]at hu';rcases hj:i-rows.length with _|j
   ·rw[hj]at hr' hu';simp at hr' hu';subst hr';subst hu';exact hu
   ·rw[hj]at hr';simp at hr'
 exact⟨hown.1,Np hown.2 hg (LF hown.2 h1 hne)⟩
theorem Ck.sl {e:TypeId}{B:Nat}{w:World}{u:Value}{r:List Nat}(h:Ck e B w u r):AL (fun k=>B≤k) w u (ints r):=by
 obtain⟨⟨g,c,rfl⟩,h1⟩:=h;rcases h1.2 with⟨h,_⟩|⟨g',cap,cur,h,hb,hgg,hn,hm,hs,ht⟩
 ·simp at h
 ·obtain⟨rfl,rfl⟩:g=g'∧c=cap:=by simpa using h
  refine⟨some ⟨g,0,none⟩,c,by rw[BL],by rw[BL];exact hn,hm,by simp,fun i x hx=>?_⟩;refine⟨g,0,rfl,hb,(Ba.1 hgg).1,.int .i64 x,?_,rfl⟩;have:=World.ownsRow.cells h1 (g:=g) rfl i (.int .i64 x) (by simp only[vals,Bn,hx];rfl);rwa[addr_add]at this
theorem Own2.at {e2 e:TypeId}{B:Nat}{w:World}{v:Value}{rows:List (List Nat)}(h:Own2 e2 e B w v rows){i:Nat}{r:List Nat}(hr:rows[i]?=some r):
  ∃g cap u,v= .slice (some ⟨g,0,none⟩) rows.length cap∧B≤g∧g<w.heap.size∧w.cell? ⟨g,i,none⟩=some u∧Ck e B w u r:=by
 obtain⟨us,h1,h2,h4⟩:=h;have hil:=(Ag.1 hr).1;rcases h1.2 with⟨rfl,hn⟩|⟨g,cap,cur,rfl,hb,hgg,hn,hm,hs,ht⟩
 ·omega
 ·obtain⟨u,hu⟩:∃u,us[i]?=some u:=⟨_,AO (by omega)⟩;refine⟨g,cap,u,rfl,hb,(Ba.1 hgg).1,?_,h4 i r u hr hu⟩;have:=World.ownsRow.cells h1 (g:=g) rfl i u hu;rw[addr_add,Cg]at this;exact this
theorem Own2.form {e2 e:TypeId}{B:Nat}{w:World}{v:Value}{rows:List (List Nat)}(h:Own2 e2 e B w v rows):∃a cap,v= .slice a rows.length cap∧rows.length≤cap∧cap≤maxLen:=by
 obtain⟨us,h1,h2,h4⟩:=h;rcases h1.2 with⟨rfl,hn⟩|⟨g,cap,cur,rfl,hb,hgg,hn,hm,hs,ht⟩
 ·exact⟨none,0,by rw[hn],by omega,by simp⟩
 ·exact⟨_,cap,rfl,hn,hm⟩
theorem Own2.sl {e2 e:TypeId}{B:Nat}{w:World}{v:Value}{rows:List (List Nat)}(h:Own2 e2 e B w v rows):AP (fun k=>B≤k) w v (rows.map ints):=by
 obtain⟨a,cap,rfl,h1,h2⟩:=h.form;refine⟨a,cap,by simp,by simpa using h1,h2,fun ha=>?_,fun i r hr=>?_⟩
 ·subst ha;rcases h.choose_spec.1.2 with⟨he,_⟩|⟨g,cap',cur,he,_⟩
  ·simp at he;exact he.2
  ·simp at he
 ·simp only[Bn,II]at hr;obtain⟨r',hr',rfl⟩:=hr;obtain⟨g,cap',u,he,hb,hg,hc,hok⟩:=h.at hr';obtain⟨rfl,_,rfl⟩:a=some ⟨g,0,none⟩∧True∧cap=cap':=by simpa using he
  exact⟨g,0,rfl,hb,hg,u,by rw[Cg];exact hc,hok.sl⟩
theorem Ej.row {x:List Nat}{B:Nat}{w:World}{g c:Nat}(h:Own B w (.slice (some ⟨g,0,none⟩) (ints x).length c) (ints x)):Ck 2 B w (.slice (some ⟨g,0,none⟩) (ints x).length c) x:=by
 rw[BL]at h ⊢;refine⟨⟨g,c,rfl⟩,?_⟩;have:=h;unfold Own at this;rwa[BL]at this
def TZ (e2 e:TypeId)(rows:List (List Nat))(w:World)(e':Ending)(w':World):Prop:=∃v,e'= .returned v∧Own2 e2 e w.heap.size w' v rows∧Below w.heap.size w w'
end Go.Proofs.YtaadbccidfdniaaGreat
