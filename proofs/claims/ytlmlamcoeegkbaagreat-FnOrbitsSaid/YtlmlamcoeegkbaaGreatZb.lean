import Derived.Test.YtlmlamcoeegkbaaGreatZ0
import Derived.Test.YtlmlamcoeegkbaaGreatZa
import Derived.BigQuiet
import Derived.Below
import Derived.WalkSmall
import Derived.Test.YtlmlamcoeegkbaaGreatProg
import Derived.WalkSpells
import Derived.WalkLawsBesides
import Derived.Deep.QuietTactic
import Derived.Outline
import Derived.Handy
import Derived.Laws.AppendOwn
import Derived.IntWalk
import Derived.Deep.DeepCutAuto
import Derived.Deep.OwnRows
import Derived.Deep.LoopGhost
import Derived.Deep.RegionHeld3
/-
  Lemmas for the law FnOrbits, in short spelling.
-/
open Go.Lib (hid)
set_option linter.unusedVariables false
set_option linter.unusedSimpArgs false
set_option maxRecDepth 100000
set_option maxHeartbeats 40000000
namespace Go.Proofs.YtlmlamcoeegkbaaGreat.Gen
open Tow
def Gen {α:Type}(m:α→α→α)(e:α)(cs:List α)(x:α):Prop:=∀S:α→Prop,S e→(∀y c,S y→c∈cs→S (m y c))→S x
theorem Gen.one {α:Type}{m:α→α→α}{e:α}{cs:List α}:Gen m e cs e:=fun _ h _=>h
theorem Gen.step {α:Type}{m:α→α→α}{e:α}{cs:List α}{x c:α}(h:Gen m e cs x)(hc:c∈cs):Gen m e cs (m x c):=fun S h1 h2=>h2 x c (h S h1 h2) hc
theorem Gen.mem {α:Type}{M:α→Prop}{m:α→α→α}{e:α}(G:IsG M m e){cs:List α}(hc:∀c∈cs,M c){x:α}(h:Gen m e cs x):M x:=h M G.me (fun y c hy h=>G.cl hy (hc c h))
theorem Gen.mul {α:Type}{M:α→Prop}{m:α→α→α}{e:α}(G:IsG M m e){cs:List α}(hc:∀c∈cs,M c){x y:α}(hx:Gen m e cs x)(hy:Gen m e cs y):Gen m e cs (m x y):=by
 have hM:=hx.mem G hc;have:=hy (fun y=>M y∧Gen m e cs (m x y)) ⟨G.me,by rw[G.eR hM];exact hx⟩ (fun y c h h'=>⟨G.cl h.1 (hc c h'),by rw[←G.asc hM h.1 (hc c h')];exact h.2.step h'⟩);exact this.2
theorem Gen.of {α:Type}{M:α→Prop}{m:α→α→α}{e:α}(G:IsG M m e){cs:List α}(hc:∀c∈cs,M c){c:α}(h:c∈cs):Gen m e cs c:=by
 have:=(Gen.one (m:=m) (e:=e) (cs:=cs)).step h;rwa[G.eL (hc c h)]at this
structure Sub {α:Type}(M:α→Prop)(m:α→α→α)(e:α)(S:α→Prop):Prop where
 me:S e
 cl:∀{x y},S x→S y→S (m x y)
 le:∀{x},S x→M x
theorem Sub.npow {α:Type}{M:α→Prop}{m:α→α→α}{e:α}{S:α→Prop}(h:Sub M m e S){x:α}(hx:S x)(k:Nat):S (npow m e x k):=
 it_inv S _ (fun _ hz=>h.cl hz hx) k e h.me
theorem Sub.gen {α:Type}{M:α→Prop}{m:α→α→α}{e:α}{S:α→Prop}(h:Sub M m e S){cs:List α}(hc:∀c∈cs,S c){x:α}(hx:Gen m e cs x):S x:=hx S h.me (fun y c hy h'=>h.cl hy (hc c h'))
theorem Gen.sub {α:Type}{M:α→Prop}{m:α→α→α}{e:α}(G:IsG M m e){cs:List α}(hc:∀c∈cs,M c):Sub M m e (Gen m e cs):=⟨Gen.one,fun a b=>a.mul G hc b,fun a=>a.mem G hc⟩
theorem npow_mul {α:Type}{M:α→Prop}{m:α→α→α}{e:α}(G:IsG M m e){x:α}(hx:M x)(a b:Nat):npow m e (npow m e x a) b=npow m e x (a*b):=by
 induction b with
 |zero=>rfl
 |succ b ih=>rw[npow_succ,ih,Nat.mul_succ,G.npow_add hx]
theorem npow_e {α:Type}{M:α→Prop}{m:α→α→α}{e:α}(G:IsG M m e)(k:Nat):npow m e e k=e:=by
 induction k with
 |zero=>rfl
 |succ k ih=>rw[npow_succ,ih,G.eL G.me]
structure Fil {α:Type}(M:α→Prop)(m:α→α→α)(e:α)(n:Nat)(o:Nat→Nat)(f:Nat→α→Nat)(inv:α→α):Prop where
 G:IsG M m e
 o2:∀d,d<n→2≤o d
 fe:∀d,d<n→f d e=0
 lt:∀{d x},d<n→M x→f d x<o d
 fm:∀{d x y},d<n→M x→M y→(∀j,j<d→f j x=0)→(∀j,j<d→f j y=0)→f d (m x y)=(f d x+f d y)%o d
 ze:∀{x},M x→(∀j,j<n→f j x=0)→x=e
 iM:∀{x},M x→M (inv x)
 iR:∀{x},M x→m x (inv x)=e
 iL:∀{x},M x→m (inv x) x=e
def A {α:Type}(M:α→Prop)(f:Nat→α→Nat)(d:Nat)(x:α):Prop:=M x∧∀j,j<d→f j x=0
section
variable {α:Type} {M:α→Prop} {m:α→α→α} {e:α} {n:Nat} {o:Nat→Nat} {f:Nat→α→Nat} {inv:α→α}
theorem A_succ {d:Nat}{x:α}:A M f (d+1) x↔A M f d x∧f d x=0:=by
 constructor
 ·rintro⟨h1,h2⟩;exact⟨⟨h1,fun j hj=>h2 j (by omega)⟩,h2 d (by omega)⟩
 ·rintro⟨⟨h1,h2⟩,h3⟩;exact⟨h1,fun j hj=>by
   rcases zq36 j d with h|h
   ·exact h2 j h
   ·obtain rfl:j=d:=by omega
    exact h3⟩
theorem A_le {d d':Nat}{x:α}(h:A M f d x)(hd:d'≤d):A M f d' x:=⟨h.1,fun j hj=>h.2 j (by omega)⟩
theorem Fil.A_e (F:Fil M m e n o f inv){d:Nat}(hd:d≤n):A M f d e:=⟨F.G.me,fun j hj=>F.fe j (by omega)⟩
theorem Fil.A_mul (F:Fil M m e n o f inv){d:Nat}(hd:d≤n){x y:α}(hx:A M f d x)(hy:A M f d y):A M f d (m x y):=
 ⟨F.G.cl hx.1 hy.1,fun j hj=>by
  rw[F.fm (by omega) hx.1 hy.1 (fun i hi=>hx.2 i (by omega)) (fun i hi=>hy.2 i (by omega)),hx.2 j hj,hy.2 j hj];exact Nat.zero_mod _⟩
theorem Fil.A_sub (F:Fil M m e n o f inv){d:Nat}(hd:d≤n):Sub M m e (A M f d):=⟨F.A_e hd,fun a b=>F.A_mul hd a b,fun a=>a.1⟩
theorem Fil.f_npow (F:Fil M m e n o f inv){d:Nat}(hd:d<n){x:α}(hx:A M f d x)(k:Nat):f d (npow m e x k)=k*f d x%o d:=by
 induction k with
 |zero=>rw[npow_zero,F.fe d hd];simp
 |succ k ih=>
  have hk:=(F.A_sub (zq44 hd)).npow hx k;rw[npow_succ,F.fm hd hk.1 hx.1 hk.2 hx.2,ih,Nat.succ_mul,Nat.mod_add_mod]
theorem Fil.ord (F:Fil M m e n o f inv):∀(k d:Nat),d+k=n→∀x,A M f d x→∃N,0<N∧npow m e x N=e
 |0,d,h,x,hx=>⟨1,by omega,by rw[F.G.npow_one hx.1];exact F.ze hx.1 (fun j hj=>hx.2 j (by omega))⟩
 |k+1,d,h,x,hx=>by
  have h1:A M f (d+1) (npow m e x (o d)):=A_succ.2 ⟨(F.A_sub (by omega)).npow hx _,by rw[F.f_npow (by omega) hx,Nat.mul_mod_right]⟩;obtain⟨N,hN,hp⟩:=Fil.ord F k (d+1) (by omega) _ h1;rw[npow_mul F.G hx.1]at hp;exact⟨o d*N,Nat.mul_pos (by have:=F.o2 d (by omega);omega) hN,hp⟩
theorem Fil.ord' (F:Fil M m e n o f inv){x:α}(hx:M x):∃N,npow m e x (N+1)=e:=by
 obtain⟨N,h1,h2⟩:=F.ord n 0 (by omega) x ⟨hx,fun j hj=>absurd hj (zq33 _)⟩;exact⟨N-1,by rw[show N-1+1=N by omega];exact h2⟩
theorem Fil.inv_npow (F:Fil M m e n o f inv){x:α}(hx:M x):∃N,inv x=npow m e x N∧npow m e x (N+1)=e:=by
 obtain⟨N,hN⟩:=F.ord' hx;refine⟨N,?_,hN⟩;refine F.G.cancelR hx (F.iM hx) (F.G.npow hx N) ?_;rw[F.iL hx];exact((npow_succ m e x N).symm.trans hN).symm
theorem Fil.sub_inv (F:Fil M m e n o f inv){S:α→Prop}(h:Sub M m e S){x:α}(hx:S x):S (inv x):=by
 obtain⟨N,hN,_⟩:=F.inv_npow (h.le hx);rw[hN];exact h.npow hx N
theorem Fil.inv_pow (F:Fil M m e n o f inv){x:α}(hx:M x)(k:Nat):m (npow m e x k) (npow m e (inv x) k)=e∧m (npow m e (inv x) k) (npow m e x k)=e:=by
 have hi:=F.iM hx;constructor
 ·induction k with
  |zero=>exact F.G.eL F.G.me
  |succ k ih=>
   rw[npow_succ,zq89 k 1,F.G.npow_add hi,F.G.npow_one hi,F.G.asc (F.G.npow hx k) hx (F.G.cl hi (F.G.npow hi k)),←F.G.asc hx hi (F.G.npow hi k),F.iR hx,F.G.eL (F.G.npow hi k),ih]
 ·induction k with
  |zero=>exact F.G.eL F.G.me
  |succ k ih=>
   rw[npow_succ,zq89 k 1,F.G.npow_add hx,F.G.npow_one hx,F.G.asc (F.G.npow hi k) hi (F.G.cl hx (F.G.npow hx k)),←F.G.asc hi hx (F.G.npow hx k),F.iL hx,F.G.eL (F.G.npow hx k),ih]
def strip (m:α→α→α)(e:α)(f:Nat→α→Nat)(inv:α→α)(t:Nat→Option α):Nat→Nat→α→Nat×α
 |0,d,x=>(d,x)
 |k+1,d,x=>if f d x=0 then strip m e f inv t k (d+1) x else
  match t d with
  |none=>(d,x)
  |some y=>strip m e f inv t k (d+1) (m x (npow m e (inv y) (f d x)))
def Mem (m:α→α→α)(e:α)(f:Nat→α→Nat)(inv:α→α)(t:Nat→Option α)(k d:Nat)(x:α):Prop:=(strip m e f inv t k d x).1=d+k
theorem strip_zero {t:Nat→Option α}{k d:Nat}{x:α}(h:f d x=0):strip m e f inv t (k+1) d x=strip m e f inv t k (d+1) x:=by rw[strip,zq57 h]
theorem strip_some {t:Nat→Option α}{k d:Nat}{x y:α}(h:f d x≠0)(ht:t d=some y):strip m e f inv t (k+1) d x=strip m e f inv t k (d+1) (m x (npow m e (inv y) (f d x))):=by rw[strip,zq37 h,ht]
theorem strip_none {t:Nat→Option α}{k d:Nat}{x:α}(h:f d x≠0)(ht:t d=none):strip m e f inv t (k+1) d x=(d,x):=by rw[strip,zq37 h,ht]
theorem strip_le (t:Nat→Option α):∀(k d:Nat) (x:α),d≤(strip m e f inv t k d x).1∧(strip m e f inv t k d x).1≤d+k
 |0,d,x=>⟨zq1 _,zq1 _⟩
 |k+1,d,x=>by
  by_cases h:f d x=0
  ·rw[strip_zero h];have:=strip_le t k (d+1) x;omega
  ·cases ht:t d with
   |none=>rw[strip_none h ht];exact⟨zq1 _,Nat.le_add_right _ _⟩
   |some y=>rw[strip_some h ht];have:=strip_le t k (d+1) (m x (npow m e (inv y) (f d x)));omega
def Tb (M:α→Prop)(n:Nat)(f:Nat→α→Nat)(t:Nat→Option α):Prop:=∀d y,t d=some y→d<n∧A M f d y∧f d y=1
theorem Fil.red (F:Fil M m e n o f inv){d:Nat}(hd:d<n){x y:α}(hx:A M f d x)(hy:A M f d y)(h1:f d y=1):A M f (d+1) (m x (npow m e (inv y) (f d x))):=by
 have hs:=F.A_sub (zq44 hd);have hi:=F.sub_inv hs hy;have hp:=hs.npow hi (f d x);refine A_succ.2 ⟨hs.cl hx hp,?_⟩;have hy2:=hs.npow hy (f d x);have e1:f d (m (npow m e y (f d x)) (npow m e (inv y) (f d x)))=0:=by rw[(F.inv_pow hy.1 _).1,F.fe d hd]
 rw[F.fm hd hy2.1 hp.1 hy2.2 hp.2,F.f_npow hd hy,h1,zq100,Nat.mod_add_mod]at e1;rw[F.fm hd hx.1 hp.1 hx.2 hp.2,e1]
theorem Fil.strip_A (F:Fil M m e n o f inv){t:Nat→Option α}(ht:Tb M n f t):∀(k d:Nat) (x:α),d+k=n→A M f d x→
  A M f (strip m e f inv t k d x).1 (strip m e f inv t k d x).2∧((strip m e f inv t k d x).1<n→f (strip m e f inv t k d x).1 (strip m e f inv t k d x).2≠0∧t (strip m e f inv t k d x).1=none)
 |0,d,x,h,hx=>⟨hx,fun h'=>absurd h' (by simp only[strip];omega)⟩
 |k+1,d,x,h,hx=>by
  by_cases h0:f d x=0
  ·rw[strip_zero h0];exact Fil.strip_A F ht k (d+1) x (by omega) (A_succ.2 ⟨hx,h0⟩)
  ·cases hd:t d with
   |none=>rw[strip_none h0 hd];exact⟨hx,fun _=>⟨h0,hd⟩⟩
   |some y=>rw[strip_some h0 hd];exact Fil.strip_A F ht k (d+1) _ (by omega) (F.red (by omega) hx (ht d y hd).2.1 (ht d y hd).2.2)
theorem strip_sub {S:α→Prop}(F:Fil M m e n o f inv)(hS:Sub M m e S){t:Nat→Option α}(ht:∀d y,t d=some y→S y):∀(k d:Nat) (x:α),S x→S (strip m e f inv t k d x).2
 |0,d,x,hx=>hx
 |k+1,d,x,hx=>by
  by_cases h0:f d x=0
  ·rw[strip_zero h0];exact strip_sub F hS ht k (d+1) x hx
  ·cases hd:t d with
   |none=>rw[strip_none h0 hd];exact hx
   |some y=>rw[strip_some h0 hd];exact strip_sub F hS ht k (d+1) _ (hS.cl hx (hS.npow (F.sub_inv hS (ht d y hd)) _))
def Ext (t t':Nat→Option α):Prop:=∀d y,t d=some y→t' d=some y
theorem strip_ext {t t':Nat→Option α}(h:Ext t t'):∀(k d:Nat) (x:α),∃k',(strip m e f inv t k d x).1+k'=d+k∧strip m e f inv t' k d x=strip m e f inv t' k' (strip m e f inv t k d x).1 (strip m e f inv t k d x).2
 |0,d,x=>⟨0,rfl,rfl⟩
 |k+1,d,x=>by
  by_cases h0:f d x=0
  ·rw[strip_zero h0,strip_zero h0];obtain⟨k',h1,h2⟩:=strip_ext h k (d+1) x;exact⟨k',by omega,h2⟩
  ·cases hd:t d with
   |none=>rw[strip_none h0 hd];exact⟨k+1,rfl,rfl⟩
   |some y=>
    rw[strip_some h0 hd,strip_some h0 (h d y hd)];obtain⟨k',h1,h2⟩:=strip_ext h k (d+1) (m x (npow m e (inv y) (f d x)));exact⟨k',by omega,h2⟩
theorem Mem.ext {t t':Nat→Option α}(h:Ext t t'){k d:Nat}{x:α}(hx:Mem m e f inv t k d x):Mem m e f inv t' k d x:=by
 obtain⟨k',h1,h2⟩:=strip_ext (m:=m) (e:=e) (f:=f) (inv:=inv) h k d x;unfold Mem at hx ⊢;rw[h2];rw[hx]at h1 ⊢;obtain rfl:k'=0:=by omega
 rfl
theorem strip_skip (t:Nat→Option α):∀(j k d:Nat) (x:α),(∀i,i<d+j→f i x=0)→strip m e f inv t (j+k) d x=strip m e f inv t k (d+j) x
 |0,k,d,x,h=>by rw[zq39];rfl
 |j+1,k,d,x,h=>by
  rw[show j+1+k=j+k+1 by omega,strip_zero (h d (by omega)),strip_skip t j k (d+1) x (fun i hi=>h i (by omega)),show d+1+j=d+(j+1) by omega]
theorem Mem_skip {t:Nat→Option α}{k d:Nat}{x:α}(hd:d+k=n)(h:A M f d x):Mem m e f inv t n 0 x↔Mem m e f inv t k d x:=by
 unfold Mem;rw[←hd,strip_skip t d k 0 x (by simpa using h.2),zq39,zq39]
theorem Mem_rest (F:Fil M m e n o f inv){t t':Nat→Option α}(ht:Tb M n f t)(h:Ext t t'){x:α}(hx:M x)(hm:Mem m e f inv t' n 0 (strip m e f inv t n 0 x).2):Mem m e f inv t' n 0 x:=by
 have hA:=(F.strip_A ht n 0 x (by omega) ⟨hx,fun j hj=>absurd hj (zq33 _)⟩).1;obtain⟨k',h1,h2⟩:=strip_ext (m:=m) (e:=e) (f:=f) (inv:=inv) h n 0 x;have h3:=(Mem_skip (n:=n) (k:=k') (t:=t') (by omega) hA).1 hm;unfold Mem at h3 ⊢;rw[h2,h3,h1]
end
end Go.Proofs.YtlmlamcoeegkbaaGreat.Gen
namespace Go.Proofs.YtlmlamcoeegkbaaGreat.Gen
open Tow
section
variable {α:Type} {M:α→Prop} {m:α→α→α} {e:α} {n:Nat} {o:Nat→Nat} {f:Nat→α→Nat} {inv:α→α}
def com (m:α→α→α)(inv:α→α)(x y:α):α:=m (inv (m y x)) (m x y)
def Sd (M:α→Prop)(m:α→α→α)(e:α)(n:Nat)(f:Nat→α→Nat)(inv:α→α)(t:Nat→Option α)(d:Nat)(x:α):Prop:=A M f d x∧Mem m e f inv t n 0 x
theorem Sd_succ {t:Nat→Option α}{d:Nat}{x:α}:Sd M m e n f inv t (d+1) x↔Sd M m e n f inv t d x∧f d x=0:=by
 unfold Sd;rw[A_succ];constructor
 ·rintro⟨⟨a,b⟩,c⟩;exact⟨⟨a,c⟩,b⟩
 ·rintro⟨⟨a,c⟩,b⟩;exact⟨⟨a,b⟩,c⟩
theorem Sd_none {t:Nat→Option α}{k d:Nat}{x:α}(hd:d+(k+1)=n)(ht:t d=none)(h:Sd M m e n f inv t d x):f d x=0:=by
 have h1:=(Mem_skip hd h.1).1 h.2;by_cases h0:f d x=0
 ·exact h0
 ·unfold Mem at h1;rw[strip_none h0 ht]at h1;simp only at h1;omega
theorem Sd_some (F:Fil M m e n o f inv){t:Nat→Option α}{k d:Nat}{x y:α}(hd:d+(k+1)=n)(htb:Tb M n f t)(ht:t d=some y)(hx:A M f d x):Sd M m e n f inv t d x↔Sd M m e n f inv t (d+1) (m x (npow m e (inv y) (f d x))):=by
 have hr:=F.red (by omega) hx (htb d y ht).2.1 (htb d y ht).2.2;unfold Sd;rw[Mem_skip hd hx,Mem_skip (k:=k) (d:=d+1) (by omega) hr];constructor
 ·rintro⟨_,h⟩;refine⟨hr,?_⟩;by_cases h0:f d x=0
  ·rw[h0,npow_zero,F.G.eR hx.1];unfold Mem at h ⊢;rw[strip_zero h0]at h;omega
  ·unfold Mem at h ⊢;rw[strip_some h0 ht]at h;omega
 ·rintro⟨_,h⟩;refine⟨hx,?_⟩;by_cases h0:f d x=0
  ·rw[h0,npow_zero,F.G.eR hx.1]at h;unfold Mem at h ⊢;rw[strip_zero h0];omega
  ·unfold Mem at h ⊢;rw[strip_some h0 ht];omega
theorem Fil.com_A (F:Fil M m e n o f inv){d:Nat}(hd:d<n){x y:α}(hx:A M f d x)(hy:A M f d y):A M f (d+1) (com m inv x y):=by
 have hs:=F.A_sub (zq44 hd);have hyx:=hs.cl hy hx;have hxy:=hs.cl hx hy;have hi:=F.sub_inv hs hyx;have hc:A M f d (com m inv x y):=hs.cl hi hxy;refine A_succ.2 ⟨hc,?_⟩;have e1:m (m y x) (com m inv x y)=m x y:=by rw[com,←F.G.asc hyx.1 hi.1 hxy.1,F.iR hyx.1,F.G.eL hxy.1]
 have e2:=zq38 (f d) e1;rw[F.fm hd hyx.1 hc.1 hyx.2 hc.2,F.fm hd hx.1 hy.1 hx.2 hy.2,F.fm hd hy.1 hx.1 hy.2 hx.2,zq89 (f d y),Nat.mod_add_mod]at e2;have hlt:=F.lt hd hc.1;change f d (com m inv x y)<o d at hlt;change (f d x+f d y+f d (com m inv x y))%o d=(f d x+f d y)%o d at e2;show f d (com m inv x y)=0;generalize f d (com m inv x y)=c at hlt e2 ⊢;generalize f d x+f d y=s at e2;have h1:=Nat.mod_add_div (s+c) (o d);have h2:=Nat.mod_add_div s (o d);rw[e2]at h1;have h3:c=o d*((s+c)/o d)-o d*(s/o d):=by omega
 rw[←Nat.mul_sub]at h3;rcases Nat.eq_zero_or_pos ((s+c)/o d-s/o d)with h4|h4
 ·rw[h4]at h3;simpa using h3
 ·have:=Nat.le_mul_of_pos_right (o d) h4;omega
theorem Fil.back (F:Fil M m e n o f inv){t:Nat→Option α}{k d:Nat}(hd:d+(k+1)=n)(htb:Tb M n f t){y:α}(ht:t d=some y)(hS:Sub M m e (Sd M m e n f inv t (d+1)))(hp:Mem m e f inv t n 0 (npow m e y (o d)))
  {s:α} (hs:Sd M m e n f inv t (d+1) s) (a:Nat):Sd M m e n f inv t d (m s (npow m e y a)):=by
 obtain⟨_,hyA,hy1⟩:=htb d y ht;have hA:=F.A_sub (d:=d) (by omega);have hsA:A M f d s:=(A_succ.1 hs.1).1;have hya:=hA.npow hyA a;have hx:=hA.cl hsA hya;have hs0:f d s=0:=(A_succ.1 hs.1).2;have hf:f d (m s (npow m e y a))=a%o d:=by rw[F.fm (by omega) hsA.1 hya.1 hsA.2 hya.2,F.f_npow (by omega) hyA,hy1,hs0,zq100,zq39,Nat.mod_mod]
 refine(Sd_some F hd htb ht hx).2 ?_;rw[hf];have hyo:Sd M m e n f inv t (d+1) (npow m e y (o d)):=⟨A_succ.2 ⟨hA.npow hyA _,by rw[F.f_npow (by omega) hyA,Nat.mul_mod_right]⟩,hp⟩;have e1:npow m e y a=m (npow m e (npow m e y (o d)) (a/o d)) (npow m e y (a%o d)):=by
  rw[npow_mul F.G hyA.1,←F.G.npow_add hyA.1,Nat.div_add_mod]
 have h1:=F.G.npow (F.G.npow hyA.1 (o d)) (a/o d);have h2:=F.G.npow hyA.1 (a%o d);have h3:=F.G.npow (F.iM hyA.1) (a%o d);rw[e1,←F.G.asc hsA.1 h1 h2,F.G.asc (F.G.cl hsA.1 h1) h2 h3,(F.inv_pow hyA.1 _).1,F.G.eR (F.G.cl hsA.1 h1)];exact hS.cl hs (hS.npow hyo _)
theorem Fil.closed (F:Fil M m e n o f inv){t:Nat→Option α}(htb:Tb M n f t)(hp:∀d y,t d=some y→Mem m e f inv t n 0 (npow m e y (o d)))
  (hc:∀d d' y z,d<d'→t d=some y→t d'=some z→Mem m e f inv t n 0 (com m inv y z)∨Mem m e f inv t n 0 (com m inv z y)):∀k d,d+k=n→
  Sub M m e (Sd M m e n f inv t d)∧(∀d' z,d≤d'→t d'=some z→Sd M m e n f inv t d z)∧
  (∀x,Sd M m e n f inv t d x→∀P:α→Prop,P e→(∀a d' z,d≤d'→t d'=some z→P a→Sd M m e n f inv t d a→P (m a z))→P x)
 |0,d,hd=>by
  have hz:∀x,Sd M m e n f inv t d x→x=e:=fun x h=>F.ze h.1.1 (fun j hj=>h.1.2 j (by omega));have he:Sd M m e n f inv t d e:=⟨F.A_e (by omega),(Mem_skip hd (F.A_e (by omega))).2 rfl⟩;refine⟨⟨he,fun {x y} hx hy=>by rw[hz x hx,hz y hy,F.G.eL F.G.me];exact he,fun h=>h.1.1⟩,fun d' z h1 h2=>?_,fun x hx P h1 _=>by rw[hz x hx];exact h1⟩;have:=(htb d' z h2).1;omega
 |k+1,d,hd=>by
  obtain⟨hS,hT,hP⟩:=Fil.closed F htb hp hc k (d+1) (by omega);have hA:=F.A_sub (d:=d) (by omega);have hle:∀x,Sd M m e n f inv t (d+1) x→Sd M m e n f inv t d x:=fun x h=>(Sd_succ.1 h).1;cases ht:t d with
  |none=>
   have hge:∀x,Sd M m e n f inv t d x→Sd M m e n f inv t (d+1) x:=fun x h=>Sd_succ.2 ⟨h,Sd_none hd ht h⟩;refine⟨⟨hle _ hS.me,fun hx hy=>hle _ (hS.cl (hge _ hx) (hge _ hy)),fun h=>h.1.1⟩,fun d' z h1 h2=>?_,fun x hx P h1 h2=>hP x (hge x hx) P h1 (fun a d' z h3 h4 h5 h6=>h2 a d' z (by omega) h4 h5 (hle _ h6))⟩;rcases zq36 d d' with h|h
   ·exact hle _ (hT d' z h h2)
   ·obtain rfl:d'=d:=by omega
    rw[ht]at h2;simp at h2
  |some y=>
   obtain⟨_,hyA,hy1⟩:=htb d y ht;have hyM:=hyA.1;have G:=F.G;have hb:=fun {s:α} (hs:Sd M m e n f inv t (d+1) s) a=>F.back hd htb ht hS (hp d y ht) hs a;have hf:∀x,Sd M m e n f inv t d x→∃s a,Sd M m e n f inv t (d+1) s∧x=m s (npow m e y a):=fun x hx=>by
    refine⟨_,f d x,(Sd_some F hd htb ht hx.1).1 hx,?_⟩;rw[G.asc hx.1.1 (G.npow (F.iM hyM) _) (G.npow hyM _),(F.inv_pow hyM _).2,G.eR hx.1.1]
   have hgen:∀d' z,d+1≤d'→t d'=some z→∃z',Sd M m e n f inv t (d+1) z'∧m z y=m y z':=fun d' z hdd hz=>by
    have hzS:=hT d' z hdd hz;have hzA:A M f d z:=A_le (htb d' z hz).2.1 (by omega);have hzM:=hzA.1;rcases hc d d' y z (by omega) ht hz with h|h
    ·have hcS:Sd M m e n f inv t (d+1) (com m inv y z):=⟨F.com_A (by omega) hyA hzA,h⟩;have hi:=F.sub_inv hS hcS;refine⟨m z (inv (com m inv y z)),hS.cl hzS hi,?_⟩;have e1:m (m z y) (com m inv y z)=m y z:=by rw[com,←G.asc (G.cl hzM hyM) (F.iM (G.cl hzM hyM)) (G.cl hyM hzM),F.iR (G.cl hzM hyM),G.eL (G.cl hyM hzM)]
     rw[←G.asc hyM hzM hi.1.1,←e1,G.asc (G.cl hzM hyM) hcS.1.1 hi.1.1,F.iR hcS.1.1,G.eR (G.cl hzM hyM)]
    ·have hcS:Sd M m e n f inv t (d+1) (com m inv z y):=⟨F.com_A (by omega) hzA hyA,h⟩;refine⟨m z (com m inv z y),hS.cl hzS hcS,?_⟩;rw[←G.asc hyM hzM hcS.1.1,com,←G.asc (G.cl hyM hzM) (F.iM (G.cl hyM hzM)) (G.cl hzM hyM),F.iR (G.cl hyM hzM),G.eL (G.cl hzM hyM)]
   have n1:∀s,Sd M m e n f inv t (d+1) s→∃s',Sd M m e n f inv t (d+1) s'∧m s y=m y s':=fun s hs=>by
    refine hP s hs (fun s=>∃s',Sd M m e n f inv t (d+1) s'∧m s y=m y s') ⟨e,hS.me,by rw[G.eL hyM,G.eR hyM]⟩ ?_;rintro a d' z h1 h2 ⟨a',ha',e1⟩ ha;obtain⟨z',hz',e2⟩:=hgen d' z h1 h2;have hzM:=(htb d' z h2).2.1.1;exact⟨m a' z',hS.cl ha' hz',by rw[G.asc ha.1.1 hzM hyM,e2,←G.asc ha.1.1 hyM hz'.1.1,e1,G.asc hyM ha'.1.1 hz'.1.1]⟩
   have nk:∀j s,Sd M m e n f inv t (d+1) s→∃s',Sd M m e n f inv t (d+1) s'∧m s (npow m e y j)=m (npow m e y j) s':=fun j=>by
    induction j with
    |zero=>intro s hs;exact⟨s,hs,by rw[npow_zero,G.eR hs.1.1,G.eL hs.1.1]⟩
    |succ j ih=>
     intro s hs;obtain⟨s',hs',e1⟩:=ih s hs;obtain⟨s2,hs2,e2⟩:=n1 s' hs';have hj:=G.npow hyM j;exact⟨s2,hs2,by rw[npow_succ,←G.asc hs.1.1 hj hyM,e1,G.asc hj hs'.1.1 hyM,e2,←G.asc hj hyM hs2.1.1]⟩
   have n2:∀s,Sd M m e n f inv t (d+1) s→∃s',Sd M m e n f inv t (d+1) s'∧m y s=m s' y:=fun s hs=>by
    obtain⟨N,hN⟩:=F.ord' hyM;obtain⟨s',hs',e1⟩:=nk N s hs;have hj:=G.npow hyM N;have hsM:=hs.1.1;have e3:m (npow m e y N) y=e:=(npow_succ m e y N).symm.trans hN;have e4:m y (npow m e y N)=e:=by rw[G.npow_comm hyM];exact hN
    refine⟨s',hs',?_⟩;have e5:m y (m s (npow m e y N))=s':=by rw[e1,←G.asc hyM hj hs'.1.1,e4,G.eL hs'.1.1]
    rw[←e5,G.asc hyM (G.cl hsM hj) hyM,G.asc hsM hj hyM,e3,G.eR hsM]
   have nk2:∀j s,Sd M m e n f inv t (d+1) s→∃s',Sd M m e n f inv t (d+1) s'∧m (npow m e y j) s=m s' (npow m e y j):=fun j=>by
    induction j with
    |zero=>intro s hs;exact⟨s,hs,by rw[npow_zero,G.eR hs.1.1,G.eL hs.1.1]⟩
    |succ j ih=>
     intro s hs;obtain⟨s',hs',e1⟩:=n2 s hs;obtain⟨s2,hs2,e2⟩:=ih s' hs';have hj:=G.npow hyM j;exact⟨s2,hs2,by rw[npow_succ,G.asc hj hyM hs.1.1,e1,←G.asc hj hs'.1.1 hyM,e2,G.asc hs2.1.1 hj hyM]⟩
   have hsub:Sub M m e (Sd M m e n f inv t d):=by
    refine⟨hle _ hS.me,fun {x z} hx hz=>?_,fun h=>h.1.1⟩;obtain⟨s,a,hs,rfl⟩:=hf x hx;obtain⟨s2,b,hs2,rfl⟩:=hf z hz;obtain⟨s3,hs3,e1⟩:=nk2 a s2 hs2;have ha:=G.npow hyM a;have hbM:=G.npow hyM b;have hsM:=hs.1.1;have h2M:=hs2.1.1;have h3M:=hs3.1.1;have:m (m s (npow m e y a)) (m s2 (npow m e y b))=m (m s s3) (npow m e y (a+b)):=by
     rw[G.asc hsM ha (G.cl h2M hbM),←G.asc ha h2M hbM,e1,G.asc h3M ha hbM,←G.npow_add hyM,G.asc hsM h3M (G.npow hyM _)]
    rw[this];exact hb (hS.cl hs hs3) _
   have hyS:Sd M m e n f inv t d y:=by
    have:=hb hS.me 1;rwa[G.npow_one hyM,G.eL hyM]at this
   refine⟨hsub,fun d' z h1 h2=>?_,fun x hx P h1 h2=>?_⟩
   ·rcases zq36 d d' with h|h
    ·exact hle _ (hT d' z h h2)
    ·obtain rfl:d'=d:=by omega
     rw[ht]at h2;injection h2 with h2;rw[←h2];exact hyS
   ·obtain⟨s,a,hs,rfl⟩:=hf x hx;have h3:P s:=hP s hs P h1 (fun a d' z h3 h4 h5 h6=>h2 a d' z (by omega) h4 h5 (hle _ h6));have h4:∀a,P (m s (npow m e y a))∧Sd M m e n f inv t d (m s (npow m e y a)):=fun a=>by
     refine⟨?_,hb hs a⟩
     induction a with
     |zero=>rw[npow_zero,G.eR hs.1.1];exact h3
     |succ a ih=>
      rw[npow_succ,←G.asc hs.1.1 (G.npow hyM a) hyM];exact h2 _ d y zqN ht ih (hb hs a)
    exact(h4 a).1
def Lts:List Nat→List Nat→Prop
 |[],[]=>True
 |a::es,b::os=>a<b∧Lts es os
 |_,_=>False
def usF (t:Nat→Option α):Nat→Nat→List α
 |0,_=>[]
 |k+1,d=>match t d with
  |none=>usF t k (d+1)
  |some u=>u::usF t k (d+1)
def osF (t:Nat→Option α)(o:Nat→Nat):Nat→Nat→List Nat
 |0,_=>[]
 |k+1,d=>match t d with
  |none=>osF t o k (d+1)
  |some _=>o d::osF t o k (d+1)
def Chd (M:α→Prop)(m:α→α→α)(e:α)(n:Nat)(f:Nat→α→Nat)(inv:α→α)(t t2:Nat→Option α):Prop:=
 ∀d,(t d=none→t2 d=none)∧∀y,t d=some y→∃s,Sd M m e n f inv t (d+1) s∧t2 d=some (m y s)
theorem Fil.full (F:Fil M m e n o f inv){t t2:Nat→Option α}(htb:Tb M n f t)(hS:∀d,d≤n→Sub M m e (Sd M m e n f inv t d))(hT:∀d z,t d=some z→Sd M m e n f inv t d z)(h2:Chd M m e n f inv t t2):∀k d,d+k=n→∀x,
  Sd M m e n f inv t d x↔∃es,Lts es (osF t2 o k d)∧ev m e (usF t2 k d) es=x
 |0,d,hd,x=>by
  have he:=(hS d (by omega)).me;constructor
  ·intro h;exact⟨[],trivial,(F.ze h.1.1 (fun j hj=>h.1.2 j (by omega))).symm⟩
  ·rintro⟨es,h1,rfl⟩;cases es with
   |nil=>exact he
   |cons _ _=>exact h1.elim
 |k+1,d,hd,x=>by
  have ih:=Fil.full F htb hS hT h2 k (d+1) (by omega);have hsub:=hS d (by omega);cases ht:t d with
  |none=>
   have e2:=(h2 d).1 ht;rw[usF,osF,e2];refine Iff.trans ⟨fun h=>Sd_succ.2 ⟨h,Sd_none hd ht h⟩,fun h=>(Sd_succ.1 h).1⟩ (ih x)
  |some y=>
   obtain⟨s,hs,e2⟩:=(h2 d).2 y ht;rw[usF,osF,e2];obtain⟨_,hyA,hy1⟩:=htb d y ht;have hsA:=A_succ.1 hs.1;have hu:Sd M m e n f inv t d (m y s):=hsub.cl (hT d y ht) (Sd_succ.1 hs).1;generalize hue:m y s=u at hu;have huM:=hu.1.1;have h1u:f d u=1:=by
    rw[←hue,F.fm (by omega) hyA.1 hsA.1.1 hyA.2 hsA.1.2,hy1,hsA.2];exact zq43 (F.o2 d (by omega))
   have G:=F.G;constructor
   ·intro h;have hv:Sd M m e n f inv t d (m (npow m e (inv u) (f d x)) x):=hsub.cl (hsub.npow (F.sub_inv hsub hu) _) h;have hi:Sd M m e n f inv t d (npow m e (inv u) (f d x)):=hsub.npow (F.sub_inv hsub hu) _;have hp:Sd M m e n f inv t d (npow m e u (f d x)):=hsub.npow hu _;have e1:f d (m (npow m e (inv u) (f d x)) (npow m e u (f d x)))=0:=by rw[(F.inv_pow huM _).2,F.fe d (by omega)]
    rw[F.fm (by omega) hi.1.1 hp.1.1 hi.1.2 hp.1.2,F.f_npow (by omega) hu.1,h1u,zq100,Nat.add_mod_mod]at e1;have e3:f d (m (npow m e (inv u) (f d x)) x)=0:=by rw[F.fm (by omega) hi.1.1 h.1.1 hi.1.2 h.1.2,e1]
    obtain⟨es,h3,h4⟩:=(ih _).1 (Sd_succ.2 ⟨hv,e3⟩);refine⟨f d x::es,⟨F.lt (by omega) h.1.1,h3⟩,?_⟩;rw[Tow.ev,h4,←G.asc hp.1.1 hi.1.1 h.1.1,(F.inv_pow huM _).1,G.eL h.1.1]
   ·rintro⟨es,h3,rfl⟩;cases es with
    |nil=>exact h3.elim
    |cons a es=>
     exact hsub.cl (hsub.npow hu a) (Sd_succ.1 ((ih _).2 ⟨es,h3.2,rfl⟩)).1
structure Inv (M:α→Prop)(m:α→α→α)(e:α)(n:Nat)(o:Nat→Nat)(f:Nat→α→Nat)(inv:α→α)(im:List α)(t:Nat→Option α)(work:List α):Prop where
 tb:Tb M n f t
 tg:∀d y,t d=some y→Gen m e im y
 wg:∀w∈work,Gen m e im w
 ob:∀t',Ext t t'→(∀w∈work,Mem m e f inv t' n 0 w)→(∀x∈im,Mem m e f inv t' n 0 x)∧(∀d y,t d=some y→Mem m e f inv t' n 0 (npow m e y (o d)))∧
  ∀d d' y z,d<d'→t d=some y→t d'=some z→Mem m e f inv t' n 0 (com m inv y z)∨Mem m e f inv t' n 0 (com m inv z y)
theorem Inv.start (F:Fil M m e n o f inv){im:List α}(him:∀c∈im,M c):Inv M m e n o f inv im (fun _=>none) im:=
 ⟨fun _ _ h=>by simp at h,fun _ _ h=>by simp at h,fun w hw=>Gen.of F.G him hw,fun t' _ h=>⟨h,fun _ _ h=>by simp at h,fun _ _ _ _ _ h=>by simp at h⟩⟩
theorem Inv.member {im work:List α}{t:Nat→Option α}{x:α}(h:Inv M m e n o f inv im t (work++[x]))(hx:(strip m e f inv t n 0 x).1=n):Inv M m e n o f inv im t work:=by
 refine⟨h.tb,h.tg,fun w hw=>h.wg w (zq121 _ hw),fun t' he hw=>h.ob t' he (fun w hw'=>?_)⟩;rcases zq68.1 hw' with h1|h1
 ·exact hw w h1
 ·rw[zq54.1 h1];refine Mem.ext he ?_;unfold Mem;rw[hx];simp
def put (t:Nat→Option α)(d:Nat)(y:α):Nat→Option α:=fun j=>if j=d then some y else t j
theorem Inv.enter (F:Fil M m e n o f inv){im work work1:List α}(him:∀c∈im,M c){t:Nat→Option α}{x:α}(h:Inv M m e n o f inv im t (work++[x])){d:Nat}{r y:α}(hx:strip m e f inv t n 0 x=(d,r))(hd:d<n){c:Nat}(hy:y=npow m e r c)(hy1:f d y=1)
  (h1:∀w∈work,w∈work1) (h2:r∈work1) (h3:npow m e y (o d)∈work1) (h4:∀d' z,d'≠d→t d'=some z→com m inv y z∈work1)
  (h5:∀w∈work1,w∈work∨w=r∨w=npow m e y (o d)∨∃d' z,d'≠d∧t d'=some z∧w=com m inv y z):Inv M m e n o f inv im (put t d y) work1:=by
 have hgs:=Gen.sub F.G him;have hxG:=h.wg x (zq117 _ zq24);have hxM:=hgs.le hxG;have hA:=F.strip_A h.tb n 0 x (by omega) ⟨hxM,fun j hj=>absurd hj (zq33 _)⟩;have hsg:=strip_sub F hgs h.tg n 0 x hxG;have hrest:=fun t' he hm=>Mem_rest F (t':=t') h.tb he hxM hm;rw[hx]at hA hsg hrest;simp only at hA hsg hrest;have htd:=(hA.2 hd).2;have hyG:Gen m e im y:=hy▸hgs.npow hsg c;have hyA:A M f d y:=hy▸(F.A_sub (zq44 hd)).npow hA.1 c;have hput:∀j z,put t d y j=some z→(j=d∧z=y)∨(j≠d∧t j=some z):=fun j z hz=>by
  unfold put at hz;split at hz
  ·next hj=>injection hz with hz;exact .inl ⟨hj,hz.symm⟩
  ·next hj=>exact .inr ⟨hj,hz⟩
 have hext:∀t',Ext (put t d y) t'→Ext t t':=fun t' he j z hz=>he j z (by
  unfold put;rw[zq37 (fun hj=>by rw[hj,htd]at hz;simp at hz)];exact hz)
 refine⟨fun j z hz=>?_,fun j z hz=>?_,fun w hw=>?_,fun t' he hw=>?_⟩
 ·rcases hput j z hz with⟨rfl,rfl⟩|⟨_,hz⟩
  ·exact⟨hd,hyA,hy1⟩
  ·exact h.tb j z hz
 ·rcases hput j z hz with⟨rfl,rfl⟩|⟨_,hz⟩
  ·exact hyG
  ·exact h.tg j z hz
 ·rcases h5 w hw with h6|rfl|rfl|⟨d',z,_,hz,rfl⟩
  ·exact h.wg w (zq121 _ h6)
  ·exact hsg
  ·exact hgs.npow hyG _
  ·have hzG:=h.tg d' z hz;exact hgs.cl (F.sub_inv hgs (hgs.cl hzG hyG)) (hgs.cl hyG hzG)
 ·have hold:=h.ob t' (hext t' he) (fun w hw'=>by
   rcases zq68.1 hw' with h6|h6
   ·exact hw w (h1 w h6)
   ·rw[zq54.1 h6];exact hrest t' (hext t' he) (hw r h2))
  refine⟨hold.1,fun j z hz=>?_,fun j j' z z' hj hz hz'=>?_⟩
  ·rcases hput j z hz with⟨rfl,rfl⟩|⟨_,hz⟩
   ·exact hw _ h3
   ·exact hold.2.1 j z hz
  ·rcases hput j z hz with⟨e1,e2⟩|⟨hne,hz2⟩
   ·rcases hput j' z' hz' with⟨e3,e4⟩|⟨hne',hz2'⟩
    ·omega
    ·rw[e2];exact .inl (hw _ (h4 j' z' hne' hz2'))
   ·rcases hput j' z' hz' with⟨e3,e4⟩|⟨hne',hz2'⟩
    ·rw[e4];exact .inr (hw _ (h4 j z hne hz2))
    ·exact hold.2.2 j j' z z' hj hz2 hz2'
structure Clo (M:α→Prop)(m:α→α→α)(e:α)(n:Nat)(f:Nat→α→Nat)(inv:α→α)(im:List α)(t:Nat→Option α):Prop where
 tb:Tb M n f t
 sub:∀d,d≤n→Sub M m e (Sd M m e n f inv t d)
 mem:∀d z,t d=some z→Sd M m e n f inv t d z
 gen:∀x,Gen m e im x↔Sd M m e n f inv t 0 x
theorem Inv.clo (F:Fil M m e n o f inv){im:List α}(him:∀c∈im,M c){t:Nat→Option α}(h:Inv M m e n o f inv im t []):Clo M m e n f inv im t:=by
 have ho:=h.ob t (fun _ _ h=>h) (fun w hw=>by simp at hw);have hcl:=F.closed h.tb ho.2.1 ho.2.2;have hcl':∀d,d≤n→_:=fun d hd=>hcl (n-d) d (by omega);refine⟨h.tb,fun d hd=>(hcl' d hd).1,fun d z hz=>(hcl' d (zq44 (h.tb d z hz).1)).2.1 d z zqN hz,fun x=>⟨fun hx=>?_,fun hx=>?_⟩⟩
 ·exact(hcl' 0 (by omega)).1.gen (fun c hc=>⟨⟨him c hc,fun j hj=>absurd hj (zq33 _)⟩,ho.1 c hc⟩) hx
 ·exact(hcl' 0 (by omega)).2.2 x hx (Gen m e im) Gen.one (fun a d' z _ hz ha _=>ha.mul F.G him (h.tg d' z hz))
end
end Go.Proofs.YtlmlamcoeegkbaaGreat.Gen
namespace Go.Proofs.YtlmlamcoeegkbaaGreat.GenC
open Tow Gen
open Classical in
noncomputable def vinv (T:Tw)(x:List Nat):List Nat:=if h:∃y,El T y∧mul T x y=Tow.one T∧mul T y x=Tow.one T then Classical.choose h else Tow.one T
theorem vinv_spec {T:Tw}(h:Wf T)(hg:Tow.Good T){x:List Nat}(hx:El T x):El T (vinv T x)∧mul T x (vinv T x)=Tow.one T∧mul T (vinv T x) x=Tow.one T:=by
 have hex:∃y,El T y∧mul T x y=Tow.one T∧mul T y x=Tow.one T:=(grp h hg).iv hx;unfold vinv;rw[dif_pos hex];exact zq86 hex
theorem vinv_eq {T:Tw}(h:Wf T)(hg:Tow.Good T){x y:List Nat}(hx:El T x)(hy:El T y)(e:mul T x y=Tow.one T):y=vinv T x:=by
 have hv:=vinv_spec h hg hx;exact(grp h hg).cancelL hx hy hv.1 (e.trans hv.2.1.symm)
def oF (T:Tw)(d:Nat):Nat:=(T.getD d default).o
def fF (d:Nat)(x:List Nat):Nat:=x.getD d 0
theorem zeros_pad {x:List Nat}{d:Nat}(hd:d≤x.length)(h:∀j,j<d→fF j x=0):x=pad d (x.drop d):=by
 refine zq99 fun i=>?_;unfold pad;rcases zq36 i d with hi|hi
 ·rw[zq28 (by simpa using hi),zq64,zq57 hi];have:=h i hi;unfold fF at this;rw[zq9,zq0 (by omega)]at this;rw[zq0 (by omega)];simpa using this
 ·rw[zq27 (by simpa using hi),zq63,zq29,zq80 hi]
theorem fF_pad (d a:Nat)(x:List Nat):fF d (pad d (a::x))=a:=by
 unfold fF pad;rw[zq9,zq27 (by simp)];simp
theorem oF_at {T:Tw}{d:Nat}{L:Lv}(h:T[d]?=some L):oF T d=L.o:=by
 unfold oF;rw[zq9,h];rfl
theorem fil {T:Tw}(h:Wf T)(hg:Tow.Good T):Fil (El T) (mul T) (Tow.one T) T.length (oF T) fF (vinv T):=by
 refine⟨grp h hg,fun d hd=>?_,fun d hd=>?_,fun {d x} hd hx=>?_,fun {d x y} hd hx hy h1 h2=>?_,fun {x} hx h1=>?_,fun hx=>(vinv_spec h hg hx).1,fun hx=>(vinv_spec h hg hx).2.1,fun hx=>(vinv_spec h hg hx).2.2⟩
 ·obtain⟨L,hL⟩:∃L,T[d]?=some L:=⟨_,zq0 hd⟩;rw[oF_at hL];exact(lvl' h hL).2.2.2.2
 ·unfold fF Tow.one;rw[zq9,zq64];split<;>rfl
 ·obtain⟨a,ha⟩:∃a,x[d]?=some a:=⟨_,zq0 (by rw[El_length hx];exact hd)⟩;obtain⟨L,hL,hlt⟩:=El_lt hx ha;rw[oF_at hL];unfold fF;rw[zq9,ha];exact hlt
 ·obtain⟨L,hL⟩:∃L,T[d]?=some L:=⟨_,zq0 hd⟩;have ex:=zeros_pad (by rw[El_length hx];omega) h1;have ey:=zeros_pad (by rw[El_length hy];omega) h2;have hxd:=El_drop hx d;have hyd:=El_drop hy d;rw[drop_cons' hL]at hxd hyd;generalize x.drop d=x' at ex hxd;generalize y.drop d=y' at ey hyd;cases x' with
  |nil=>exact hxd.elim
  |cons a x'=>
   cases y' with
   |nil=>exact hyd.elim
   |cons b y'=>
    have e:mul T x y=pad d (mul (T.drop d) (a::x') (b::y')):=by rw[ex,ey,mul_pads h d (by rw[drop_cons' hL];exact hxd) (by rw[drop_cons' hL];exact hyd) (by omega)]
    rw[e,drop_cons' hL,mul_cons,oF_at hL,ex,ey,fF_pad,fF_pad];have ha:=hxd.1;have hb:=hyd.1;split
    ·rw[fF_pad,Nat.mod_eq_sub_mod (by omega),zq43 (by omega)]
    ·rw[fF_pad,zq43 (by omega)]
 ·have:=zeros_pad (d:=T.length) (by rw[El_length hx];omega) h1;rw[this,←El_length hx,zq104];simp[pad,Tow.one,El_length hx]
theorem gen_ev {Q T:Tw}(hQ:Wf Q)(hg:Tow.Good Q)(hT:Wf T){cs:List (List Nat)}(hc:∀c∈cs,El Q c)(hR:Rel (mul Q) (Tow.one Q) T cs)(x:List Nat):Gen (mul Q) (Tow.one Q) cs x↔∃z,El T z∧ev (mul Q) (Tow.one Q) cs z=x:=by
 have G:=grp hQ hg;have hcl:=Rel_length hR;have hone:∀(cs:List (List Nat)) n,ev (mul Q) (Tow.one Q) cs (List.replicate n 0)=Tow.one Q:=by
  intro cs
  induction cs with
  |nil=>intro n;cases n<;>rfl
  |cons d ds ihd=>intro n;cases n with
   |zero=>rfl
   |succ n=>exact(zq38 (mul Q _) (ihd n)).trans (by rw[npow_zero,G.eL G.me])
 have hunit:∀(cs:List (List Nat)) (T:Tw),(∀c∈cs,El Q c)→cs.length=T.length→∀j c,cs[j]?=some c→ev (mul Q) (Tow.one Q) cs (unit T j)=c:=by
  intro cs
  induction cs with
  |nil=>intro T _ _ j c hj;simp at hj
  |cons d ds ihd=>intro T hd hl j c hj;cases T with
   |nil=>simp at hl
   |cons L T=>
    have hd1:=hd d zq24;cases j with
    |zero=>
     simp only[zq16,zq42]at hj;subst hj;rw[unit_zero];show mul Q (npow (mul Q) (Tow.one Q) d 1) (ev (mul Q) (Tow.one Q) ds (Tow.one T))=d;rw[G.npow_one hd1];exact(zq38 (mul Q d) (hone ds _)).trans (G.eR hd1)
    |succ j=>
     rw[unit_succ];show mul Q (npow (mul Q) (Tow.one Q) d 0) (ev (mul Q) (Tow.one Q) ds (unit T j))=c;rw[ihd T (fun x hx=>hd x (zq23 _ hx)) (by simpa using hl) j c (by simpa using hj),npow_zero];exact G.eL (hd c (zq23 _ (zq5 (by simpa using hj))))
 constructor
 ·intro h;refine h (fun x=>∃z,El T z∧ev (mul Q) (Tow.one Q) cs z=x) ⟨Tow.one T,El_one hT,hone cs _⟩ ?_;rintro y c ⟨z,hz,rfl⟩ hcm;obtain⟨j,hj⟩:=zq45 hcm;have hjl:j<cs.length:=(zq2.1 hj).1;refine⟨mul T z (unit T j),El_mul hT hz (El_unit hT j),?_⟩;rw[G.hom hT hc hR hz (El_unit hT j),hunit cs T hc hcl j c hj]
 ·rintro⟨z,_,rfl⟩;have:∀(ds:List (List Nat)),(∀d∈ds,d∈cs)→∀z,Gen (mul Q) (Tow.one Q) cs (ev (mul Q) (Tow.one Q) ds z):=by
   intro ds
   induction ds with
   |nil=>intro _ z;cases z<;>exact Gen.one
   |cons d ds ih=>intro hd z;cases z with
    |nil=>exact Gen.one
    |cons a z=>
     have hs:=Gen.sub G hc;exact hs.cl (hs.npow (Gen.of G hc (hd d zq24)) a) (ih (fun x hx=>hd x (zq23 _ hx)) z)
  exact this cs (fun _ h=>h) z
end Go.Proofs.YtlmlamcoeegkbaaGreat.GenC
namespace Go.Proofs.YtlmlamcoeegkbaaGreat.GenL
open Tow Gen
section
variable {α:Type} {M:α→Prop} {m:α→α→α} {e:α} {n:Nat} {o:Nat→Nat} {f:Nat→α→Nat} {inv:α→α}
def lst (m:α→α→α)(e:α)(o:Nat→Nat)(f:Nat→α→Nat)(t:Nat→Option α):Nat→Nat→α→Nat×α
 |0,d,x=>(d,x)
 |k+1,d,x=>if f d x=0 then lst m e o f t k (d+1) x else
  match t d with
  |none=>(d,x)
  |some y=>lst m e o f t k (d+1) (m (npow m e y (o d-f d x)) x)
def LMem (m:α→α→α)(e:α)(o:Nat→Nat)(f:Nat→α→Nat)(t:Nat→Option α)(k d:Nat)(x:α):Prop:=(lst m e o f t k d x).1=d+k
theorem lst_zero {t:Nat→Option α}{k d:Nat}{x:α}(h:f d x=0):lst m e o f t (k+1) d x=lst m e o f t k (d+1) x:=by rw[lst,zq57 h]
theorem lst_some {t:Nat→Option α}{k d:Nat}{x y:α}(h:f d x≠0)(ht:t d=some y):lst m e o f t (k+1) d x=lst m e o f t k (d+1) (m (npow m e y (o d-f d x)) x):=by rw[lst,zq37 h,ht]
theorem lst_none {t:Nat→Option α}{k d:Nat}{x:α}(h:f d x≠0)(ht:t d=none):lst m e o f t (k+1) d x=(d,x):=by rw[lst,zq37 h,ht]
theorem lred (F:Fil M m e n o f inv){d:Nat}(hd:d<n){x y:α}(hx:A M f d x)(hy:A M f d y)(h1:f d y=1):A M f (d+1) (m (npow m e y (o d-f d x)) x):=by
 have hs:=F.A_sub (zq44 hd);have hp:=hs.npow hy (o d-f d x);refine A_succ.2 ⟨hs.cl hp hx,?_⟩;have hlt:=F.lt hd hx.1;rw[F.fm hd hp.1 hx.1 hp.2 hx.2,F.f_npow hd hy,h1,zq100,Nat.mod_add_mod,Nat.sub_add_cancel (zq44 hlt),Nat.mod_self]
theorem lst_ext {t t':Nat→Option α}(h:Ext t t'):∀(k d:Nat) (x:α),∃k',(lst m e o f t k d x).1+k'=d+k∧lst m e o f t' k d x=lst m e o f t' k' (lst m e o f t k d x).1 (lst m e o f t k d x).2
 |0,d,x=>⟨0,rfl,rfl⟩
 |k+1,d,x=>by
  by_cases h0:f d x=0
  ·rw[lst_zero h0,lst_zero h0];obtain⟨k',h1,h2⟩:=lst_ext h k (d+1) x;exact⟨k',by omega,h2⟩
  ·cases hd:t d with
   |none=>rw[lst_none h0 hd];exact⟨k+1,rfl,rfl⟩
   |some y=>
    rw[lst_some h0 hd,lst_some h0 (h d y hd)];obtain⟨k',h1,h2⟩:=lst_ext h k (d+1) (m (npow m e y (o d-f d x)) x);exact⟨k',by omega,h2⟩
theorem LMem.ext {t t':Nat→Option α}(h:Ext t t'){k d:Nat}{x:α}(hx:LMem m e o f t k d x):LMem m e o f t' k d x:=by
 obtain⟨k',h1,h2⟩:=lst_ext (m:=m) (e:=e) (o:=o) (f:=f) h k d x;unfold LMem at hx ⊢;rw[h2];rw[hx]at h1 ⊢;obtain rfl:k'=0:=by omega
 rfl
theorem lst_skip (t:Nat→Option α):∀(j k d:Nat) (x:α),(∀i,i<d+j→f i x=0)→lst m e o f t (j+k) d x=lst m e o f t k (d+j) x
 |0,k,d,x,h=>by rw[zq39];rfl
 |j+1,k,d,x,h=>by
  rw[show j+1+k=j+k+1 by omega,lst_zero (h d (by omega)),lst_skip t j k (d+1) x (fun i hi=>h i (by omega)),show d+1+j=d+(j+1) by omega]
theorem LMem_skip {t:Nat→Option α}{k d:Nat}{x:α}(hd:d+k=n)(h:A M f d x):LMem m e o f t n 0 x↔LMem m e o f t k d x:=by
 unfold LMem;rw[←hd,lst_skip t d k 0 x (by simpa using h.2),zq39,zq39]
def trn (d:Nat)(t:Nat→Option α):Nat→Option α:=fun j=>if j<d then none else t j
theorem trn_some {d j:Nat}{t:Nat→Option α}{y:α}:trn d t j=some y↔d≤j∧t j=some y:=by
 unfold trn;split
 ·constructor
  ·intro h;simp at h
  ·rintro⟨h1,_⟩;omega
 ·constructor
  ·intro h;exact⟨by omega,h⟩
  ·exact fun h=>h.2
theorem strip_cong {t t':Nat→Option α}:∀(k d:Nat) (x:α),(∀j,d≤j→t j=t' j)→strip m e f inv t k d x=strip m e f inv t' k d x
 |0,d,x,h=>rfl
 |k+1,d,x,h=>by
  by_cases h0:f d x=0
  ·rw[strip_zero h0,strip_zero h0];exact strip_cong k (d+1) x (fun j hj=>h j (by omega))
  ·cases hd:t d with
   |none=>rw[strip_none h0 hd,strip_none h0 (by rw[←h d zqN];exact hd)]
   |some y=>rw[strip_some h0 hd,strip_some h0 (by rw[←h d zqN];exact hd)];exact strip_cong k (d+1) _ (fun j hj=>h j (by omega))
theorem Mem_trn {t:Nat→Option α}{k d:Nat}{x:α}:Mem m e f inv (trn d t) k d x↔Mem m e f inv t k d x:=by
 unfold Mem;rw[strip_cong (t:=trn d t) (t':=t) k d x (fun j hj=>by unfold trn;rw[zq37 (by omega)])]
theorem lmem (F:Fil M m e n o f inv){t:Nat→Option α}(htb:Tb M n f t)(hp:∀d y,t d=some y→LMem m e o f t n 0 (npow m e y (o d)))
  (hc:∀d d' y z,d<d'→t d=some y→t d'=some z→LMem m e o f t n 0 (com m inv y z)∨LMem m e o f t n 0 (com m inv z y)):∀k d,d+k=n→∀x,A M f d x→(LMem m e o f t k d x↔Mem m e f inv t k d x)
 |0,d,hd,x,hx=>Iff.rfl
 |k+1,d,hd,x,hx=>by
  have ih:=lmem F htb hp hc k (d+1) (by omega);by_cases h0:f d x=0
  ·have h1:=ih x (A_succ.2 ⟨hx,h0⟩);unfold LMem Mem at h1 ⊢;rw[lst_zero h0,strip_zero h0,show d+(k+1)=d+1+k by omega];exact h1
  ·cases ht:t d with
   |none=>
    unfold LMem Mem;rw[lst_none h0 ht,strip_none h0 ht]
   |some y=>
    obtain⟨_,hyA,hy1⟩:=htb d y ht;have up:∀z,A M f (d+1) z→LMem m e o f t n 0 z→Mem m e f inv (trn d t) n 0 z:=fun z hz hm=>by
     have h1:=(ih z hz).1 ((LMem_skip (by omega) hz).1 hm);have h2:Mem m e f inv t n 0 z:=(Mem_skip (by omega) hz).2 h1;exact(Mem_skip hd (A_succ.1 hz).1).2 (Mem_trn.2 ((Mem_skip hd (A_succ.1 hz).1).1 h2))
    have hA:=F.A_sub (d:=d) (by omega);have htb':Tb M n f (trn d t):=fun j z hz=>htb j z (trn_some.1 hz).2;obtain⟨hS,hT,_⟩:=F.closed htb' (fun j z hz=>by
      obtain⟨hj,hz⟩:=trn_some.1 hz;obtain⟨hjn,hzA,hz1⟩:=htb j z hz;refine up _ (A_le (A_succ.2 ⟨(F.A_sub (zq44 hjn)).npow hzA _,?_⟩) (by omega)) (hp j z hz);rw[F.f_npow hjn hzA,Nat.mul_mod_right]) (fun j j' y1 z1 hj h1 h2=>by
      obtain⟨hj1,h1⟩:=trn_some.1 h1;obtain⟨hj2,h2⟩:=trn_some.1 h2;have a1:=A_le (htb j y1 h1).2.1 hj1;have a2:=A_le (htb j' z1 h2).2.1 hj2;rcases hc j j' y1 z1 hj h1 h2 with h3|h3
      ·exact .inl (up _ (F.com_A (by omega) a1 a2) h3)
      ·exact .inr (up _ (F.com_A (by omega) a2 a1) h3)) (k+1) d hd
    have hy:Sd M m e n f inv (trn d t) d y:=hT d y zqN (trn_some.2 ⟨zq1 _,ht⟩);have hpw:=hS.npow hy (o d-f d x);have hr:=lred F (by omega) hx hyA hy1;have e1:LMem m e o f t (k+1) d x↔Mem m e f inv t k (d+1) (m (npow m e y (o d-f d x)) x):=by
     rw[←ih _ hr];unfold LMem;rw[lst_some h0 ht,show d+(k+1)=d+1+k by omega]
    have e2:Mem m e f inv t k (d+1) (m (npow m e y (o d-f d x)) x)↔Sd M m e n f inv (trn d t) d (m (npow m e y (o d-f d x)) x):=by
     rw[←Mem_skip (n:=n) (by omega) hr,Mem_skip hd (A_succ.1 hr).1,←Mem_trn,←Mem_skip hd (A_succ.1 hr).1];exact⟨fun h=>⟨(A_succ.1 hr).1,h⟩,fun h=>h.2⟩
    have e3:Sd M m e n f inv (trn d t) d (m (npow m e y (o d-f d x)) x)↔Sd M m e n f inv (trn d t) d x:=by
     constructor
     ·intro h;have h1:=hS.cl (F.sub_inv hS hpw) h;rw[←F.G.asc (F.iM hpw.1.1) hpw.1.1 hx.1,F.iL hpw.1.1,F.G.eL hx.1]at h1;exact h1
     ·intro h;exact hS.cl hpw h
    have e4:Sd M m e n f inv (trn d t) d x↔Mem m e f inv t (k+1) d x:=by
     rw[←Mem_trn,←Mem_skip hd hx];exact⟨fun h=>h.2,fun h=>⟨hx,h⟩⟩
    exact e1.trans (e2.trans (e3.trans e4))
structure LInv (M:α→Prop)(m:α→α→α)(e:α)(n:Nat)(o:Nat→Nat)(f:Nat→α→Nat)(inv:α→α)(im:List α)(t:Nat→Option α)(work:List α):Prop where
 tb:Tb M n f t
 tg:∀d y,t d=some y→Gen m e im y
 wg:∀w∈work,Gen m e im w
 ob:∀t',Ext t t'→(∀w∈work,LMem m e o f t' n 0 w)→(∀x∈im,LMem m e o f t' n 0 x)∧(∀d y,t d=some y→LMem m e o f t' n 0 (npow m e y (o d)))∧
  ∀d d' y z,d<d'→t d=some y→t d'=some z→LMem m e o f t' n 0 (com m inv y z)∨LMem m e o f t' n 0 (com m inv z y)
theorem LInv.start (F:Fil M m e n o f inv){im:List α}(him:∀c∈im,M c):LInv M m e n o f inv im (fun _=>none) im:=
 ⟨fun _ _ h=>by simp at h,fun _ _ h=>by simp at h,fun w hw=>Gen.of F.G him hw,fun t' _ h=>⟨h,fun _ _ h=>by simp at h,fun _ _ _ _ _ h=>by simp at h⟩⟩
theorem LInv.member {im work:List α}{t:Nat→Option α}{x:α}(h:LInv M m e n o f inv im t (x::work))(hx:(lst m e o f t n 0 x).1=n):LInv M m e n o f inv im t work:=by
 refine⟨h.tb,h.tg,fun w hw=>h.wg w (zq23 _ hw),fun t' he hw=>h.ob t' he (fun w hw'=>?_)⟩;rcases zq70.1 hw' with h1|h1
 ·rw[h1];refine LMem.ext he ?_;unfold LMem;rw[hx];simp
 ·exact hw w h1
theorem LInv.clo (F:Fil M m e n o f inv){im:List α}(him:∀c∈im,M c){t:Nat→Option α}(h:LInv M m e n o f inv im t []):Clo M m e n f inv im t:=by
 have ho:=h.ob t (fun _ _ h=>h) (fun w hw=>by simp at hw);have hgs:=Gen.sub F.G him;have hlm:=lmem F h.tb ho.2.1 ho.2.2 n 0 (by omega);have up:∀x,M x→LMem m e o f t n 0 x→Mem m e f inv t n 0 x:=fun x hx hm=>(hlm x ⟨hx,fun j hj=>absurd hj (zq33 _)⟩).1 hm;have hcM:∀d y d' z,t d=some y→t d'=some z→M (com m inv y z):=fun d y d' z h1 h2=>by
  have a:=(h.tb d y h1).2.1.1;have b:=(h.tb d' z h2).2.1.1;exact F.G.cl (F.iM (F.G.cl b a)) (F.G.cl a b)
 have hcl:=F.closed h.tb (fun d y hy=>up _ (F.G.npow (h.tb d y hy).2.1.1 _) (ho.2.1 d y hy)) (fun d d' y z hj h1 h2=>(ho.2.2 d d' y z hj h1 h2).imp (up _ (hcM d y d' z h1 h2)) (up _ (hcM d' z d y h2 h1)));have hcl':∀d,d≤n→_:=fun d hd=>hcl (n-d) d (by omega);refine⟨h.tb,fun d hd=>(hcl' d hd).1,fun d z hz=>(hcl' d (zq44 (h.tb d z hz).1)).2.1 d z zqN hz,fun x=>⟨fun hx=>?_,fun hx=>?_⟩⟩
 ·exact(hcl' 0 (by omega)).1.gen (fun c hc=>⟨⟨him c hc,fun j hj=>absurd hj (zq33 _)⟩,up c (him c hc) (ho.1 c hc)⟩) hx
 ·exact(hcl' 0 (by omega)).2.2 x hx (Gen m e im) Gen.one (fun a d' z _ hz ha _=>ha.mul F.G him (h.tg d' z hz))
def Fr (M:α→Prop)(m:α→α→α)(n:Nat)(o:Nat→Nat)(f:Nat→α→Nat):Prop:=∀{d x z},d<n→M x→A M f d z→(∀j,j<d→f j (m x z)=f j x)∧f d (m x z)=(f d x+f d z)%o d
def Zs (f:Nat→α→Nat)(t:Nat→Option α)(d j:Nat)(x:α):Prop:=∀i,d≤i→i<j→t i≠none→f i x=0
end
end Go.Proofs.YtlmlamcoeegkbaaGreat.GenL
namespace Go.Proofs.YtlmlamcoeegkbaaGreat.GenM
open Tow Gen GenC GenL
theorem fF_get {x:List Nat}{d a:Nat}(h:x[d]?=some a):fF d x=a:=by unfold fF;rw[zq9,h];rfl
theorem fr {T:Tw}(h:Wf T):Fr (El T) (mul T) T.length (oF T) fF:=fun {d x z} hd hx hz=>by
 obtain⟨L,hL⟩:∃L,T[d]?=some L:=⟨_,zq0 hd⟩;have ez:=zeros_pad (by rw[El_length hz.1];omega) hz.2;have hzd:=El_drop hz.1 d;have hxd:=El_drop hx d;have e:=mul_pad h d hx hzd (by omega);rw[←ez]at e;have hxl:=El_length hx;have htl:(x.take d).length=d:=by rw[zq75];omega
 constructor
 ·intro j hj;unfold fF;rw[e,zq9,zq9,zq28 (by omega),zq138 hj]
 ·have e2:fF d (mul T x z)=((mul (T.drop d) (x.drop d) (z.drop d))).getD 0 0:=by
   unfold fF;rw[e,zq9,zq9,zq27 (by omega),htl,zq127]
  have e3:fF d x=(x.drop d).getD 0 0:=by unfold fF;rw[zq9,zq9,zq63,zq128]
  have e4:fF d z=(z.drop d).getD 0 0:=by unfold fF;rw[zq9,zq9,zq63,zq128]
  rw[e2,e3,e4];rw[drop_cons' hL]at hxd hzd ⊢;generalize x.drop d=x' at hxd ⊢;generalize z.drop d=z' at hzd ⊢;cases x' with
  |nil=>exact hxd.elim
  |cons a x'=>
   cases z' with
   |nil=>exact hzd.elim
   |cons b z'=>
    have ha:=hxd.1;have hb:=hzd.1;rw[mul_cons,oF_at hL];show _=(a+b)%L.o;split
    ·rw[Nat.mod_eq_sub_mod (by omega),zq43 (by omega)];rfl
    ·rw[zq43 (by omega)];rfl
end Go.Proofs.YtlmlamcoeegkbaaGreat.GenM
namespace Go.Proofs.YtlmlamcoeegkbaaGreat
open Go.RowKit
def BW (B:Nat)(w0:World):={ w':World // Below B w0 w' }
instance BW.ne (B:Nat)(w0:World):Nonempty (BW B w0):=⟨⟨w0,zq3 _ _⟩⟩
theorem wp_region_below {P:Program}{id:Nat}{Q:Exit→Act→World→Prop}{a:Act}{w:World}{l:List Oper}(B:Nat)(w0:World)(hw:Below B w0 w)(hm:P.follows .mixedOrders=true)(hB:Region.lexB .any l.toArray=true)
  (h:wpQuiet P l.toArray (fun w'=>∃x:BW B w0,w'=x.1) (fun a'=>∀w',(∃x:BW B w0,w'=x.1)→Q .normal a' w') l a):(Code.region id l.toArray true).wp P Q a w:=
 wp_region_quiet (C:=fun w'=>∃x:BW B w0,w'=x.1) hm hB ⟨⟨_,hw.drew⟩,rfl⟩ (by simpa using h)
theorem calls_below {P:Program}{f:FuncId}{args:Array Value}{B:Nat}{w0:World}{x:BW B w0}{v:Value}(hB:B≤w0.heap.size)
  (h:Calls P f args x.1 fun e w'=>e= .returned v∧Below x.1.heap.size x.1 w'):Calls P f args x.1 fun e w''=>e= .returned v∧∃y:BW B w0,w''=y.1:=
 h.mono fun _ w' ⟨he,hb⟩=>⟨he,⟨w',x.2.trans (hb.mono (zq11 hB x.2.size))⟩,rfl⟩
theorem calls_drawn {P:Program}{f:FuncId}{args:Array Value}{B:Nat}{w0:World}{x:BW B w0}{v:Value}
  (h:Calls P f args x.1 fun e w'=>e= .returned v∧∃n,w'=x.1.drewN n):Calls P f args x.1 fun e w''=>e= .returned v∧∃y:BW B w0,w''=y.1:=
 h.mono fun _ w' ⟨he,n,hb⟩=>⟨he,⟨w',by rw[hb];exact zq61 x.2 n⟩,rfl⟩
theorem bcell {W w1:World}(hb:Below W.heap.size W w1):(∀b o,b<W.heap.size→w1.cell? ⟨b,o,none⟩=W.cell? ⟨b,o,none⟩)∧(∀b o,b<W.heap.size→w1.frozen? ⟨b,o,none⟩=W.frozen? ⟨b,o,none⟩):=
 ⟨fun b o h=>hb.cell (p:=⟨b,o,none⟩) h,fun b o h=>hb.frozen (p:=⟨b,o,none⟩) h⟩
end Go.Proofs.YtlmlamcoeegkbaaGreat
namespace Go.Proofs.YtlmlamcoeegkbaaGreat
open Go.RowKit Tow
theorem infoI:(Tryz.prog.info? 2).map (fun i=>(i.zero,i.size,i.bytes))=some (some (.int .i64 0),1,8):=by kernel_rfl
abbrev vals (x:List Int):List Value:=x.map (Value.int .i64)
def Own (B:Nat)(w:World)(v:Value)(x:List Int):Prop:=w.ownsRow B 2 1 v x.length (vals x)
theorem Own.form {B:Nat}{w:World}{v:Value}{x:List Int}(h:Own B w v x)(hx:0<x.length):∃g cap,v= .slice (some ⟨g,0,none⟩) x.length cap:=by
 rcases h.2 with⟨rfl,h0⟩|⟨g,cap,cur,rfl,_⟩
 ·omega
 ·exact⟨g,cap,rfl⟩
theorem Own.lt {B:Nat}{w:World}{g n cap:Nat}{x:List Int}(h:Own B w (.slice (some ⟨g,0,none⟩) n cap) x):B≤g∧g<w.heap.size:=zq8 h g rfl
theorem Own.sl {B:Nat}{w:World}{v:Value}{x:List Int}(h:Own B w v x):SlI (fun k=>B≤k) w v x:=by
 rcases h.2 with⟨rfl,h0⟩|⟨g,cap,cur,rfl,hb,hh,hn,hm,hs,ht⟩
 ·have hx:x=[]:=zq21 h0;subst hx;exact⟨none,0,rfl,zq1 _,zq4 _,fun _=>rfl,fun i y hy=>by simp at hy⟩
 ·refine⟨_,cap,rfl,hn,hm,fun e=>absurd e (by simp),fun i y hy=>⟨g,0,rfl,hb,(zq8 h g rfl).2,.int .i64 y,?_,rfl⟩⟩;have hi:i<x.length:=(zq2.1 hy).1;rw[zq39,zq59 h i (by omega)];simp[vals,hy]
theorem Own.sl_at {B:Nat}{w:World}{g n cap:Nat}{x:List Int}(h:Own B w (.slice (some ⟨g,0,none⟩) n cap) x):SlI (fun k=>k=g) w (.slice (some ⟨g,0,none⟩) n cap) x:=by
 obtain⟨ao,c,e,h1,h2,_,h3⟩:=h.sl;obtain⟨rfl,rfl,rfl⟩:ao=some ⟨g,0,none⟩∧n=x.length∧c=cap:=by simpa[eq_comm]using e
 refine⟨_,c,rfl,h1,h2,fun e=>absurd e (by simp),fun i y hy=>?_⟩;obtain⟨b,o,e1,e2,e3,e4⟩:=h3 i y hy;obtain⟨rfl,rfl⟩:b=g∧o=0:=by simpa[eq_comm]using e1
 exact⟨b,0,rfl,rfl,e3,e4⟩
theorem Own.keep {B:Nat}{S:Nat→Prop}{w w':World}{v:Value}{x:List Int}(h:Own B w v x)(hk:Keep S w w')(hS:∀k,v.ownBlock=some k→S k):Own B w' v x:=by
 refine⟨h.1,?_⟩;rcases h.2 with h2|⟨g,cap,cur,rfl,hb,hh,r⟩
 ·exact .inl h2
 ·have hg:=(zq8 h g rfl).2;exact .inr ⟨g,cap,cur,rfl,hb,by rw[hk.block g (hS g rfl) hg];exact hh,r⟩
theorem Own.of_below {B:Nat}{w w':World}{v:Value}{x:List Int}(h:Own B w v x)(hb:Below w.heap.size w w'):Own B w' v x:=h.keep (S:=fun _=>True) (Keep.of_below hb) (fun _ _=>trivial)
theorem Own.mono {B B':Nat}{w:World}{v:Value}{x:List Int}(h:Own B w v x)(hB:B'≤B):Own B' w v x:=by
 refine⟨h.1,?_⟩;rcases h.2 with h2|⟨g,cap,cur,e,hb,r⟩
 ·exact .inl h2
 ·exact .inr ⟨g,cap,cur,e,zq11 hB hb,r⟩
theorem vals_set (x:List Int)(j:Nat)(a:Int):(vals x).set j (.int .i64 a)=vals (x.set j a):=by simp[vals]
theorem Own.set {B:Nat}{w:World}{g n cap:Nat}{x:List Int}(h:Own B w (.slice (some ⟨g,0,none⟩) n cap) x)(j:Nat)(a:Int):
  Own B (w.setCell ⟨g,j,none⟩ (.int .i64 a)) (.slice (some ⟨g,0,none⟩) n cap) (x.set j a)∧w.grownBy (w.setCell ⟨g,j,none⟩ (.int .i64 a)) (some g):=by
 obtain⟨ao,c,e,_⟩:=h.sl;obtain⟨_,rfl,_⟩:ao=some ⟨g,0,none⟩∧n=x.length∧c=cap:=by simpa[eq_comm]using e
 have:=zq109 h j (.int .i64 a);rw[vals_set]at this;refine⟨?_,this.2⟩;unfold Own;rw[List.length_set];exact this.1
theorem Own.drew {B:Nat}{w:World}{v:Value}{x:List Int}(h:Own B w v x):Own B w.drew v x:=h.keep (S:=fun _=>True) ((Keep.refl _ w).drew) (fun _ _=>trivial)
theorem Own.alloc {B:Nat}{w:World}{v:Value}{x:List Int}(h:Own B w v x)(o:Obj):Own B (w.alloc o) v x:=h.keep (S:=fun _=>True) ((Keep.refl _ w).alloc o) (fun _ _=>trivial)
theorem Own.cell {B:Nat}{w:World}{g n cap:Nat}{x:List Int}(h:Own B w (.slice (some ⟨g,0,none⟩) n cap) x){j:Nat}{a:Int}(ha:x[j]?=some a):w.cell? ⟨g,j,none⟩=some (.int .i64 a)∧w.frozen? ⟨g,j,none⟩=false:=by
 obtain⟨ao,c,e,_⟩:=h.sl;obtain⟨_,rfl,_⟩:ao=some ⟨g,0,none⟩∧n=x.length∧c=cap:=by simpa[eq_comm]using e
 have hj:j<x.length:=(zq2.1 ha).1;exact⟨by rw[zq59 h j (by omega)];simp[vals,ha],zq130 h j⟩
theorem Own.made {B:Nat}(w:World)(n:Nat)(hB:B≤w.heap.size)(hn:n≤maxLen):Own B (w.alloc (.cells (madeCells #[.int .i64 0] n) 2)) (.slice (some ⟨w.heap.size,0,none⟩) n n) (List.replicate n 0):=by
 have:=zq98 (base:=B) (e:=2) (size:=1) w (madeCells #[.int .i64 0] n) n hB hn (by simp[madeCells]);rw[zq108]at this;unfold Own;simpa[vals]using this
def NewI (x:List Int)(w:World)(e:Ending)(w':World):Prop:=∃v,e= .returned v∧Own w.heap.size w' v x∧Below w.heap.size w w'
theorem ret_b {a b:Bool}(h:a=b):Ending.returned (.bool a)= .returned (.bool b):=by rw[h]
theorem ret_i {k:IntKind}{a b:Int}(h:a=b):Ending.returned (.int k a)= .returned (.int k b):=by rw[h]
theorem ints_set (x:List Nat)(j a:Nat):(ints x).set j (a:Int)=ints (x.set j a):=by simp[ints]
theorem ints_replicate (n:Nat):List.replicate n (0:Int)=ints (List.replicate n 0):=by simp[ints]
def NewS (x:List Int)(w:World)(e:Ending)(w':World):Prop:=∃g cap,e= .returned (.slice (some ⟨g,0,none⟩) x.length cap)∧Own w.heap.size w' (.slice (some ⟨g,0,none⟩) x.length cap) x∧Below w.heap.size w w'
theorem Own.head {B:Nat}{w:World}{v:Value}{x:List Int}(h:Own B w v x)(hn:v≠.slice none 0 0):∃g cap,v= .slice (some ⟨g,0,none⟩) x.length cap:=by
 rcases h.2 with⟨rfl,h0⟩|⟨g,cap,cur,rfl,_⟩
 ·exact absurd rfl hn
 ·exact⟨g,cap,rfl⟩
theorem Keep.drewN {S:Nat→Prop}{a w:World}(h:Keep S a w)(n:Nat):Keep S a (w.drewN n):=h.trans (Keep.of_below (zq61 zqB n))
theorem Own.drewN {B:Nat}{w:World}{v:Value}{x:List Int}(h:Own B w v x)(n:Nat):Own B (w.drewN n) v x:=h.keep (S:=fun _=>True) ((Keep.refl _ w).drewN n) (fun _ _=>trivial)
theorem ks_mk {wr w':World}(h:Keep (fun _=>True) wr w'):(∀b o,b<wr.heap.size→w'.cell? ⟨b,o,none⟩=wr.cell? ⟨b,o,none⟩)∧Keep (fun _=>True) wr w':=⟨fun b o hb=>h.cell trivial hb,h⟩
theorem keep_boxed {w wr:World}{o:Obj}(hb:Below (w.heap.size+1) (w.alloc o) wr)(S:Nat→Prop):Keep S w wr:=
 ⟨zq11 (by simp) hb.size,fun k _ hs=>(hb.block k (by omega)).trans (zq48 w o k hs)⟩
theorem box_cells {w wr:World}{c0 c1 c2:Value}{t:TypeId}(hb:Below (w.heap.size+1) (w.alloc (.cells #[c0,c1,c2] t)) wr):
  wr.cell? ⟨w.heap.size,0,none⟩=some c0∧wr.cell? ⟨w.heap.size,1,none⟩=some c1∧wr.cell? ⟨w.heap.size,2,none⟩=some c2:=by
 refine⟨?_,?_,?_⟩<;>(rw[hb.cell (by show w.heap.size<_;omega),zq15 _ w.heap.size _ #[c0,c1,c2] t (0,0) (zq17 w _)];rfl)
theorem below_unboxed {w wr:World}{o:Obj}(hb:Below (w.heap.size+1) (w.alloc o) wr):Below w.heap.size w wr:=
 ((zq3 _ w).alloc zqN o).trans (hb.mono (by omega))
theorem addr_add (b o j:Nat):(⟨b,o,none⟩:Addr).add j=⟨b,o+j,none⟩:=by simp[Addr.add]
theorem Own.set_n {B:Nat}{w:World}{g n cap:Nat}{x:List Nat}(h:Own B w (.slice (some ⟨g,0,none⟩) n cap) (ints x))(j a:Nat):
  Own B (w.setCell ⟨g,j,none⟩ (.int .i64 (a:Int))) (.slice (some ⟨g,0,none⟩) n cap) (ints (x.set j a))∧w.grownBy (w.setCell ⟨g,j,none⟩ (.int .i64 (a:Int))) (some g):=by
 rw[←ints_set];exact h.set j a
theorem SlI.src {S:Nat→Prop}{w w':World}{ad:Addr}{n c:Nat}{l:List Int}(h:SlI S w (.slice (some ad) n c) l)(hk:Keep S w w'):∀j u,(vals l)[j]?=some u→w'.cell? (ad.add j)=some u:=by
 intro j u hj;obtain⟨ao,c',e,_,_,_,hx⟩:=h;obtain⟨rfl,_,_⟩:ao=some ad∧n=l.length∧c=c':=by simpa[eq_comm]using e
 simp only[vals,zq20,zq46]at hj;obtain⟨x,hj,rfl⟩:=hj;obtain⟨b,o,he,hb,hlt,u,hcell,rfl⟩:=hx j x hj;obtain rfl:ad=⟨b,o,none⟩:=zq102 he;rw[addr_add,hk.cell hb hlt];exact hcell
theorem vals_one (l:List Int):∀u∈vals l,u.oneCell'=true:=by intro u hu;simp only[vals,zq35]at hu;obtain⟨x,_,rfl⟩:=hu;rfl
end Go.Proofs.YtlmlamcoeegkbaaGreat
namespace Go.Proofs.YtlmlamcoeegkbaaGreat
open Go.RowKit
theorem infoR:(Tryz.prog.info? 24).map (fun i=>(i.zero,i.size,i.bytes))=some (some (.slice none 0 0),1,24):=by kernel_rfl
theorem infoN:(Tryz.prog.info? 3).map (fun i=>(i.zero,i.size,i.bytes))=some (some (.int .i64 0),1,8):=by kernel_rfl
theorem infoM:(Tryz.prog.info? 91).map (fun i=>(i.zero,i.size,i.bytes))=some (some (.slice none 0 0),1,24):=by kernel_rfl
theorem rows_apart {w:World}{B B':Nat}{e e':TypeId}{s s':Nat}{u v:Value}{n n':Nat}{xs ys:List Value}(hu:w.ownsRow B e s u n xs)(hv:w.ownsRow B' e' s' v n' ys)(hne:e≠e'):u.ownBlock=none∨u.ownBlock≠v.ownBlock:=by
 rcases hu.2 with⟨rfl,_⟩|⟨g,cap,cur,rfl,_,hg,_⟩
 ·exact .inl rfl
 ·refine .inr fun h=>?_;rcases hv.2 with⟨rfl,_⟩|⟨g',cap',cur',rfl,_,hg',_⟩
  ·simp[Value.ownBlock]at h
  ·simp[Value.ownBlock]at h;subst h;rw[hg]at hg';simp at hg';exact hne hg'.2
theorem ownsRow_keep {w w':World}{B:Nat}{e:TypeId}{s n:Nat}{v:Value}{xs:List Value}{S:Nat→Prop}(h:w.ownsRow B e s v n xs)(hk:Keep S w w')(hS:∀k,B≤k→S k):w'.ownsRow B e s v n xs:=by
 refine⟨h.1,?_⟩;rcases h.2 with hn|⟨g,cap,cur,rfl,hb,hgg,rest⟩
 ·exact .inl hn
 ·exact .inr ⟨g,cap,cur,rfl,hb,by rw[hk.block g (hS g hb) (zq10.1 hgg).1];exact hgg,rest⟩
theorem ownsRow_mono {w:World}{B B':Nat}{e:TypeId}{s n:Nat}{v:Value}{xs:List Value}(h:w.ownsRow B e s v n xs)(hB:B'≤B):w.ownsRow B' e s v n xs:=by
 refine⟨h.1,?_⟩;rcases h.2 with hn|⟨g,cap,cur,rfl,hb,rest⟩
 ·exact .inl hn
 ·exact .inr ⟨g,cap,cur,rfl,zq11 hB hb,rest⟩
def RowOk (e:TypeId)(B:Nat)(w:World)(u:Value)(r:List Nat):Prop:=(∃g c,u= .slice (some ⟨g,0,none⟩) r.length c)∧w.ownsRow B e 1 u r.length (vals (ints r))
def Own2 (e2 e:TypeId)(B:Nat)(w:World)(v:Value)(rows:List (List Nat)):Prop:=
 ∃us:List Value,w.ownsRow B e2 1 v rows.length us∧us.length=rows.length∧∀(i:Nat) (r:List Nat) (u:Value),rows[i]?=some r→us[i]?=some u→RowOk e B w u r
theorem Own2.nil (e2 e:TypeId)(B:Nat)(w:World):Own2 e2 e B w (.slice none 0 0) []:=⟨[],zq56 _ _ _ _,rfl,by simp⟩
theorem RowOk.keep {e:TypeId}{B:Nat}{S:Nat→Prop}{w w':World}{u:Value}{r:List Nat}(h:RowOk e B w u r)(hk:Keep S w w')(hS:∀k,B≤k→S k):RowOk e B w' u r:=⟨h.1,ownsRow_keep h.2 hk hS⟩
theorem Own2.keep {e2 e:TypeId}{B:Nat}{S:Nat→Prop}{w w':World}{v:Value}{rows:List (List Nat)}(h:Own2 e2 e B w v rows)(hk:Keep S w w')(hS:∀k,B≤k→S k):Own2 e2 e B w' v rows:=by
 obtain⟨us,h1,h2,h4⟩:=h;exact⟨us,ownsRow_keep h1 hk hS,h2,fun i r u hr hu=>(h4 i r u hr hu).keep hk hS⟩
theorem Own2.of_below {e2 e:TypeId}{B:Nat}{w w':World}{v:Value}{rows:List (List Nat)}(h:Own2 e2 e B w v rows)(hb:Below w.heap.size w w'):Own2 e2 e B w' v rows:=h.keep (S:=fun _=>True) (Keep.of_below hb) (fun _ _=>trivial)
theorem Own2.mono {e2 e:TypeId}{B B':Nat}{w:World}{v:Value}{rows:List (List Nat)}(h:Own2 e2 e B w v rows)(hB:B'≤B):Own2 e2 e B' w v rows:=by
 obtain⟨us,h1,h2,h4⟩:=h;exact⟨us,ownsRow_mono h1 hB,h2,fun i r u hr hu=>⟨(h4 i r u hr hu).1,ownsRow_mono (h4 i r u hr hu).2 hB⟩⟩
theorem Own2.push {e2 e:TypeId}(hne:e≠e2){B n:Nat}{w w':World}{v v' u:Value}{rows:List (List Nat)}{r:List Nat}{us:List Value}(hn:rows.length=n)
  (h1:w.ownsRow B e2 1 v n us) (h2:us.length=rows.length) (h4:∀(i:Nat) (r:List Nat) (u:Value),rows[i]?=some r→us[i]?=some u→RowOk e B w u r)
  (hu:RowOk e B w u r) (ho:w'.ownsRow B e2 1 v' (n+1) (us++[u])) (hg:w.grownBy w' v.ownBlock):Own2 e2 e B w' v' (rows++[r]):=by
 subst hn;refine⟨us++[u],by simpa using ho,by simp[h2],fun i r' u' hr' hu'=>?_⟩;have hown:RowOk e B w u' r':=by
  rcases zq36 i rows.length with hi|hi
  ·rw[zq28 hi]at hr';rw[zq28 (by omega)]at hu';exact h4 i r' u' hr' hu'
  ·rw[zq27 hi]at hr';rw[zq27 (by omega)]at hu';rw[h2]at hu';rcases hj:i-rows.length with _|j
   ·rw[hj]at hr' hu';simp at hr' hu';subst hr';subst hu';exact hu
   ·rw[hj]at hr';simp at hr'
 exact⟨hown.1,zq93 hown.2 hg (rows_apart hown.2 h1 hne)⟩
theorem RowOk.sl {e:TypeId}{B:Nat}{w:World}{u:Value}{r:List Nat}(h:RowOk e B w u r):SlI (fun k=>B≤k) w u (ints r):=by
 obtain⟨⟨g,c,rfl⟩,h1⟩:=h;rcases h1.2 with⟨h,_⟩|⟨g',cap,cur,h,hb,hgg,hn,hm,hs,ht⟩
 ·simp at h
 ·obtain⟨rfl,rfl⟩:g=g'∧c=cap:=by simpa using h
  refine⟨some ⟨g,0,none⟩,c,by rw[ints_length],by rw[ints_length];exact hn,hm,by simp,fun i x hx=>?_⟩;refine⟨g,0,rfl,hb,(zq10.1 hgg).1,.int .i64 x,?_,rfl⟩;have:=World.ownsRow.cells h1 (g:=g) rfl i (.int .i64 x) (by simp only[vals,zq20,hx];rfl);rwa[addr_add]at this
theorem Own2.at {e2 e:TypeId}{B:Nat}{w:World}{v:Value}{rows:List (List Nat)}(h:Own2 e2 e B w v rows){i:Nat}{r:List Nat}(hr:rows[i]?=some r):
  ∃g cap u,v= .slice (some ⟨g,0,none⟩) rows.length cap∧B≤g∧g<w.heap.size∧w.cell? ⟨g,i,none⟩=some u∧RowOk e B w u r:=by
 obtain⟨us,h1,h2,h4⟩:=h;have hil:=(zq2.1 hr).1;rcases h1.2 with⟨rfl,hn⟩|⟨g,cap,cur,rfl,hb,hgg,hn,hm,hs,ht⟩
 ·omega
 ·obtain⟨u,hu⟩:∃u,us[i]?=some u:=⟨_,zq0 (by omega)⟩;refine⟨g,cap,u,rfl,hb,(zq10.1 hgg).1,?_,h4 i r u hr hu⟩;have:=World.ownsRow.cells h1 (g:=g) rfl i u hu;rw[addr_add,zq39]at this;exact this
theorem Own2.form {e2 e:TypeId}{B:Nat}{w:World}{v:Value}{rows:List (List Nat)}(h:Own2 e2 e B w v rows):∃a cap,v= .slice a rows.length cap∧rows.length≤cap∧cap≤maxLen:=by
 obtain⟨us,h1,h2,h4⟩:=h;rcases h1.2 with⟨rfl,hn⟩|⟨g,cap,cur,rfl,hb,hgg,hn,hm,hs,ht⟩
 ·exact⟨none,0,by rw[hn],by omega,by simp⟩
 ·exact⟨_,cap,rfl,hn,hm⟩
theorem Own2.sl {e2 e:TypeId}{B:Nat}{w:World}{v:Value}{rows:List (List Nat)}(h:Own2 e2 e B w v rows):Sl2 (fun k=>B≤k) w v (rows.map ints):=by
 obtain⟨a,cap,rfl,h1,h2⟩:=h.form;refine⟨a,cap,by simp,by simpa using h1,h2,fun ha=>?_,fun i r hr=>?_⟩
 ·subst ha;rcases h.choose_spec.1.2 with⟨he,_⟩|⟨g,cap',cur,he,_⟩
  ·simp at he;exact he.2
  ·simp at he
 ·simp only[zq20,zq46]at hr;obtain⟨r',hr',rfl⟩:=hr;obtain⟨g,cap',u,he,hb,hg,hc,hok⟩:=h.at hr';obtain⟨rfl,_,rfl⟩:a=some ⟨g,0,none⟩∧True∧cap=cap':=by simpa using he
  exact⟨g,0,rfl,hb,hg,u,by rw[zq39];exact hc,hok.sl⟩
theorem NewS.row {x:List Nat}{B:Nat}{w:World}{g c:Nat}(h:Own B w (.slice (some ⟨g,0,none⟩) (ints x).length c) (ints x)):RowOk 2 B w (.slice (some ⟨g,0,none⟩) (ints x).length c) x:=by
 rw[ints_length]at h ⊢;refine⟨⟨g,c,rfl⟩,?_⟩;have:=h;unfold Own at this;rwa[ints_length]at this
def New2 (e2 e:TypeId)(rows:List (List Nat))(w:World)(e':Ending)(w':World):Prop:=∃v,e'= .returned v∧Own2 e2 e w.heap.size w' v rows∧Below w.heap.size w w'
end Go.Proofs.YtlmlamcoeegkbaaGreat
