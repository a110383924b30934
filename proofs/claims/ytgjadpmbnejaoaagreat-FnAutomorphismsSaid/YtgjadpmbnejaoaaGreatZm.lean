import Derived.Test.YtgjadpmbnejaoaaGreatZl
/-
  Lemmas for the law FnAutomorphisms, in short spelling.
-/
set_option linter.unusedVariables false
set_option linter.unusedSimpArgs false
set_option maxRecDepth 100000
set_option maxHeartbeats 40000000
namespace Go.Proofs.YtgjadpmbnejaoaaGreat
namespace Gen
open AJ
def Gen {α:Type}(m:α->α->α)(e:α)(cs:List α)(x:α):Prop:=∀S:α->Prop,S e->(∀y c,S y->c∈cs->S (m y c))->S x
theorem Gen.one {α:Type}{m:α->α->α}{e:α}{cs:List α}:Gen m e cs e:=λ_ h _=>h
theorem Gen.step {α:Type}{m:α->α->α}{e:α}{cs:List α}{x c:α}(h:Gen m e cs x)(C:c∈cs):Gen m e cs (m x c):=λS D B=>B x c (h S D B) C
theorem Gen.mem {α:Type}{M:α->Prop}{m:α->α->α}{e:α}(G:CE M m e){cs:List α}(B:∀c∈cs,M c){x:α}(h:Gen m e cs x):M x:=h M G.me (λy c C h=>G.cl C (B c h))
theorem Gen.mul {α:Type}{M:α->Prop}{m:α->α->α}{e:α}(G:CE M m e){cs:List α}(C:∀c∈cs,M c){x y:α}(D:Gen m e cs x)(I:Gen m e cs y):Gen m e cs (m x y):=by
 have F:=D.mem G C;have:=I (λy=>M y/\Gen m e cs (m x y)) ⟨G.me,by rw[G.eR F];exact D⟩ (λy c h B=>⟨G.cl h.1 (C c B),by rw[<-G.Ag F h.1 (C c B)];exact h.2.step B⟩);exact this.2
theorem Gen.of {α:Type}{M:α->Prop}{m:α->α->α}{e:α}(G:CE M m e){cs:List α}(B:∀c∈cs,M c){c:α}(h:c∈cs):Gen m e cs c:=by
 have:=(Gen.one (m:=m) (e:=e) (cs:=cs)).step h;rwa[G.eL (B c h)]at this
structure Sub {α:Type}(M:α->Prop)(m:α->α->α)(e:α)(S:α->Prop):Prop where
 me:S e
 cl:∀{x y},S x->S y->S (m x y)
 le:∀{x},S x->M x
theorem Sub.npow {α:Type}{M:α->Prop}{m:α->α->α}{e:α}{S:α->Prop}(h:Sub M m e S){x:α}(C:S x)(k:Nat):S (npow m e x k):=
 GH S _ (λ_ B=>h.cl B C) k e h.me
theorem Sub.gen {α:Type}{M:α->Prop}{m:α->α->α}{e:α}{S:α->Prop}(h:Sub M m e S){cs:List α}(C:∀c∈cs,S c){x:α}(D:Gen m e cs x):S x:=D S h.me (λy c F B=>h.cl F (C c B))
theorem Gen.sub {α:Type}{M:α->Prop}{m:α->α->α}{e:α}(G:CE M m e){cs:List α}(B:∀c∈cs,M c):Sub M m e (Gen m e cs):=⟨Gen.one,λa b=>a.mul G B b,λa=>a.mem G B⟩
theorem Qy {α:Type}{M:α->Prop}{m:α->α->α}{e:α}(G:CE M m e){x:α}(B:M x)(a b:Nat):npow m e (npow m e x a) b=npow m e x (a*b):=by
 induction b with
 |zero=>rfl
 |succ b ih=>rw[Cu,ih,Nat.mul_succ,G.JU B]
structure Bn {α:Type}(M:α->Prop)(m:α->α->α)(e:α)(n:Nat)(o:Nat->Nat)(f:Nat->α->Nat)(inv:α->α):Prop where
 G:CE M m e
 o2:∀d,d<n->2<=o d
 fe:∀d,d<n->f d e=0
 lt:∀{d x},d<n->M x->f d x<o d
 fm:∀{d x y},d<n->M x->M y->(∀j,j<d->f j x=0)->(∀j,j<d->f j y=0)->f d (m x y)=(f d x+f d y)%o d
 ze:∀{x},M x->(∀j,j<n->f j x=0)->x=e
 iM:∀{x},M x->M (inv x)
 iR:∀{x},M x->m x (inv x)=e
 iL:∀{x},M x->m (inv x) x=e
def A {α:Type}(M:α->Prop)(f:Nat->α->Nat)(d:Nat)(x:α):Prop:=M x/\∀j,j<d->f j x=0
section
variable {α:Type} {M:α->Prop} {m:α->α->α} {e:α} {n:Nat} {o:Nat->Nat} {f:Nat->α->Nat} {inv:α->α}
theorem EZ {d:Nat}{x:α}:A M f (d+1) x↔A M f d x/\f d x=0:=by
 constructor
 .rintro⟨C,B⟩;exact⟨⟨C,λj F=>B j (by omega)⟩,B d (by omega)⟩
 .rintro⟨⟨C,B⟩,D⟩;exact⟨C,λj F=>by
   rcases CU j d with h|h
   .exact B j h
   .obtain rfl:j=d:=by omega
    exact D⟩
theorem Oj {d B:Nat}{x:α}(h:A M f d x)(D:B<=d):A M f B x:=⟨h.1,λj C=>h.2 j (by omega)⟩
theorem Bn.Vw (F:Bn M m e n o f inv){d:Nat}(B:d<=n):A M f d e:=⟨F.G.me,λj C=>F.fe j (by omega)⟩
theorem Bn.aD (F:Bn M m e n o f inv){d:Nat}(I:d<=n){x y:α}(B:A M f d x)(C:A M f d y):A M f d (m x y):=
 ⟨F.G.cl B.1 C.1,λj D=>by
  rw[F.fm (by omega) B.1 C.1 (λi hi=>B.2 i (by omega)) (λi hi=>C.2 i (by omega)),B.2 j D,C.2 j D];exact Nat.zero_mod _⟩
theorem Bn.Gc (F:Bn M m e n o f inv){d:Nat}(B:d<=n):Sub M m e (A M f d):=⟨F.Vw B,λa b=>F.aD B a b,λa=>a.1⟩
theorem Bn.GY (F:Bn M m e n o f inv){d:Nat}(C:d<n){x:α}(B:A M f d x)(k:Nat):f d (npow m e x k)=k*f d x%o d:=by
 induction k with
 |zero=>rw[GR,F.fe d C];simp
 |succ k ih=>
  have D:=(F.Gc (Ci C)).npow B k;rw[Cu,F.fm C D.1 B.1 D.2 B.2,ih,Nat.succ_mul,Nat.mod_add_mod]
theorem Bn.ord (F:Bn M m e n o f inv):∀(k d:Nat),d+k=n->∀x,A M f d x->∃N,0<N/\npow m e x N=e
 |0,d,h,x,hx=>⟨1,by omega,by rw[F.G.Jr hx.1];exact F.ze hx.1 (λj I=>hx.2 j (by omega))⟩
 |k+1,d,h,x,hx=>by
  have D:A M f (d+1) (npow m e x (o d)):=EZ.2 ⟨(F.Gc (by omega)).npow hx _,by rw[F.GY (by omega) hx,Nat.mul_mod_right]⟩;obtain⟨N,C,B⟩:=Bn.ord F k (d+1) (by omega) _ D;rw[Qy F.G hx.1]at B;exact⟨o d*N,Nat.mul_pos (by have:=F.o2 d (by omega);omega) C,B⟩
theorem Bn.dM (F:Bn M m e n o f inv){x:α}(B:M x):∃N,npow m e x (N+1)=e:=by
 obtain⟨N,I,D⟩:=F.ord n 0 (by omega) x ⟨B,λj C=>absurd C (CS _)⟩;exact⟨N-1,by rw[show N-1+1=N by omega];exact D⟩
theorem Bn.mP (F:Bn M m e n o f inv){x:α}(B:M x):∃N,inv x=npow m e x N/\npow m e x (N+1)=e:=by
 obtain⟨N,C⟩:=F.dM B;refine⟨N,?_,C⟩;refine F.G.Nh B (F.iM B) (F.G.npow B N) ?_;rw[F.iL B];exact((Cu m e x N).symm.trans C).symm
theorem Bn.Gv (F:Bn M m e n o f inv){S:α->Prop}(h:Sub M m e S){x:α}(B:S x):S (inv x):=by
 obtain⟨N,C,_⟩:=F.mP (h.le B);rw[C];exact h.npow B N
theorem Bn.MR (F:Bn M m e n o f inv){x:α}(B:M x)(k:Nat):m (npow m e x k) (npow m e (inv x) k)=e/\m (npow m e (inv x) k) (npow m e x k)=e:=by
 have hi:=F.iM B;constructor
 .induction k with
  |zero=>exact F.G.eL F.G.me
  |succ k ih=>
   rw[Cu,Gh k 1,F.G.JU hi,F.G.Jr hi,F.G.Ag (F.G.npow B k) B (F.G.cl hi (F.G.npow hi k)),<-F.G.Ag B hi (F.G.npow hi k),F.iR B,F.G.eL (F.G.npow hi k),ih]
 .induction k with
  |zero=>exact F.G.eL F.G.me
  |succ k ih=>
   rw[Cu,Gh k 1,F.G.JU B,F.G.Jr B,F.G.Ag (F.G.npow hi k) hi (F.G.cl B (F.G.npow B k)),<-F.G.Ag hi B (F.G.npow B k),F.iL B,F.G.eL (F.G.npow B k),ih]
def strip (m:α->α->α)(e:α)(f:Nat->α->Nat)(inv:α->α)(t:Nat->Option α):Nat->Nat->α->Nat×α
 |0,d,x=>(d,x)
 |k+1,d,x=>if f d x=0 then strip m e f inv t k (d+1) x else
  match t d with
  |none=>(d,x)
  |some y=>strip m e f inv t k (d+1) (m x (npow m e (inv y) (f d x)))
def Mem (m:α->α->α)(e:α)(f:Nat->α->Nat)(inv:α->α)(t:Nat->Option α)(k d:Nat)(x:α):Prop:=(strip m e f inv t k d x).1=d+k
theorem Ik {t:Nat->Option α}{k d:Nat}{x:α}(h:f d x=0):strip m e f inv t (k+1) d x=strip m e f inv t k (d+1) x:=by rw[strip,BQ h]
theorem Jq {t:Nat->Option α}{k d:Nat}{x y:α}(h:f d x≠0)(B:t d=some y):strip m e f inv t (k+1) d x=strip m e f inv t k (d+1) (m x (npow m e (inv y) (f d x))):=by rw[strip,BF h,B]
theorem KP {t:Nat->Option α}{k d:Nat}{x:α}(h:f d x≠0)(B:t d=none):strip m e f inv t (k+1) d x=(d,x):=by rw[strip,BF h,B]
theorem UO (t:Nat->Option α):∀(k d:Nat) (x:α),d<=(strip m e f inv t k d x).1/\(strip m e f inv t k d x).1<=d+k
 |0,d,x=>⟨Al _,Al _⟩
 |k+1,d,x=>by
  by_cases h:f d x=0
  .rw[Ik h];have:=UO t k (d+1) x;omega
  .cases B:t d with
   |none=>rw[KP h B];exact⟨Al _,Nat.le_add_right _ _⟩
   |some y=>rw[Jq h B];have:=UO t k (d+1) (m x (npow m e (inv y) (f d x)));omega
def Tb (M:α->Prop)(n:Nat)(f:Nat->α->Nat)(t:Nat->Option α):Prop:=∀d y,t d=some y->d<n/\A M f d y/\f d y=1
theorem Bn.red (F:Bn M m e n o f inv){d:Nat}(B:d<n){x y:α}(J:A M f d x)(D:A M f d y)(N:f d y=1):A M f (d+1) (m x (npow m e (inv y) (f d x))):=by
 have I:=F.Gc (Ci B);have hi:=F.Gv I D;have C:=I.npow hi (f d x);refine EZ.2 ⟨I.cl J C,?_⟩;have K:=I.npow D (f d x);have L:f d (m (npow m e y (f d x)) (npow m e (inv y) (f d x)))=0:=by rw[(F.MR D.1 _).1,F.fe d B]
 rw[F.fm B K.1 C.1 K.2 C.2,F.GY B D,N,GZ,Nat.mod_add_mod]at L;rw[F.fm B J.1 C.1 J.2 C.2,L]
theorem Bn.Pm (F:Bn M m e n o f inv){t:Nat->Option α}(D:Tb M n f t):∀(k d:Nat) (x:α),d+k=n->A M f d x->
  A M f (strip m e f inv t k d x).1 (strip m e f inv t k d x).2/\((strip m e f inv t k d x).1<n->f (strip m e f inv t k d x).1 (strip m e f inv t k d x).2≠0/\t (strip m e f inv t k d x).1=none)
 |0,d,x,h,hx=>⟨hx,λI=>absurd I (by simp only[strip];omega)⟩
 |k+1,d,x,h,hx=>by
  by_cases B:f d x=0
  .rw[Ik B];exact Bn.Pm F D k (d+1) x (by omega) (EZ.2 ⟨hx,B⟩)
  .cases C:t d with
   |none=>rw[KP B C];exact⟨hx,λ_=>⟨B,C⟩⟩
   |some y=>rw[Jq B C];exact Bn.Pm F D k (d+1) _ (by omega) (F.red (by omega) hx (D d y C).2.1 (D d y C).2.2)
theorem Tv {S:α->Prop}(F:Bn M m e n o f inv)(B:Sub M m e S){t:Nat->Option α}(I:∀d y,t d=some y->S y):∀(k d:Nat) (x:α),S x->S (strip m e f inv t k d x).2
 |0,d,x,hx=>hx
 |k+1,d,x,hx=>by
  by_cases C:f d x=0
  .rw[Ik C];exact Tv F B I k (d+1) x hx
  .cases D:t d with
   |none=>rw[KP C D];exact hx
   |some y=>rw[Jq C D];exact Tv F B I k (d+1) _ (B.cl hx (B.npow (F.Gv B (I d y D)) _))
def Ext (t t':Nat->Option α):Prop:=∀d y,t d=some y->t' d=some y
theorem Ql {t t':Nat->Option α}(h:Ext t t'):∀(k d:Nat) (x:α),∃B,(strip m e f inv t k d x).1+B=d+k/\strip m e f inv t' k d x=strip m e f inv t' B (strip m e f inv t k d x).1 (strip m e f inv t k d x).2
 |0,d,x=>⟨0,rfl,rfl⟩
 |k+1,d,x=>by
  by_cases C:f d x=0
  .rw[Ik C,Ik C];obtain⟨B,I,F⟩:=Ql h k (d+1) x;exact⟨B,by omega,F⟩
  .cases D:t d with
   |none=>rw[KP C D];exact⟨k+1,rfl,rfl⟩
   |some y=>
    rw[Jq C D,Jq C (h d y D)];obtain⟨B,I,F⟩:=Ql h k (d+1) (m x (npow m e (inv y) (f d x)));exact⟨B,by omega,F⟩
theorem Mem.ext {t t':Nat->Option α}(h:Ext t t'){k d:Nat}{x:α}(B:Mem m e f inv t k d x):Mem m e f inv t' k d x:=by
 obtain⟨C,D,F⟩:=Ql (m:=m) (e:=e) (f:=f) (inv:=inv) h k d x;unfold Mem at B ⊢;rw[F];rw[B]at D ⊢;obtain rfl:C=0:=by omega
 rfl
theorem Wl (t:Nat->Option α):∀(j k d:Nat) (x:α),(∀i,i<d+j->f i x=0)->strip m e f inv t (j+k) d x=strip m e f inv t k (d+j) x
 |0,k,d,x,h=>by rw[CK];rfl
 |j+1,k,d,x,h=>by
  rw[show j+1+k=j+k+1 by omega,Ik (h d (by omega)),Wl t j k (d+1) x (λi hi=>h i (by omega)),show d+1+j=d+(j+1) by omega]
theorem Io {t:Nat->Option α}{k d:Nat}{x:α}(B:d+k=n)(h:A M f d x):Mem m e f inv t n 0 x↔Mem m e f inv t k d x:=by
 unfold Mem;rw[<-B,Wl t d k 0 x (by simpa using h.2),CK,CK]
theorem mQ (F:Bn M m e n o f inv){t t':Nat->Option α}(L:Tb M n f t)(h:Ext t t'){x:α}(D:M x)(N:Mem m e f inv t' n 0 (strip m e f inv t n 0 x).2):Mem m e f inv t' n 0 x:=by
 have O:=(F.Pm L n 0 x (by omega) ⟨D,λj J=>absurd J (CS _)⟩).1;obtain⟨C,I,K⟩:=Ql (m:=m) (e:=e) (f:=f) (inv:=inv) h n 0 x;have B:=(Io (n:=n) (k:=C) (t:=t') (by omega) O).1 N;unfold Mem at B ⊢;rw[K,B,I]
end
end Gen
namespace Gen
open AJ
section
variable {α:Type} {M:α->Prop} {m:α->α->α} {e:α} {n:Nat} {o:Nat->Nat} {f:Nat->α->Nat} {inv:α->α}
def com (m:α->α->α)(inv:α->α)(x y:α):α:=m (inv (m y x)) (m x y)
def Sd (M:α->Prop)(m:α->α->α)(e:α)(n:Nat)(f:Nat->α->Nat)(inv:α->α)(t:Nat->Option α)(d:Nat)(x:α):Prop:=A M f d x/\Mem m e f inv t n 0 x
theorem Ej {t:Nat->Option α}{d:Nat}{x:α}:Sd M m e n f inv t (d+1) x↔Sd M m e n f inv t d x/\f d x=0:=by
 unfold Sd;rw[EZ];constructor
 .rintro⟨⟨a,b⟩,c⟩;exact⟨⟨a,c⟩,b⟩
 .rintro⟨⟨a,c⟩,b⟩;exact⟨⟨a,b⟩,c⟩
theorem RI {t:Nat->Option α}{k d:Nat}{x:α}(D:d+(k+1)=n)(F:t d=none)(h:Sd M m e n f inv t d x):f d x=0:=by
 have B:=(Io D h.1).1 h.2;by_cases C:f d x=0
 .exact C
 .unfold Mem at B;rw[KP C F]at B;simp only at B;omega
theorem Yy (F:Bn M m e n o f inv){t:Nat->Option α}{k d:Nat}{x y:α}(K:d+(k+1)=n)(I:Tb M n f t)(D:t d=some y)(C:A M f d x):Sd M m e n f inv t d x↔Sd M m e n f inv t (d+1) (m x (npow m e (inv y) (f d x))):=by
 have J:=F.red (by omega) C (I d y D).2.1 (I d y D).2.2;unfold Sd;rw[Io K C,Io (k:=k) (d:=d+1) (by omega) J];constructor
 .rintro⟨_,h⟩;refine⟨J,?_⟩;by_cases B:f d x=0
  .rw[B,GR,F.G.eR C.1];unfold Mem at h ⊢;rw[Ik B]at h;omega
  .unfold Mem at h ⊢;rw[Jq B D]at h;omega
 .rintro⟨_,h⟩;refine⟨C,?_⟩;by_cases B:f d x=0
  .rw[B,GR,F.G.eR C.1]at h;unfold Mem at h ⊢;rw[Ik B];omega
  .unfold Mem at h ⊢;rw[Jq B D];omega
theorem Bn.R8 (F:Bn M m e n o f inv){d:Nat}(I:d<n){x y:α}(B:A M f d x)(C:A M f d y):A M f (d+1) (com m inv x y):=by
 have K:=F.Gc (Ci I);have D:=K.cl C B;have N:=K.cl B C;have hi:=F.Gv K D;have J:A M f d (com m inv x y):=K.cl hi N;refine EZ.2 ⟨J,?_⟩;have S:m (m y x) (com m inv x y)=m x y:=by rw[com,<-F.G.Ag D.1 hi.1 N.1,F.iR D.1,F.G.eL N.1]
 have e2:=Ck (f d) S;rw[F.fm I D.1 J.1 D.2 J.2,F.fm I B.1 C.1 B.2 C.2,F.fm I C.1 B.1 C.2 B.2,Gh (f d y),Nat.mod_add_mod]at e2;have Q:=F.lt I J.1;change f d (com m inv x y)<o d at Q;change (f d x+f d y+f d (com m inv x y))%o d=(f d x+f d y)%o d at e2;show f d (com m inv x y)=0;generalize f d (com m inv x y)=c at Q e2 ⊢;generalize f d x+f d y=s at e2;have R:=Nat.mod_add_div (s+c) (o d);have U:=Nat.mod_add_div s (o d);rw[e2]at R;have L:c=o d*((s+c)/o d)-o d*(s/o d):=by omega
 rw[<-Nat.mul_sub]at L;rcases Nat.eq_zero_or_pos ((s+c)/o d-s/o d)with O|O
 .rw[O]at L;simpa using L
 .have:=Nat.le_mul_of_pos_right (o d) O;omega
theorem Bn.back (F:Bn M m e n o f inv){t:Nat->Option α}{k d:Nat}(Z:d+(k+1)=n)(O:Tb M n f t){y:α}(N:t d=some y)(L:Sub M m e (Sd M m e n f inv t (d+1)))(X:Mem m e f inv t n 0 (npow m e y (o d)))
  {s:α} (K:Sd M m e n f inv t (d+1) s) (a:Nat):Sd M m e n f inv t d (m s (npow m e y a)):=by
 obtain⟨_,B,Y⟩:=O d y N;have I:=F.Gc (d:=d) (by omega);have C:A M f d s:=(EZ.1 K.1).1;have J:=I.npow B a;have V:=I.cl C J;have S:f d s=0:=(EZ.1 K.1).2;have W:f d (m s (npow m e y a))=a%o d:=by rw[F.fm (by omega) C.1 J.1 C.2 J.2,F.GY (by omega) B,Y,S,GZ,CK,Nat.mod_mod]
 refine(Yy F Z O N V).2 ?_;rw[W];have R:Sd M m e n f inv t (d+1) (npow m e y (o d)):=⟨EZ.2 ⟨I.npow B _,by rw[F.GY (by omega) B,Nat.mul_mod_right]⟩,X⟩;have b:npow m e y a=m (npow m e (npow m e y (o d)) (a/o d)) (npow m e y (a%o d)):=by
  rw[Qy F.G B.1,<-F.G.JU B.1,Nat.div_add_mod]
 have D:=F.G.npow (F.G.npow B.1 (o d)) (a/o d);have Q:=F.G.npow B.1 (a%o d);have U:=F.G.npow (F.iM B.1) (a%o d);rw[b,<-F.G.Ag C.1 D Q,F.G.Ag (F.G.cl C.1 D) Q U,(F.MR B.1 _).1,F.G.eR (F.G.cl C.1 D)];exact L.cl K (L.npow R _)
theorem Bn.closed (F:Bn M m e n o f inv){t:Nat->Option α}(Z:Tb M n f t)(hp:∀d y,t d=some y->Mem m e f inv t n 0 (npow m e y (o d)))
  (hc:∀d C y z,d<C->t d=some y->t C=some z->Mem m e f inv t n 0 (com m inv y z)\/Mem m e f inv t n 0 (com m inv z y)):∀k d,d+k=n->
  Sub M m e (Sd M m e n f inv t d)/\(∀C z,d<=C->t C=some z->Sd M m e n f inv t d z)/\
  (∀x,Sd M m e n f inv t d x->∀P:α->Prop,P e->(∀a C z,d<=C->t C=some z->P a->Sd M m e n f inv t d a->P (m a z))->P x)
 |0,d,hd=>by
  have U:∀x,Sd M m e n f inv t d x->x=e:=λx h=>F.ze h.1.1 (λj O=>h.1.2 j (by omega));have he:Sd M m e n f inv t d e:=⟨F.Vw (by omega),(Io hd (F.Vw (by omega))).2 rfl⟩;refine⟨⟨he,λ{x y} K hy=>by rw[U x K,U y hy,F.G.eL F.G.me];exact he,λh=>h.1.1⟩,λC z S J=>?_,λx K P S _=>by rw[U x K];exact S⟩;have:=(Z C z J).1;omega
 |k+1,d,hd=>by
  obtain⟨R,hT,hP⟩:=Bn.closed F Z hp hc k (d+1) (by omega);have hA:=F.Gc (d:=d) (by omega);have Y:∀x,Sd M m e n f inv t (d+1) x->Sd M m e n f inv t d x:=λx h=>(Ej.1 h).1;cases V:t d with
  |none=>
   have a2:∀x,Sd M m e n f inv t d x->Sd M m e n f inv t (d+1) x:=λx h=>Ej.2 ⟨h,RI hd V h⟩;refine⟨⟨Y _ R.me,λK hy=>Y _ (R.cl (a2 _ K) (a2 _ hy)),λh=>h.1.1⟩,λC z S J=>?_,λx K P S J=>hP x (a2 x K) P S (λa C z h3 p v h6=>J a C z (by omega) p v (Y _ h6))⟩;rcases CU d C with h|h
   .exact Y _ (hT C z h J)
   .obtain rfl:C=d:=by omega
    rw[V]at J;simp at J
  |some y=>
   obtain⟨_,a0,b4⟩:=Z d y V;have B:=a0.1;have G:=F.G;have q:=λ{s:α} (D:Sd M m e n f inv t (d+1) s) a=>F.back hd Z V R (hp d y V) D a;have hf:∀x,Sd M m e n f inv t d x->∃s a,Sd M m e n f inv t (d+1) s/\x=m s (npow m e y a):=λx K=>by
    refine⟨_,f d x,(Yy F hd Z V K.1).1 K,?_⟩;rw[G.Ag K.1.1 (G.npow (F.iM B) _) (G.npow B _),(F.MR B _).2,G.eR K.1.1]
   have a9:∀C z,d+1<=C->t C=some z->∃r,Sd M m e n f inv t (d+1) r/\m z y=m y r:=λC z b1 U=>by
    have a8:=hT C z b1 U;have a1:A M f d z:=Oj (Z C z U).2.1 (by omega);have L:=a1.1;rcases hc d C y z (by omega) V U with h|h
    .have g:Sd M m e n f inv t (d+1) (com m inv y z):=⟨F.R8 (by omega) a0 a1,h⟩;have hi:=F.Gv R g;refine⟨m z (inv (com m inv y z)),R.cl a8 hi,?_⟩;have Q:m (m z y) (com m inv y z)=m y z:=by rw[com,<-G.Ag (G.cl L B) (F.iM (G.cl L B)) (G.cl B L),F.iR (G.cl L B),G.eL (G.cl B L)]
     rw[<-G.Ag B L hi.1.1,<-Q,G.Ag (G.cl L B) g.1.1 hi.1.1,F.iR g.1.1,G.eR (G.cl L B)]
    .have g:Sd M m e n f inv t (d+1) (com m inv z y):=⟨F.R8 (by omega) a1 a0,h⟩;refine⟨m z (com m inv z y),R.cl a8 g,?_⟩;rw[<-G.Ag B L g.1.1,com,<-G.Ag (G.cl B L) (F.iM (G.cl B L)) (G.cl L B),F.iR (G.cl B L),G.eL (G.cl L B)]
   have n1:∀s,Sd M m e n f inv t (d+1) s->∃I,Sd M m e n f inv t (d+1) I/\m s y=m y I:=λs D=>by
    refine hP s D (λs=>∃I,Sd M m e n f inv t (d+1) I/\m s y=m y I) ⟨e,R.me,by rw[G.eL B,G.eR B]⟩ ?_;rintro a C z S J ⟨a',a5,Q⟩ ha;obtain⟨r,a3,e2⟩:=a9 C z S J;have L:=(Z C z J).2.1.1;exact⟨m a' r,R.cl a5 a3,by rw[G.Ag ha.1.1 L B,e2,<-G.Ag ha.1.1 B a3.1.1,Q,G.Ag B a5.1.1 a3.1.1]⟩
   have nk:∀j s,Sd M m e n f inv t (d+1) s->∃I,Sd M m e n f inv t (d+1) I/\m s (npow m e y j)=m (npow m e y j) I:=λj=>by
    induction j with
    |zero=>intro s D;exact⟨s,D,by rw[GR,G.eR D.1.1,G.eL D.1.1]⟩
    |succ j ih=>
     intro s D;obtain⟨I,W,Q⟩:=ih s D;obtain⟨l,X,e2⟩:=n1 I W;have O:=G.npow B j;exact⟨l,X,by rw[Cu,<-G.Ag D.1.1 O B,Q,G.Ag O W.1.1 B,e2,<-G.Ag O B X.1.1]⟩
   have n2:∀s,Sd M m e n f inv t (d+1) s->∃I,Sd M m e n f inv t (d+1) I/\m y s=m I y:=λs D=>by
    obtain⟨N,hN⟩:=F.dM B;obtain⟨I,W,Q⟩:=nk N s D;have O:=G.npow B N;have i:=D.1.1;have e3:m (npow m e y N) y=e:=(Cu m e y N).symm.trans hN;have e4:m y (npow m e y N)=e:=by rw[G.XB B];exact hN
    refine⟨I,W,?_⟩;have e5:m y (m s (npow m e y N))=I:=by rw[Q,<-G.Ag B O W.1.1,e4,G.eL W.1.1]
    rw[<-e5,G.Ag B (G.cl i O) B,G.Ag i O B,e3,G.eR i]
   have b3:∀j s,Sd M m e n f inv t (d+1) s->∃I,Sd M m e n f inv t (d+1) I/\m (npow m e y j) s=m I (npow m e y j):=λj=>by
    induction j with
    |zero=>intro s D;exact⟨s,D,by rw[GR,G.eR D.1.1,G.eL D.1.1]⟩
    |succ j ih=>
     intro s D;obtain⟨I,W,Q⟩:=n2 s D;obtain⟨l,X,e2⟩:=ih I W;have O:=G.npow B j;exact⟨l,X,by rw[Cu,G.Ag O B D.1.1,Q,<-G.Ag O W.1.1 B,e2,G.Ag X.1.1 O B]⟩
   have b0:Sub M m e (Sd M m e n f inv t d):=by
    refine⟨Y _ R.me,λ{x z} K U=>?_,λh=>h.1.1⟩;obtain⟨s,a,D,rfl⟩:=hf x K;obtain⟨l,b,X,rfl⟩:=hf z U;obtain⟨s3,a4,Q⟩:=b3 a l X;have ha:=G.npow B a;have u:=G.npow B b;have i:=D.1.1;have a7:=X.1.1;have a6:=a4.1.1;have:m (m s (npow m e y a)) (m l (npow m e y b))=m (m s s3) (npow m e y (a+b)):=by
     rw[G.Ag i ha (G.cl a7 u),<-G.Ag ha a7 u,Q,G.Ag a6 ha u,<-G.JU B,G.Ag i a6 (G.npow B _)]
    rw[this];exact q (R.cl D a4) _
   have b2:Sd M m e n f inv t d y:=by
    have:=q R.me 1;rwa[G.Jr B,G.eL B]at this
   refine⟨b0,λC z S J=>?_,λx K P S J=>?_⟩
   .rcases CU d C with h|h
    .exact Y _ (hT C z h J)
    .obtain rfl:C=d:=by omega
     rw[V]at J;injection J with J;rw[<-J];exact b2
   .obtain⟨s,a,D,rfl⟩:=hf x K;have h3:P s:=hP s D P S (λa C z h3 p v h6=>J a C z (by omega) p v (Y _ h6));have p:∀a,P (m s (npow m e y a))/\Sd M m e n f inv t d (m s (npow m e y a)):=λa=>by
     refine⟨?_,q D a⟩
     induction a with
     |zero=>rw[GR,G.eR D.1.1];exact h3
     |succ a ih=>
      rw[Cu,<-G.Ag D.1.1 (G.npow B a) B];exact J _ d y AV V ih (q D a)
    exact(p a).1
def QY:List Nat->List Nat->Prop
 |[],[]=>True
 |a::es,b::os=>a<b/\QY es os
 |_,_=>False
def BV (t:Nat->Option α):Nat->Nat->List α
 |0,_=>[]
 |k+1,d=>match t d with
  |none=>BV t k (d+1)
  |some u=>u::BV t k (d+1)
def FI (t:Nat->Option α)(o:Nat->Nat):Nat->Nat->List Nat
 |0,_=>[]
 |k+1,d=>match t d with
  |none=>FI t o k (d+1)
  |some _=>o d::FI t o k (d+1)
def fP (M:α->Prop)(m:α->α->α)(e:α)(n:Nat)(f:Nat->α->Nat)(inv:α->α)(t B:Nat->Option α):Prop:=
 ∀d,(t d=none->B d=none)/\∀y,t d=some y->∃s,Sd M m e n f inv t (d+1) s/\B d=some (m y s)
theorem Bn.full (F:Bn M m e n o f inv){t N:Nat->Option α}(W:Tb M n f t)(L:∀d,d<=n->Sub M m e (Sd M m e n f inv t d))(hT:∀d z,t d=some z->Sd M m e n f inv t d z)(J:fP M m e n f inv t N):∀k d,d+k=n->∀x,
  Sd M m e n f inv t d x↔∃es,QY es (FI N o k d)/\ev m e (BV N k d) es=x
 |0,d,hd,x=>by
  have g:=(L d (by omega)).me;constructor
  .intro h;exact⟨[],trivial,(F.ze h.1.1 (λj q=>h.1.2 j (by omega))).symm⟩
  .rintro⟨es,Y,rfl⟩;cases es with
   |nil=>exact g
   |cons _ _=>exact Y.elim
 |k+1,d,hd,x=>by
  have Q:=Bn.full F W L hT J k (d+1) (by omega);have B:=L d (by omega);cases D:t d with
  |none=>
   have e2:=(J d).1 D;rw[BV,FI,e2];refine Iff.trans ⟨λh=>Ej.2 ⟨h,RI hd D h⟩,λh=>(Ej.1 h).1⟩ (Q x)
  |some y=>
   obtain⟨s,U,e2⟩:=(J d).2 y D;rw[BV,FI,e2];obtain⟨_,R,l⟩:=W d y D;have K:=EZ.1 U.1;have C:Sd M m e n f inv t d (m y s):=B.cl (hT d y D) (Ej.1 U).1;generalize b:m y s=u at C;have V:=C.1.1;have Z:f d u=1:=by
    rw[<-b,F.fm (by omega) R.1 K.1.1 R.2 K.1.2,l,K.2];exact EC (F.o2 d (by omega))
   have G:=F.G;constructor
   .intro h;have i:Sd M m e n f inv t d (m (npow m e (inv u) (f d x)) x):=B.cl (B.npow (F.Gv B C) _) h;have hi:Sd M m e n f inv t d (npow m e (inv u) (f d x)):=B.npow (F.Gv B C) _;have O:Sd M m e n f inv t d (npow m e u (f d x)):=B.npow C _;have S:f d (m (npow m e (inv u) (f d x)) (npow m e u (f d x)))=0:=by rw[(F.MR V _).2,F.fe d (by omega)]
    rw[F.fm (by omega) hi.1.1 O.1.1 hi.1.2 O.1.2,F.GY (by omega) C.1,Z,GZ,Nat.add_mod_mod]at S;have X:f d (m (npow m e (inv u) (f d x)) x)=0:=by rw[F.fm (by omega) hi.1.1 h.1.1 hi.1.2 h.1.2,S]
    obtain⟨es,I,p⟩:=(Q _).1 (Ej.2 ⟨i,X⟩);refine⟨f d x::es,⟨F.lt (by omega) h.1.1,I⟩,?_⟩;rw[AJ.ev,p,<-G.Ag O.1.1 hi.1.1 h.1.1,(F.MR V _).1,G.eL h.1.1]
   .rintro⟨es,I,rfl⟩;cases es with
    |nil=>exact I.elim
    |cons a es=>
     exact B.cl (B.npow C a) (Ej.1 ((Q _).2 ⟨es,I.2,rfl⟩)).1
structure Inv (M:α->Prop)(m:α->α->α)(e:α)(n:Nat)(o:Nat->Nat)(f:Nat->α->Nat)(inv:α->α)(im:List α)(t:Nat->Option α)(work:List α):Prop where
 tb:Tb M n f t
 tg:∀d y,t d=some y->Gen m e im y
 wg:∀w∈work,Gen m e im w
 ob:∀t',Ext t t'->(∀w∈work,Mem m e f inv t' n 0 w)->(∀x∈im,Mem m e f inv t' n 0 x)/\(∀d y,t d=some y->Mem m e f inv t' n 0 (npow m e y (o d)))/\
  ∀d d' y z,d<d'->t d=some y->t d'=some z->Mem m e f inv t' n 0 (com m inv y z)\/Mem m e f inv t' n 0 (com m inv z y)
theorem Inv.start (F:Bn M m e n o f inv){im:List α}(C:∀c∈im,M c):Inv M m e n o f inv im (λ_=>none) im:=
 ⟨λ_ _ h=>by simp at h,λ_ _ h=>by simp at h,λw B=>Gen.of F.G C B,λt' _ h=>⟨h,λ_ _ h=>by simp at h,λ_ _ _ _ _ h=>by simp at h⟩⟩
theorem Inv.member {im F:List α}{t:Nat->Option α}{x:α}(h:Inv M m e n o f inv im t (F++[x]))(J:(strip m e f inv t n 0 x).1=n):Inv M m e n o f inv im t F:=by
 refine⟨h.tb,h.tg,λw B=>h.wg w (OJ _ B),λt' D B=>h.ob t' D (λw I=>?_)⟩;rcases DY.1 I with C|C
 .exact B w C
 .rw[ES.1 C];refine Mem.ext D ?_;unfold Mem;rw[J];simp
def put (t:Nat->Option α)(d:Nat)(y:α):Nat->Option α:=λj=>if j=d then some y else t j
theorem Inv.enter (F:Bn M m e n o f inv){im X N:List α}(a2:∀c∈im,M c){t:Nat->Option α}{x:α}(h:Inv M m e n o f inv im t (X++[x])){d:Nat}{r y:α}(hx:strip m e f inv t n 0 x=(d,r))(a:d<n){c:Nat}(q:y=npow m e r c)(a4:f d y=1)
  (h1:∀w∈X,w∈N) (h2:r∈N) (h3:npow m e y (o d)∈N) (h4:∀I z,I≠d->t I=some z->com m inv y z∈N)
  (h5:∀w∈N,w∈X\/w=r\/w=npow m e y (o d)\/∃I z,I≠d/\t I=some z/\w=com m inv y z):Inv M m e n o f inv im (put t d y) N:=by
 have D:=Gen.sub F.G a2;have u:=h.wg x (LZ _ CJ);have s:=D.le u;have Q:=F.Pm h.tb n 0 x (by omega) ⟨s,λj C=>absurd C (CS _)⟩;have R:=Tv F D h.tg n 0 x u;have W:=λt' L hm=>mQ F (t':=t') h.tb L s hm;rw[hx]at Q R W;simp only at Q R W;have a3:=(Q.2 a).2;have S:Gen m e im y:=q▸D.npow R c;have a1:A M f d y:=q▸(F.Gc (Ci a)).npow Q.1 c;have K:∀j z,put t d y j=some z->(j=d/\z=y)\/(j≠d/\t j=some z):=λj z B=>by
  unfold put at B;split at B
  .next C=>injection B with B;exact .inl ⟨C,B.symm⟩
  .next C=>exact .inr ⟨C,B⟩
 have b:∀t',Ext (put t d y) t'->Ext t t':=λt' L j z B=>L j z (by
  unfold put;rw[BF (λC=>by rw[C,a3]at B;simp at B)];exact B)
 refine⟨λj z B=>?_,λj z B=>?_,λw J=>?_,λt' L J=>?_⟩
 .rcases K j z B with⟨rfl,rfl⟩|⟨_,B⟩
  .exact⟨a,a1,a4⟩
  .exact h.tb j z B
 .rcases K j z B with⟨rfl,rfl⟩|⟨_,B⟩
  .exact S
  .exact h.tg j z B
 .rcases h5 w J with O|rfl|rfl|⟨I,z,_,B,rfl⟩
  .exact h.wg w (OJ _ O)
  .exact R
  .exact D.npow S _
  .have p:=h.tg I z B;exact D.cl (F.Gv D (D.cl p S)) (D.cl S p)
 .have Y:=h.ob t' (b t' L) (λw a0=>by
   rcases DY.1 a0 with O|O
   .exact J w (h1 w O)
   .rw[ES.1 O];exact W t' (b t' L) (J r h2))
  refine⟨Y.1,λj z B=>?_,λj U z V C B g=>?_⟩
  .rcases K j z B with⟨rfl,rfl⟩|⟨_,B⟩
   .exact J _ h3
   .exact Y.2.1 j z B
  .rcases K j z B with⟨e1,e2⟩|⟨a5,i⟩
   .rcases K U V g with⟨e3,v⟩|⟨l,Z⟩
    .omega
    .rw[e2];exact .inl (J _ (h4 U V l Z))
   .rcases K U V g with⟨e3,v⟩|⟨l,Z⟩
    .rw[v];exact .inr (J _ (h4 j z a5 i))
    .exact Y.2.2 j U z V C i Z
structure Oy (M:α->Prop)(m:α->α->α)(e:α)(n:Nat)(f:Nat->α->Nat)(inv:α->α)(im:List α)(t:Nat->Option α):Prop where
 tb:Tb M n f t
 sub:∀d,d<=n->Sub M m e (Sd M m e n f inv t d)
 mem:∀d z,t d=some z->Sd M m e n f inv t d z
 gen:∀x,Gen m e im x↔Sd M m e n f inv t 0 x
theorem Inv.Oo (F:Bn M m e n o f inv){im:List α}(J:∀c∈im,M c){t:Nat->Option α}(h:Inv M m e n o f inv im t []):Oy M m e n f inv im t:=by
 have I:=h.ob t (λ_ _ h=>h) (λw R=>by simp at R);have N:=F.closed h.tb I.2.1 I.2.2;have C:∀d,d<=n->_:=λd L=>N (n-d) d (by omega);refine⟨h.tb,λd L=>(C d L).1,λd z B=>(C d (Ci (h.tb d z B).1)).2.1 d z AV B,λx=>⟨λD=>?_,λD=>?_⟩⟩
 .exact(C 0 (by omega)).1.gen (λc K=>⟨⟨J c K,λj O=>absurd O (CS _)⟩,I.1 c K⟩) D
 .exact(C 0 (by omega)).2.2 x D (Gen m e im) Gen.one (λa Q z _ B ha _=>ha.mul F.G J (h.tg Q z B))
end
end Gen
namespace CP
open AJ Gen
open Classical in
noncomputable def Ai (T:Tw)(x:List Nat):List Nat:=if h:∃y,El T y/\mul T x y=AJ.one T/\mul T y x=AJ.one T then Classical.choose h else AJ.one T
theorem Br {T:Tw}(h:Wf T)(hg:AJ.Good T){x:List Nat}(C:El T x):El T (Ai T x)/\mul T x (Ai T x)=AJ.one T/\mul T (Ai T x) x=AJ.one T:=by
 have B:∃y,El T y/\mul T x y=AJ.one T/\mul T y x=AJ.one T:=(BA h hg).iv C;unfold Ai;rw[dif_pos B];exact Kk B
theorem Yz {T:Tw}(h:Wf T)(hg:AJ.Good T){x y:List Nat}(C:El T x)(D:El T y)(e:mul T x y=AJ.one T):y=Ai T x:=by
 have B:=Br h hg C;exact(BA h hg).Js C D B.1 (e.trans B.2.1.symm)
def oF (T:Tw)(d:Nat):Nat:=(T.getD d default).o
def fF (d:Nat)(x:List Nat):Nat:=x.getD d 0
theorem Qm {x:List Nat}{d:Nat}(B:d<=x.length)(h:∀j,j<d->fF j x=0):x=pad d (x.drop d):=by
 refine GN λi=>?_;unfold pad;rcases CU i d with hi|hi
 .rw[DK (by simpa using hi),Gg,BQ hi];have:=h i hi;unfold fF at this;rw[BG,AU (by omega)]at this;rw[AU (by omega)];simpa using this
 .rw[DC (by simpa using hi),Fa,Bp,IV hi]
theorem Rk (d a:Nat)(x:List Nat):fF d (pad d (a::x))=a:=by
 unfold fF pad;rw[BG,DC (by simp)];simp
theorem He {T:Tw}{d:Nat}{L:Lv}(h:T[d]?=some L):oF T d=L.o:=by
 unfold oF;rw[BG,h];rfl
theorem Ct {T:Tw}(h:Wf T)(hg:AJ.Good T):Bn (El T) (mul T) (AJ.one T) T.length (oF T) fF (Ai T):=by
 refine⟨BA h hg,λd D=>?_,λd D=>?_,λ{d x} D B=>?_,λ{d x y} D B O K R=>?_,λ{x} B K=>?_,λB=>(Br h hg B).1,λB=>(Br h hg B).2.1,λB=>(Br h hg B).2.2⟩
 .obtain⟨L,C⟩:∃L,T[d]?=some L:=⟨_,AU D⟩;rw[He C];exact(En h C).2.2.2.2
 .unfold fF AJ.one;rw[BG,Gg];split<;>rfl
 .obtain⟨a,ha⟩:∃a,x[d]?=some a:=⟨_,AU (by rw[Ad B];exact D)⟩;obtain⟨L,C,Q⟩:=Gb B ha;rw[He C];unfold fF;rw[BG,ha];exact Q
 .obtain⟨L,C⟩:∃L,T[d]?=some L:=⟨_,AU D⟩;have J:=Qm (by rw[Ad B];omega) K;have N:=Qm (by rw[Ad O];omega) R;have F:=Gu B d;have I:=Gu O d;rw[EB C]at F I;generalize x.drop d=x' at J F;generalize y.drop d=y' at N I;cases x' with
  |nil=>exact F.elim
  |cons a x'=>
   cases y' with
   |nil=>exact I.elim
   |cons b y'=>
    have e:mul T x y=pad d (mul (T.drop d) (a::x') (b::y')):=by rw[J,N,lV h d (by rw[EB C];exact F) (by rw[EB C];exact I) (by omega)]
    rw[e,EB C,mul_cons,He C,J,N,Rk,Rk];have ha:=F.1;have S:=I.1;split
    .rw[Rk,Nat.mod_eq_sub_mod (by omega),EC (by omega)]
    .rw[Rk,EC (by omega)]
 .have:=Qm (d:=T.length) (by rw[Ad B];omega) K;rw[this,<-Ad B,JZ];simp[pad,AJ.one,Ad B]
theorem Zb {Q T:Tw}(W:Wf Q)(hg:AJ.Good Q)(hT:Wf T){cs:List (List Nat)}(F:∀c∈cs,El Q c)(S:Rel (mul Q) (AJ.one Q) T cs)(x:List Nat):Gen (mul Q) (AJ.one Q) cs x↔∃z,El T z/\ev (mul Q) (AJ.one Q) cs z=x:=by
 have G:=BA W hg;have U:=O8 S;have O:∀(cs:List (List Nat)) n,ev (mul Q) (AJ.one Q) cs (List.replicate n 0)=AJ.one Q:=by
  intro cs
  induction cs with
  |nil=>intro n;cases n<;>rfl
  |cons d B NJ=>intro n;cases n with
   |zero=>rfl
   |succ n=>exact(Ck (mul Q _) (NJ n)).trans (by rw[GR,G.eL G.me])
 have V:∀(cs:List (List Nat)) (T:Tw),(∀c∈cs,El Q c)->cs.length=T.length->∀j c,cs[j]?=some c->ev (mul Q) (AJ.one Q) cs (unit T j)=c:=by
  intro cs
  induction cs with
  |nil=>intro T _ _ j c C;simp at C
  |cons d B NJ=>intro T D R j c C;cases T with
   |nil=>simp at R
   |cons L T=>
    have N:=D d CJ;cases j with
    |zero=>
     simp only[Bu,EQ]at C;subst C;rw[PE];show mul Q (npow (mul Q) (AJ.one Q) d 1) (ev (mul Q) (AJ.one Q) B (AJ.one T))=d;rw[G.Jr N];exact(Ck (mul Q d) (O B _)).trans (G.eR N)
    |succ j=>
     rw[Qi];show mul Q (npow (mul Q) (AJ.one Q) d 0) (ev (mul Q) (AJ.one Q) B (unit T j))=c;rw[NJ T (λx I=>D x (CW _ I)) (by simpa using R) j c (by simpa using C),GR];exact G.eL (D c (CW _ (Af (by simpa using C))))
 constructor
 .intro h;refine h (λx=>∃z,El T z/\ev (mul Q) (AJ.one Q) cs z=x) ⟨AJ.one T,CR hT,O cs _⟩ ?_;rintro y c ⟨z,J,rfl⟩ X;obtain⟨j,C⟩:=Eb X;have Y:j<cs.length:=(Ak.1 C).1;refine⟨mul T z (unit T j),Bz hT J (Ip hT j),?_⟩;rw[G.Lm hT F S J (Ip hT j),V cs T F U j c C]
 .rintro⟨z,_,rfl⟩;have:∀(B:List (List Nat)),(∀d∈B,d∈cs)->∀z,Gen (mul Q) (AJ.one Q) cs (ev (mul Q) (AJ.one Q) B z):=by
   intro B
   induction B with
   |nil=>intro _ z;cases z<;>exact Gen.one
   |cons d B ih=>intro D z;cases z with
    |nil=>exact Gen.one
    |cons a z=>
     have K:=Gen.sub G F;exact K.cl (K.npow (Gen.of G F (D d CJ)) a) (ih (λx I=>D x (CW _ I)) z)
  exact this cs (λ_ h=>h) z
end CP
namespace Fe
open AJ Gen
section
variable {α:Type} {M:α->Prop} {m:α->α->α} {e:α} {n:Nat} {o:Nat->Nat} {f:Nat->α->Nat} {inv:α->α}
def Co (m:α->α->α)(e:α)(o:Nat->Nat)(f:Nat->α->Nat)(t:Nat->Option α):Nat->Nat->α->Nat×α
 |0,d,x=>(d,x)
 |k+1,d,x=>if f d x=0 then Co m e o f t k (d+1) x else
  match t d with
  |none=>(d,x)
  |some y=>Co m e o f t k (d+1) (m (npow m e y (o d-f d x)) x)
def Dm (m:α->α->α)(e:α)(o:Nat->Nat)(f:Nat->α->Nat)(t:Nat->Option α)(k d:Nat)(x:α):Prop:=(Co m e o f t k d x).1=d+k
theorem MN {t:Nat->Option α}{k d:Nat}{x:α}(h:f d x=0):Co m e o f t (k+1) d x=Co m e o f t k (d+1) x:=by rw[Co,BQ h]
theorem MO {t:Nat->Option α}{k d:Nat}{x y:α}(h:f d x≠0)(B:t d=some y):Co m e o f t (k+1) d x=Co m e o f t k (d+1) (m (npow m e y (o d-f d x)) x):=by rw[Co,BF h,B]
theorem Nf {t:Nat->Option α}{k d:Nat}{x:α}(h:f d x≠0)(B:t d=none):Co m e o f t (k+1) d x=(d,x):=by rw[Co,BF h,B]
theorem U6 (t:Nat->Option α):∀(k d:Nat) (x:α),d<=(Co m e o f t k d x).1/\(Co m e o f t k d x).1<=d+k
 |0,d,x=>⟨Al _,Al _⟩
 |k+1,d,x=>by
  by_cases h:f d x=0
  .rw[MN h];have:=U6 t k (d+1) x;omega
  .cases B:t d with
   |none=>rw[Nf h B];exact⟨Al _,Nat.le_add_right _ _⟩
   |some y=>rw[MO h B];have:=U6 t k (d+1) (m (npow m e y (o d-f d x)) x);omega
theorem VX (F:Bn M m e n o f inv){d:Nat}(B:d<n){x y:α}(C:A M f d x)(I:A M f d y)(L:f d y=1):A M f (d+1) (m (npow m e y (o d-f d x)) x):=by
 have J:=F.Gc (Ci B);have D:=J.npow I (o d-f d x);refine EZ.2 ⟨J.cl D C,?_⟩;have K:=F.lt B C.1;rw[F.fm B D.1 C.1 D.2 C.2,F.GY B I,L,GZ,Nat.mod_add_mod,Nat.sub_add_cancel (Ci K),Nat.mod_self]
theorem QI (F:Bn M m e n o f inv){t:Nat->Option α}(D:Tb M n f t):∀(k d:Nat) (x:α),d+k=n->A M f d x->
  A M f (Co m e o f t k d x).1 (Co m e o f t k d x).2/\((Co m e o f t k d x).1<n->f (Co m e o f t k d x).1 (Co m e o f t k d x).2≠0/\t (Co m e o f t k d x).1=none)
 |0,d,x,h,hx=>⟨hx,λI=>absurd I (by simp only[Co];omega)⟩
 |k+1,d,x,h,hx=>by
  by_cases B:f d x=0
  .rw[MN B];exact QI F D k (d+1) x (by omega) (EZ.2 ⟨hx,B⟩)
  .cases C:t d with
   |none=>rw[Nf B C];exact⟨hx,λ_=>⟨B,C⟩⟩
   |some y=>rw[MO B C];exact QI F D k (d+1) _ (by omega) (VX F (by omega) hx (D d y C).2.1 (D d y C).2.2)
theorem Ui {S:α->Prop}(F:Bn M m e n o f inv)(B:Sub M m e S){t:Nat->Option α}(I:∀d y,t d=some y->S y):∀(k d:Nat) (x:α),S x->S (Co m e o f t k d x).2
 |0,d,x,hx=>hx
 |k+1,d,x,hx=>by
  by_cases C:f d x=0
  .rw[MN C];exact Ui F B I k (d+1) x hx
  .cases D:t d with
   |none=>rw[Nf C D];exact hx
   |some y=>rw[MO C D];exact Ui F B I k (d+1) _ (B.cl (B.npow (I d y D) _) hx)
theorem RJ {t t':Nat->Option α}(h:Ext t t'):∀(k d:Nat) (x:α),∃B,(Co m e o f t k d x).1+B=d+k/\Co m e o f t' k d x=Co m e o f t' B (Co m e o f t k d x).1 (Co m e o f t k d x).2
 |0,d,x=>⟨0,rfl,rfl⟩
 |k+1,d,x=>by
  by_cases C:f d x=0
  .rw[MN C,MN C];obtain⟨B,I,F⟩:=RJ h k (d+1) x;exact⟨B,by omega,F⟩
  .cases D:t d with
   |none=>rw[Nf C D];exact⟨k+1,rfl,rfl⟩
   |some y=>
    rw[MO C D,MO C (h d y D)];obtain⟨B,I,F⟩:=RJ h k (d+1) (m (npow m e y (o d-f d x)) x);exact⟨B,by omega,F⟩
theorem Dm.ext {t t':Nat->Option α}(h:Ext t t'){k d:Nat}{x:α}(B:Dm m e o f t k d x):Dm m e o f t' k d x:=by
 obtain⟨C,D,F⟩:=RJ (m:=m) (e:=e) (o:=o) (f:=f) h k d x;unfold Dm at B ⊢;rw[F];rw[B]at D ⊢;obtain rfl:C=0:=by omega
 rfl
theorem PQ (t:Nat->Option α):∀(j k d:Nat) (x:α),(∀i,i<d+j->f i x=0)->Co m e o f t (j+k) d x=Co m e o f t k (d+j) x
 |0,k,d,x,h=>by rw[CK];rfl
 |j+1,k,d,x,h=>by
  rw[show j+1+k=j+k+1 by omega,MN (h d (by omega)),PQ t j k (d+1) x (λi hi=>h i (by omega)),show d+1+j=d+(j+1) by omega]
theorem XJ {t:Nat->Option α}{k d:Nat}{x:α}(B:d+k=n)(h:A M f d x):Dm m e o f t n 0 x↔Dm m e o f t k d x:=by
 unfold Dm;rw[<-B,PQ t d k 0 x (by simpa using h.2),CK,CK]
theorem kC (F:Bn M m e n o f inv){t t':Nat->Option α}(L:Tb M n f t)(h:Ext t t'){x:α}(D:M x)(N:Dm m e o f t' n 0 (Co m e o f t n 0 x).2):Dm m e o f t' n 0 x:=by
 have O:=(QI F L n 0 x (by omega) ⟨D,λj J=>absurd J (CS _)⟩).1;obtain⟨C,I,K⟩:=RJ (m:=m) (e:=e) (o:=o) (f:=f) h n 0 x;have B:=(XJ (n:=n) (k:=C) (t:=t') (by omega) O).1 N;unfold Dm at B ⊢;rw[K,B,I]
def JP (d:Nat)(t:Nat->Option α):Nat->Option α:=λj=>if j<d then none else t j
theorem PS {d j:Nat}{t:Nat->Option α}{y:α}:JP d t j=some y↔d<=j/\t j=some y:=by
 unfold JP;split
 .constructor
  .intro h;simp at h
  .rintro⟨B,_⟩;omega
 .constructor
  .intro h;exact⟨by omega,h⟩
  .exact λh=>h.2
theorem Td {t t':Nat->Option α}:∀(k d:Nat) (x:α),(∀j,d<=j->t j=t' j)->strip m e f inv t k d x=strip m e f inv t' k d x
 |0,d,x,h=>rfl
 |k+1,d,x,h=>by
  by_cases B:f d x=0
  .rw[Ik B,Ik B];exact Td k (d+1) x (λj D=>h j (by omega))
  .cases C:t d with
   |none=>rw[KP B C,KP B (by rw[<-h d AV];exact C)]
   |some y=>rw[Jq B C,Jq B (by rw[<-h d AV];exact C)];exact Td k (d+1) _ (λj D=>h j (by omega))
theorem Uj {t:Nat->Option α}{k d:Nat}{x:α}:Mem m e f inv (JP d t) k d x↔Mem m e f inv t k d x:=by
 unfold Mem;rw[Td (t:=JP d t) (t':=t) k d x (λj B=>by unfold JP;rw[BF (by omega)])]
theorem dN (F:Bn M m e n o f inv){t:Nat->Option α}(J:Tb M n f t)(g:∀d y,t d=some y->Dm m e o f t n 0 (npow m e y (o d)))
  (X:∀d V y z,d<V->t d=some y->t V=some z->Dm m e o f t n 0 (com m inv y z)\/Dm m e o f t n 0 (com m inv z y)):∀k d,d+k=n->∀x,A M f d x->(Dm m e o f t k d x↔Mem m e f inv t k d x)
 |0,d,hd,x,hx=>Iff.rfl
 |k+1,d,hd,x,hx=>by
  have S:=dN F J g X k (d+1) (by omega);by_cases D:f d x=0
  .have C:=S x (EZ.2 ⟨hx,D⟩);unfold Dm Mem at C ⊢;rw[MN D,Ik D,show d+(k+1)=d+1+k by omega];exact C
  .cases K:t d with
   |none=>
    unfold Dm Mem;rw[Nf D K,KP D K]
   |some y=>
    obtain⟨_,q,a3⟩:=J d y K;have R:∀z,A M f (d+1) z->Dm m e o f t n 0 z->Mem m e f inv (JP d t) n 0 z:=λz B u=>by
     have C:=(S z B).1 ((XJ (by omega) B).1 u);have I:Mem m e f inv t n 0 z:=(Io (by omega) B).2 C;exact(Io hd (EZ.1 B).1).2 (Uj.2 ((Io hd (EZ.1 B).1).1 I))
    have hA:=F.Gc (d:=d) (by omega);have v:Tb M n f (JP d t):=λj z B=>J j z (PS.1 B).2;obtain⟨O,hT,_⟩:=F.closed v (λj z B=>by
      obtain⟨U,B⟩:=PS.1 B;obtain⟨Z,l,a4⟩:=J j z B;refine R _ (Oj (EZ.2 ⟨(F.Gc (Ci Z)).npow l _,?_⟩) (by omega)) (g j z B);rw[F.GY Z l,Nat.mul_mod_right]) (λj i a b U C I=>by
      obtain⟨a0,C⟩:=PS.1 C;obtain⟨r,I⟩:=PS.1 I;have W:=Oj (J j a C).2.1 a0;have Y:=Oj (J i b I).2.1 r;rcases X j i a b U C I with Q|Q
      .exact .inl (R _ (F.R8 (by omega) W Y) Q)
      .exact .inr (R _ (F.R8 (by omega) Y W) Q)) (k+1) d hd
    have hy:Sd M m e n f inv (JP d t) d y:=hT d y AV (PS.2 ⟨Al _,K⟩);have L:=O.npow hy (o d-f d x);have N:=VX F (by omega) hx q a3;have s:Dm m e o f t (k+1) d x↔Mem m e f inv t k (d+1) (m (npow m e y (o d-f d x)) x):=by
     rw[<-S _ N];unfold Dm;rw[MO D K,show d+(k+1)=d+1+k by omega]
    have e2:Mem m e f inv t k (d+1) (m (npow m e y (o d-f d x)) x)↔Sd M m e n f inv (JP d t) d (m (npow m e y (o d-f d x)) x):=by
     rw[<-Io (n:=n) (by omega) N,Io hd (EZ.1 N).1,<-Uj,<-Io hd (EZ.1 N).1];exact⟨λh=>⟨(EZ.1 N).1,h⟩,λh=>h.2⟩
    have p:Sd M m e n f inv (JP d t) d (m (npow m e y (o d-f d x)) x)↔Sd M m e n f inv (JP d t) d x:=by
     constructor
     .intro h;have C:=O.cl (F.Gv O L) h;rw[<-F.G.Ag (F.iM L.1.1) L.1.1 hx.1,F.iL L.1.1,F.G.eL hx.1]at C;exact C
     .intro h;exact O.cl L h
    have e4:Sd M m e n f inv (JP d t) d x↔Mem m e f inv t (k+1) d x:=by
     rw[<-Uj,<-Io hd hx];exact⟨λh=>h.2,λh=>⟨hx,h⟩⟩
    exact s.trans (e2.trans (p.trans e4))
structure FE (M:α->Prop)(m:α->α->α)(e:α)(n:Nat)(o:Nat->Nat)(f:Nat->α->Nat)(inv:α->α)(im:List α)(t:Nat->Option α)(work:List α):Prop where
 tb:Tb M n f t
 tg:∀d y,t d=some y->Gen m e im y
 wg:∀w∈work,Gen m e im w
 ob:∀t',Ext t t'->(∀w∈work,Dm m e o f t' n 0 w)->(∀x∈im,Dm m e o f t' n 0 x)/\(∀d y,t d=some y->Dm m e o f t' n 0 (npow m e y (o d)))/\
  ∀d d' y z,d<d'->t d=some y->t d'=some z->Dm m e o f t' n 0 (com m inv y z)\/Dm m e o f t' n 0 (com m inv z y)
theorem FE.start (F:Bn M m e n o f inv){im:List α}(C:∀c∈im,M c):FE M m e n o f inv im (λ_=>none) im:=
 ⟨λ_ _ h=>by simp at h,λ_ _ h=>by simp at h,λw B=>Gen.of F.G C B,λt' _ h=>⟨h,λ_ _ h=>by simp at h,λ_ _ _ _ _ h=>by simp at h⟩⟩
theorem FE.member {im F:List α}{t:Nat->Option α}{x:α}(h:FE M m e n o f inv im t (x::F))(J:(Co m e o f t n 0 x).1=n):FE M m e n o f inv im t F:=by
 refine⟨h.tb,h.tg,λw B=>h.wg w (CW _ B),λt' D B=>h.ob t' D (λw I=>?_)⟩;rcases EE.1 I with C|C
 .rw[C];refine Dm.ext D ?_;unfold Dm;rw[J];simp
 .exact B w C
theorem FE.enter (F:Bn M m e n o f inv){im X L:List α}(a2:∀c∈im,M c){t:Nat->Option α}{x:α}(h:FE M m e n o f inv im t (x::X)){d:Nat}{r y:α}(hx:Co m e o f t n 0 x=(d,r))(a:d<n){c:Nat}(p:y=npow m e r c)(a5:f d y=1)
  (h1:∀w∈X,w∈L) (h2:r∈L) (h3:npow m e y (o d)∈L) (v:∀O z,t O=some z->com m inv z y∈L)
  (h5:∀w∈L,w∈X\/w=r\/w=npow m e y (o d)\/∃O z,t O=some z/\w=com m inv z y):FE M m e n o f inv im (put t d y) L:=by
 have D:=Gen.sub F.G a2;have s:=h.wg x CJ;have q:=D.le s;have Q:=QI F h.tb n 0 x (by omega) ⟨q,λj C=>absurd C (CS _)⟩;have R:=Ui F D h.tg n 0 x s;have W:=λt' K hm=>kC F (t':=t') h.tb K q hm;rw[hx]at Q R W;simp only at Q R W;have a4:=(Q.2 a).2;have S:Gen m e im y:=p▸D.npow R c;have a1:A M f d y:=p▸(F.Gc (Ci a)).npow Q.1 c;have J:∀j z,put t d y j=some z->(j=d/\z=y)\/(j≠d/\t j=some z):=λj z B=>by
  unfold put at B;split at B
  .next C=>injection B with B;exact .inl ⟨C,B.symm⟩
  .next C=>exact .inr ⟨C,B⟩
 have b:∀t',Ext (put t d y) t'->Ext t t':=λt' K j z B=>K j z (by
  unfold put;rw[BF (λC=>by rw[C,a4]at B;simp at B)];exact B)
 refine⟨λj z B=>?_,λj z B=>?_,λw I=>?_,λt' K I=>?_⟩
 .rcases J j z B with⟨rfl,rfl⟩|⟨_,B⟩
  .exact⟨a,a1,a5⟩
  .exact h.tb j z B
 .rcases J j z B with⟨rfl,rfl⟩|⟨_,B⟩
  .exact S
  .exact h.tg j z B
 .rcases h5 w I with N|rfl|rfl|⟨O,z,B,rfl⟩
  .exact h.wg w (CW _ N)
  .exact R
  .exact D.npow S _
  .have l:=h.tg O z B;exact D.cl (F.Gv D (D.cl S l)) (D.cl l S)
 .have Y:=h.ob t' (b t' K) (λw a0=>by
   rcases EE.1 a0 with N|N
   .rw[N];exact W t' (b t' K) (I r h2)
   .exact I w (h1 w N))
  refine⟨Y.1,λj z B=>?_,λj U z V C B g=>?_⟩
  .rcases J j z B with⟨rfl,rfl⟩|⟨_,B⟩
   .exact I _ h3
   .exact Y.2.1 j z B
  .rcases J j z B with⟨e1,e2⟩|⟨a6,i⟩
   .rcases J U V g with⟨e3,u⟩|⟨a3,Z⟩
    .omega
    .rw[e2];exact .inr (I _ (v U V Z))
   .rcases J U V g with⟨e3,u⟩|⟨a3,Z⟩
    .rw[u];exact .inl (I _ (v j z i))
    .exact Y.2.2 j U z V C i Z
theorem FE.Oo (F:Bn M m e n o f inv){im:List α}(Q:∀c∈im,M c){t:Nat->Option α}(h:FE M m e n o f inv im t []):Oy M m e n f inv im t:=by
 have K:=h.ob t (λ_ _ h=>h) (λw Y=>by simp at Y);have g:=Gen.sub F.G Q;have X:=dN F h.tb K.2.1 K.2.2 n 0 (by omega);have L:∀x,M x->Dm m e o f t n 0 x->Mem m e f inv t n 0 x:=λx C Z=>(X x ⟨C,λj D=>absurd D (CS _)⟩).1 Z;have U:∀d y B z,t d=some y->t B=some z->M (com m inv y z):=λd y B z I J=>by
  have a:=(h.tb d y I).2.1.1;have b:=(h.tb B z J).2.1.1;exact F.G.cl (F.iM (F.G.cl b a)) (F.G.cl a b)
 have W:=F.closed h.tb (λd y S=>L _ (F.G.npow (h.tb d y S).2.1.1 _) (K.2.1 d y S)) (λd B y z D I J=>(K.2.2 d B y z D I J).imp (L _ (U d y B z I J)) (L _ (U B z d y J I)));have O:∀d,d<=n->_:=λd V=>W (n-d) d (by omega);refine⟨h.tb,λd V=>(O d V).1,λd z N=>(O d (Ci (h.tb d z N).1)).2.1 d z AV N,λx=>⟨λC=>?_,λC=>?_⟩⟩
 .exact(O 0 (by omega)).1.gen (λc R=>⟨⟨Q c R,λj D=>absurd D (CS _)⟩,L c (Q c R) (K.1 c R)⟩) C
 .exact(O 0 (by omega)).2.2 x C (Gen m e im) Gen.one (λa B z _ N ha _=>ha.mul F.G Q (h.tg B z N))
def Fr (M:α->Prop)(m:α->α->α)(n:Nat)(o:Nat->Nat)(f:Nat->α->Nat):Prop:=∀{d x z},d<n->M x->A M f d z->(∀j,j<d->f j (m x z)=f j x)/\f d (m x z)=(f d x+f d z)%o d
def Zs (f:Nat->α->Nat)(t:Nat->Option α)(d j:Nat)(x:α):Prop:=∀i,d<=i->i<j->t i≠none->f i x=0
def Cf (M:α->Prop)(m:α->α->α)(e:α)(n:Nat)(f:Nat->α->Nat)(inv:α->α)(t B:Nat->Option α):Prop:=
 ∀d,(t d=none->B d=none)/\∀y,t d=some y->∃r,Sd M m e n f inv t d r/\f d r=1/\Zs f t (d+1) n r/\B d=some r
theorem Uc (F:Bn M m e n o f inv){im:List α}{t:Nat->Option α}(D:Oy M m e n f inv im t){x s:α}(K:M x)(C:Sd M m e n f inv t 0 s)(N:Zs f t 0 n (m x s)):m x s=e↔Gen m e im x:=by
 have I:=D.sub 0 (AX _);rw[D.gen];constructor
 .intro h;have B:=F.Gv I C;have J:m (m x s) (inv s)=x:=by rw[F.G.Ag K C.1.1 B.1.1,F.iR C.1.1,F.G.eR K]
  rw[h,F.G.eL B.1.1]at J;rw[<-J];exact B
 .intro h;have B:=I.cl h C;refine F.ze B.1.1 λj O=>?_
  induction j using Nat.strongRecOn with
  |_ j ih=>
   cases L:t j with
   |none=>exact RI (k:=n-j-1) (by omega) L ⟨⟨B.1.1,λi hi=>ih i hi (by omega)⟩,B.2⟩
   |some y=>exact N j (AX _) O (by rw[L];simp)
end
end Fe
namespace Dr
open AJ Gen CP Fe
def dep:List Nat->Nat
 |[]=>0
 |a::x=>if a=0 then dep x+1 else 0
theorem Rl:∀x:List Nat,dep x<=x.length
 |[]=>Al _
 |a::x=>by
  have:=Rl x;rw[dep,DX];split<;>omega
theorem Jy:∀(x:List Nat) (k:Nat),(∀j,j<k->x[j]?=some 0)->(∀a,x[k]?=some a->a≠0)->k<=x.length->dep x=k
 |[],k,_,_,h=>by simp at h;subst h;rfl
 |a::x,0,_,h,_=>by
  rw[dep,BF (h a rfl)]
 |a::x,k+1,h1,h2,h3=>by
  have B:=h1 0 (by omega);simp at B;rw[dep,BQ B,Jy x k (λj C=>by have:=h1 (j+1) (by omega);simpa using this) (λa ha=>h2 a (by simpa using ha)) (by simpa using h3)]
theorem Xz {x:List Nat}{j:Nat}(h:j<dep x):x[j]?=some 0:=by
 induction x generalizing j with
 |nil=>simp[dep]at h
 |cons a x ih=>
  rw[dep]at h;by_cases ha:a=0
  .rw[BQ ha]at h;cases j with
   |zero=>rw[ha];rfl
   |succ j=>rw[Bf];exact ih (by omega)
  .rw[BF ha]at h;omega
theorem Uk {x:List Nat}(h:dep x<x.length):∃a,x[dep x]?=some a/\a≠0:=by
 induction x with
 |nil=>simp at h
 |cons a x ih=>
  rw[dep]at h ⊢;by_cases ha:a=0
  .rw[BQ ha]at h ⊢;rw[Bf];exact ih (by simpa using h)
  .rw[BF ha];exact⟨a,rfl,ha⟩
theorem Oa {T:Tw}{x:List Nat}(B:El T x):A (El T) fF (dep x) x:=⟨B,λj C=>by unfold fF;rw[BG,Xz C];rfl⟩
theorem MW {T:Tw}{d:Nat}{x:List Nat}(C:A (El T) fF d x)(h:fF d x≠0)(I:d<T.length):dep x=d:=by
 have J:=Ad C.1;refine Jy x d (λj F=>?_) (λa ha D=>h ?_) (by omega)
 .have B:=C.2 j F;unfold fF at B;rw[BG,AU (by omega)]at B;rw[AU (by omega)];simp at B;rw[B]
 .unfold fF;rw[BG,ha,D];rfl
theorem YZ {T:Tw}(h:Wf T){x:List Nat}(C:El T x):dep x=x.length↔x=AJ.one T:=by
 have D:=Ad C;constructor
 .intro e;unfold AJ.one;refine GN λj=>?_;rcases CU j x.length with B|B
  .rw[Xz (by omega),Gg,BQ (by omega)]
  .rw[Dq B,Dq (by simp;omega)]
 .rintro rfl;refine Jy _ _ (λj B=>?_) (λa ha=>?_) AV
  .unfold AJ.one at B ⊢; rw[Gg,BQ (by simpa using B)]
  .rw[Dq AV]at ha;simp at ha
theorem Rm {x:List Nat}{d a:Nat}(h:x[d]?=some a):fF d x=a:=by unfold fF;rw[BG,h];rfl
theorem fr {T:Tw}(h:Wf T):Fr (El T) (mul T) T.length (oF T) fF:=λ{d x z} O F D=>by
 obtain⟨L,I⟩:∃L,T[d]?=some L:=⟨_,AU O⟩;have Q:=Qm (by rw[Ad D.1];omega) D.2;have B:=Gu D.1 d;have C:=Gu F d;have e:=RF h d F B (by omega);rw[<-Q]at e;have S:=Ad F;have R:(x.take d).length=d:=by rw[Ec];omega
 constructor
 .intro j K;unfold fF;rw[e,BG,BG,DK (by omega),P9 K]
 .have e2:fF d (mul T x z)=((mul (T.drop d) (x.drop d) (z.drop d))).getD 0 0:=by
   unfold fF;rw[e,BG,BG,DC (by omega),R,Gy]
  have J:fF d x=(x.drop d).getD 0 0:=by unfold fF;rw[BG,BG,Fa,Iw]
  have N:fF d z=(z.drop d).getD 0 0:=by unfold fF;rw[BG,BG,Fa,Iw]
  rw[e2,J,N];rw[EB I]at C B ⊢;generalize x.drop d=x' at C ⊢;generalize z.drop d=z' at B ⊢;cases x' with
  |nil=>exact C.elim
  |cons a x'=>
   cases z' with
   |nil=>exact B.elim
   |cons b z'=>
    have ha:=C.1;have U:=B.1;rw[mul_cons,He I];show _=(a+b)%L.o;split
    .rw[Nat.mod_eq_sub_mod (by omega),EC (by omega)];rfl
    .rw[EC (by omega)];rfl
def JQ (T:Tw)(u x:List Nat):List Nat:=mul T x (npow (mul T) (AJ.one T) u ((oF T (dep u)-fF (dep u) x)%oF T (dep u)))
def Ev (T:Tw):List (List Nat)->List Nat->List Nat
 |[],x=>x
 |u::us,x=>Ev T us (JQ T u x)
theorem mR {T:Tw}(h:Wf T)(hg:AJ.Good T){d:Nat}(B:d<T.length){u x:List Nat}(C:A (El T) fF d u)(J:fF d u=1)(D:El T x):
  ∃c,JQ T u x=mul T x (npow (mul T) (AJ.one T) u c)/\fF d (JQ T u x)=0:=by
 have F:=Ct h hg;have K:=MW C (by omega) B;refine⟨_,rfl,?_⟩;unfold JQ;rw[K];have I:=(F.Gc (Ci B)).npow C ((oF T d-fF d x)%oF T d);rw[(fr h B D I).2,F.GY B C,J,GZ,Nat.mod_mod,Nat.add_mod_mod,IV (Ci (F.lt B D)),Nat.mod_self]
abbrev IG (T:Tw)(t:Nat->Option (List Nat))(d:Nat)(x:List Nat):Prop:=Sd (El T) (mul T) (AJ.one T) T.length fF (Ai T) t d x
theorem PI {T:Tw}(h:Wf T)(hg:AJ.Good T){im:List (List Nat)}{t N:Nat->Option (List Nat)}(D:Oy (El T) (mul T) (AJ.one T) T.length fF (Ai T) im t):
  ∀(k d:Nat),d+k=T.length->(∀j,d<=j->(t j=none->N j=none)/\∀y,t j=some y->∃r,IG T t j r/\fF j r=1/\N j=some r)->∀x,El T x->∃s,IG T t d s/\Ev T (BV N k d) x=mul T x s/\Zs fF t d T.length (mul T x s)
 |0,d,hd,ht,x,hx=>⟨AJ.one T,(D.sub d (by omega)).me,by rw[(BA h hg).eR hx];rfl,λi B I=>by omega⟩
 |k+1,d,hd,ht,x,hx=>by
  have F:=Ct h hg;have G:=F.G;have W:=D.sub d (by omega);cases O:t d with
  |none=>
   obtain⟨s,B,I,K⟩:=PI h hg D k (d+1) (by omega) (λj S=>ht j (by omega)) x hx;refine⟨s,(Ej.1 B).1,by rw[BV,(ht d AV).1 O];exact I,λi hi L J=>?_⟩;rcases CU d i with C|b
   .exact K i C L J
   .obtain rfl:i=d:=by omega
    exact absurd O J
  |some y=>
   obtain⟨r,U,g,Z⟩:=(ht d AV).2 y O;obtain⟨c,X,V⟩:=mR h hg (by omega) U.1 g hx;have Q:=W.npow U c;have R:El T (JQ T r x):=by rw[X];exact G.cl hx Q.1.1
   obtain⟨s,B,I,K⟩:=PI h hg D k (d+1) (by omega) (λj S=>ht j (by omega)) (JQ T r x) R;have e:mul T (JQ T r x) s=mul T x (mul T (npow (mul T) (AJ.one T) r c) s):=by rw[X,G.Ag hx Q.1.1 B.1.1]
   refine⟨mul T (npow (mul T) (AJ.one T) r c) s,W.cl Q (Ej.1 B).1,by rw[BV,Z];show Ev T _ (JQ T r x)=_;rw[I,e],λi hi L J=>?_⟩;rw[<-e];rcases CU d i with C|b
   .exact K i C L J
   .obtain rfl:i=d:=by omega
    have Y:A (El T) fF (i+1) s:=B.1;rcases CU (i+1) T.length with C|l
    .rw[(fr h C R Y).1 i (by omega)];exact V
    .have a:s=AJ.one T:=F.ze B.1.1 λj S=>Y.2 j (by omega);rw[a,G.eR R];exact V
theorem U7 {T:Tw}(h:Wf T)(hg:AJ.Good T):∀(us:List (List Nat)) {x:List Nat},(∀u∈us,El T u)->El T x->El T (Ev T us x)
 |[],x,_,hx=>hx
 |u::us,x,hu,hx=>U7 h hg us (λv B=>hu v (CW _ B)) (Bz h hx ((BA h hg).npow (hu u CJ) _))
end Dr
namespace Lp
open AJ CP Dn
noncomputable def Da (T:Tw)(im:List (List Nat))(l:Int):List Nat:=if 0<l then im.getD (l.toNat-1) []else Ai T (im.getD ((-l).toNat-1) [])
noncomputable def Bb (T:Tw)(im:List (List Nat))(w:List Int):List Nat:=w.foldl (λu l=>mul T u (Da T im l)) (AJ.one T)
theorem UD (T:Tw)(im:List (List Nat))(w:List Int)(l:Int):Bb T im (w++[l])=mul T (Bb T im w) (Da T im l):=by
 unfold Bb;rw[List.foldl_append];rfl
theorem YU {T:Tw}{im:List (List Nat)}{l:Int}{j:Nat}{x:List Nat}(h:0<l)(C:l=(j:Int)+1)(B:im[j]?=some x):Da T im l=x:=by
 unfold Da;rw[BQ h,C,show((j:Int)+1).toNat-1=j by omega,BG,B];rfl
theorem Xc {T:Tw}{im:List (List Nat)}{l:Int}{j:Nat}{x:List Nat}(h:¬0<l)(C: -l=(j:Int)+1)(B:im[j]?=some x):Da T im l=Ai T x:=by
 unfold Da;rw[BF h,C,show((j:Int)+1).toNat-1=j by omega,BG,B];rfl
theorem R5 {T:Tw}(hT:Wf T)(hg:AJ.Good T){im:List (List Nat)}(hi:∀c∈im,El T c)(w:List Int)(h:∀l∈w,DZ im.length l):El T (Bb T im w):=by
 have J:∀(w:List Int) (u:List Nat),(∀l∈w,DZ im.length l)->El T u->El T (w.foldl (λu l=>mul T u (Da T im l)) u):=by
  intro w
  induction w with
  |nil=>exact λu _ B=>B
  |cons l w ih=>
   intro u h B;refine ih _ (λx I=>h x (CW _ I)) (Bz hT B ?_);have F:∀k,k<im.length->El T (im.getD k []):=λk C=>by
    rw[BG,AU C];exact hi _ (Ho C)
   unfold Da;rcases h l CJ with⟨D,K⟩|⟨D,K⟩
   .rw[BQ D];exact F _ (by omega)
   .rw[BF (by omega)];exact(Br hT hg (F _ (by omega))).1
 exact J w _ h (CR hT)
end Lp
end Go.Proofs.YtgjadpmbnejaoaaGreat
