import Derived.Test.YtgjadpmbnejaoaaGreatZ0
import Derived.BigQuiet
import Derived.Test.YtgjadpmbnejaoaaGreatProg
import Derived.WalkSpells
import Derived.WalkLawsBesides
import Derived.Handy
import Derived.Deep.DeepCutAuto
import Derived.Deep.OwnRows
import Derived.Deep.RegionHeld3
/-
  Lemmas for the law FnAutomorphisms, in short spelling.
-/
set_option linter.unusedVariables false
set_option linter.unusedSimpArgs false
set_option maxRecDepth 100000
set_option maxHeartbeats 40000000
namespace Go.Proofs.YtgjadpmbnejaoaaGreat
namespace AJ
structure Lv where
 o:Nat
 w:List Nat
 c:List (List Nat)
abbrev Tw:=List Lv
def El:Tw->List Nat->Prop
 |[],[]=>True
 |L::T,a::x=>a<L.o/\El T x
 |_,_=>False
def Wf:Tw->Prop
 |[]=>True
 |L::T=>2<=L.o/\El T L.w/\L.c.length=T.length/\(∀y∈L.c,El T y)/\Wf T
def one (T:Tw):List Nat:=List.replicate T.length 0
def it {α:Type}(f:α->α):Nat->α->α
 |0,x=>x
 |k+1,x=>it f k (f x)
def BO {α:Type}(m:α->α->α):α->List α->List Nat->α
 |u,c::cs,a::x=>BO m (it (λz=>m z c) a u) cs x
 |u,_,_=>u
def mul:Tw->List Nat->List Nat->List Nat
 |[],_,_=>[]
 |L::T,a::x,b::y=>
  if L.o<=a+b then(a+b-L.o)::mul T L.w (mul T (it (λz=>BO (mul T) (one T) L.c z) b x) y)
  else(a+b)::mul T (it (λz=>BO (mul T) (one T) L.c z) b x) y
 |_,_,_=>[]
def img (T:Tw)(c:List (List Nat))(z:List Nat):List Nat:=BO (mul T) (one T) c z
theorem mul_cons (L:Lv)(T:Tw)(a b:Nat)(x y:List Nat):mul (L::T) (a::x) (b::y)=
  if L.o<=a+b then(a+b-L.o)::mul T L.w (mul T (it (img T L.c) b x) y)else(a+b)::mul T (it (img T L.c) b x) y:=rfl
theorem EX {α:Type}(f:α->α)(k:Nat)(x:α):it f (k+1) x=f (it f k x):=by
 induction k generalizing x with
 |zero=>rfl
 |succ k ih=>rw[it,ih,it]
theorem Uz {α:Type}(f:α->α)(a b:Nat)(x:α):it f (a+b) x=it f a (it f b x):=by
 induction a with
 |zero=>simp[it]
 |succ a ih=>rw[Nat.succ_add,EX,ih,EX]
theorem GH {α:Type}(M:α->Prop)(f:α->α)(C:∀x,M x->M (f x))(k:Nat)(x:α)(B:M x):M (it f k x):=by
 induction k generalizing x with
 |zero=>exact B
 |succ k ih=>exact ih _ (C _ B)
theorem Ad {T:Tw}{x:List Nat}(h:El T x):x.length=T.length:=by
 induction T generalizing x with
 |nil=>cases x with
  |nil=>rfl
  |cons a x=>exact absurd h (by simp[El])
 |cons L T ih=>cases x with
  |nil=>exact absurd h (by simp[El])
  |cons a x=>simp[ih h.2]
theorem CR {T:Tw}(h:Wf T):El T (one T):=by
 induction T with
 |nil=>trivial
 |cons L T ih=>exact⟨by have:=h.1;omega,ih h.2.2.2.2⟩
theorem MI {α:Type}(M:α->Prop)(m:α->α->α)(I:∀x y,M x->M y->M (m x y))(cs:List α)(C:∀c∈cs,M c)(x:List Nat)(u:α)(B:M u):M (BO m u cs x):=by
 induction cs generalizing u x with
 |nil=>cases x<;>exact B
 |cons c cs ih=>cases x with
  |nil=>exact B
  |cons a x=>exact ih (λd F=>C d (CW _ F)) x _ (GH M _ (λz D=>I _ _ D (C c CJ)) a u B)
theorem Bz {T:Tw}(h:Wf T){x y:List Nat}(D:El T x)(C:El T y):El T (mul T x y):=by
 induction T generalizing x y with
 |nil=>trivial
 |cons L T ih=>cases x with
  |nil=>exact absurd D (by simp[El])
  |cons a x=>cases y with
   |nil=>exact absurd C (by simp[El])
   |cons b y=>
    obtain⟨O,J,Q,K,B⟩:=h;have hi:∀z,El T z->El T (img T L.c z):=λz _=>MI (El T) _ (λ_ _ p q=>ih B p q) _ K z _ (CR B);have I:=GH (El T) _ hi b x D.2;have F:=ih B I C.2;rw[mul_cons];have ha:=D.1;have N:=C.1;split
    .exact⟨by omega,ih B J F⟩
    .exact⟨by omega,F⟩
theorem KZ {T:Tw}(h:Wf T){c:List (List Nat)}(B:∀y∈c,El T y)(z:List Nat):El T (img T c z):=
 MI (El T) _ (λ_ _ p q=>Bz h p q) _ B z _ (CR h)
structure CE {α:Type}(M:α->Prop)(m:α->α->α)(e:α):Prop where
 cl:∀{a b},M a->M b->M (m a b)
 me:M e
 Ag:∀{a b c},M a->M b->M c->m (m a b) c=m a (m b c)
 eL:∀{a},M a->m e a=a
 eR:∀{a},M a->m a e=a
 iv:∀{a},M a->∃b,M b/\m a b=e/\m b a=e
theorem CE.Js {α:Type}{M:α->Prop}{m:α->α->α}{e:α}(G:CE M m e){a b c:α}(ha:M a)(C:M b)(D:M c)(h:m a b=m a c):b=c:=by
 obtain⟨d,B,_,F⟩:=G.iv ha;have:=Ck (m d) h;rwa[<-G.Ag B ha C,<-G.Ag B ha D,F,G.eL C,G.eL D]at this
theorem CE.Nh {α:Type}{M:α->Prop}{m:α->α->α}{e:α}(G:CE M m e){a b c:α}(ha:M a)(B:M b)(C:M c)(h:m b a=m c a):b=c:=by
 obtain⟨d,D,F,_⟩:=G.iv ha;have:=Ck (λz=>m z d) h;simp only[G.Ag B ha D,G.Ag C ha D,F,G.eR B,G.eR C]at this;exact this
def npow {α:Type}(m:α->α->α)(e:α)(x:α)(k:Nat):α:=it (λz=>m z x) k e
theorem GR {α:Type}(m:α->α->α)(e x:α):npow m e x 0=e:=rfl
theorem Cu {α:Type}(m:α->α->α)(e x:α)(k:Nat):npow m e x (k+1)=m (npow m e x k) x:=EX _ _ _
theorem CE.npow {α:Type}{M:α->Prop}{m:α->α->α}{e:α}(G:CE M m e){x:α}(C:M x)(k:Nat):M (npow m e x k):=
 GH M _ (λ_ B=>G.cl B C) k e G.me
theorem CE.U0 {α:Type}{M:α->Prop}{m:α->α->α}{e:α}(G:CE M m e){x u:α}(C:M x)(B:M u)(k:Nat):it (λz=>m z x) k u=m u (AJ.npow m e x k):=by
 induction k with
 |zero=>exact(G.eR B).symm
 |succ k ih=>rw[EX,ih,Cu,G.Ag B (G.npow C k) C]
theorem CE.JU {α:Type}{M:α->Prop}{m:α->α->α}{e:α}(G:CE M m e){x:α}(B:M x)(j k:Nat):AJ.npow m e x (j+k)=m (AJ.npow m e x j) (AJ.npow m e x k):=by
 rw[<-G.U0 B (G.npow B j),Gh,AJ.npow,Uz];rfl
theorem CE.Jr {α:Type}{M:α->Prop}{m:α->α->α}{e:α}(G:CE M m e){x:α}(B:M x):AJ.npow m e x 1=x:=G.eL B
def ev {α:Type}(m:α->α->α)(e:α):List α->List Nat->α
 |c::cs,a::x=>m (npow m e c a) (ev m e cs x)
 |_,_=>e
theorem CE.ev {α:Type}{M:α->Prop}{m:α->α->α}{e:α}(G:CE M m e){cs:List α}(B:∀c∈cs,M c)(x:List Nat):M (ev m e cs x):=by
 induction cs generalizing x with
 |nil=>cases x<;>exact G.me
 |cons c cs ih=>cases x with
  |nil=>exact G.me
  |cons a x=>exact G.cl (G.npow (B c CJ) a) (ih (λd C=>B d (CW _ C)) x)
theorem CE.BO {α:Type}{M:α->Prop}{m:α->α->α}{e:α}(G:CE M m e){cs:List α}(D:∀c∈cs,M c)(x:List Nat){u:α}(B:M u):BO m u cs x=m u (AJ.ev m e cs x):=by
 induction cs generalizing x u with
 |nil=>cases x<;>exact(G.eR B).symm
 |cons c cs ih=>cases x with
  |nil=>exact(G.eR B).symm
  |cons a x=>
   have C:=D c CJ;have F:∀d∈cs,M d:=λd J=>D d (CW _ J);rw[AJ.BO,ih F x (GH M _ (λ_ I=>G.cl I C) a u B),G.U0 C B,AJ.ev,G.Ag B (G.npow C a) (G.ev F x)]
theorem CE.IJ {α:Type}{M:α->Prop}{m:α->α->α}{e:α}(G:CE M m e){cs:List α}(B:∀c∈cs,M c)(x:List Nat):AJ.BO m e cs x=AJ.ev m e cs x:=by
 rw[G.BO B x G.me,G.eL (G.ev B x)]
def Rel {α:Type}(m:α->α->α)(e:α):Tw->List α->Prop
 |[],[]=>True
 |L::T,c0::cs=>npow m e c0 L.o=ev m e cs L.w/\(∀j,(h:j<cs.length)->(h':j<L.c.length)->m cs[j] c0=m c0 (ev m e cs L.c[j]))/\Rel m e T cs
 |_,_=>False
theorem O8 {α:Type}{m:α->α->α}{e:α}{T:Tw}{cs:List α}(h:Rel m e T cs):cs.length=T.length:=by
 induction T generalizing cs with
 |nil=>cases cs with
  |nil=>rfl
  |cons c cs=>exact absurd h (by simp[Rel])
 |cons L T ih=>cases cs with
  |nil=>exact absurd h (by simp[Rel])
  |cons c cs=>simp[ih h.2.2]
theorem CE.Yg {α:Type}{M:α->Prop}{m:α->α->α}{e:α}(G:CE M m e){c:α}(B:M c){es fs:List α}(N:∀d∈es,M d)(K:∀d∈fs,M d)(I:es.length=fs.length)
  (h:∀j,(h:j<es.length)->(h':j<fs.length)->m es[j] c=m c fs[j]) (z:List Nat):m (AJ.ev m e es z) c=m c (AJ.ev m e fs z):=by
 induction es generalizing fs z with
 |nil=>
  obtain rfl:fs=[]:=by cases fs with
   |nil=>rfl
   |cons _ _=>simp at I
  cases z<;>exact(G.eL B).trans (G.eR B).symm
 |cons d es ih=>cases fs with
  |nil=>simp at I
  |cons f fs=>cases z with
   |nil=>exact(G.eL B).trans (G.eR B).symm
   |cons a z=>
    have C:=N d CJ;have D:=K f CJ;have L:∀x∈es,M x:=λx J=>N x (CW _ J);have F:∀x∈fs,M x:=λx J=>K x (CW _ J);have Q:m d c=m c f:=h 0 (by simp) (by simp);have O:∀k,m (AJ.npow m e d k) c=m c (AJ.npow m e f k):=λk=>by
     induction k with
     |zero=>exact(G.eL B).trans (G.eR B).symm
     |succ k ihk=>rw[Cu,Cu,G.Ag (G.npow C k) C B,Q,<-G.Ag (G.npow C k) B D,ihk,G.Ag B (G.npow D k) D]
    have hi:=ih L F (by simpa using I) (λj p q=>h (j+1) (by simp;omega) (by simp;omega)) z;rw[AJ.ev,AJ.ev,G.Ag (G.npow C a) (G.ev L z) B,hi,<-G.Ag (G.npow C a) B (G.ev F z),O,G.Ag B (G.npow D a) (G.ev F z)]
theorem CE.Lm {α:Type}{M:α->Prop}{m:α->α->α}{e:α}(G:CE M m e){T:Tw}(hT:Wf T){cs:List α}(V:∀c∈cs,M c)(S:Rel m e T cs){x y:List Nat}(I:El T x)(R:El T y):
  AJ.ev m e cs (mul T x y)=m (AJ.ev m e cs x) (AJ.ev m e cs y):=by
 induction T generalizing cs x y with
 |nil=>cases cs with
  |nil=>exact(G.eL G.me).symm
  |cons c cs=>exact absurd S (by simp[Rel])
 |cons L T ih=>cases cs with
  |nil=>exact absurd S (by simp[Rel])
  |cons c cs=>cases x with
   |nil=>exact absurd I (by simp[El])
   |cons a x=>cases y with
    |nil=>exact absurd R (by simp[El])
    |cons b y=>
     obtain⟨h1,h2,h3,W,N⟩:=hT;obtain⟨r1,r2,i⟩:=S;have F:=V c CJ;have C:∀d∈cs,M d:=λd O=>V d (CW _ O);have r:=O8 i;have Q:∀{x y:List Nat},El T x->El T y->AJ.ev m e cs (mul T x y)=m (AJ.ev m e cs x) (AJ.ev m e cs y):=λp q=>ih N C i p q;have s:AJ.ev m e cs (one T)=e:=by
      have:∀(cs:List α) n,AJ.ev m e cs (List.replicate n 0)=e:=by
       intro cs
       induction cs with
       |nil=>intro n;cases n<;>rfl
       |cons d K NJ=>intro n;cases n with
        |zero=>rfl
        |succ n=>exact(Ck (m _) (NJ n)).trans (by rw[GR,G.eL G.me])
      exact this cs _
     have A:∀(K:List (List Nat)),(∀d∈K,El T d)->∀(z:List Nat) (u:List Nat),El T u->AJ.ev m e cs (AJ.BO (mul T) u K z)=m (AJ.ev m e cs u) (AJ.ev m e (K.map (AJ.ev m e cs)) z):=by
      intro K
      induction K with
      |nil=>intro _ z u Y;cases z<;>exact(G.eR (G.ev C u)).symm
      |cons d K NJ=>intro O z u Y;cases z with
       |nil=>exact(G.eR (G.ev C u)).symm
       |cons a z=>
        have g:=O d CJ;have l:∀x∈K,El T x:=λx I=>O x (CW _ I);have Z:∀k,El T (it (λz=>mul T z d) k u):=λk=>GH (El T) _ (λz J=>Bz N J g) k u Y;have v:∀k,AJ.ev m e cs (it (λz=>mul T z d) k u)=m (AJ.ev m e cs u) (AJ.npow m e (AJ.ev m e cs d) k):=λk=>by
         induction k with
         |zero=>exact(G.eR (G.ev C u)).symm
         |succ k ihk=>rw[EX,Q (Z k) g,ihk,Cu,G.Ag (G.ev C u) (G.npow (G.ev C d) k) (G.ev C d)]
        rw[AJ.BO,NJ l z _ (Z a),v a,FC,AJ.ev,G.Ag (G.ev C u) (G.npow (G.ev C d) a) (G.ev (by intro x I;obtain⟨q,_,rfl⟩:=BX.1 I;exact G.ev C q) z)]
     have U:∀d∈L.c.map (AJ.ev m e cs),M d:=by intro x I;obtain⟨q,_,rfl⟩:=BX.1 I;exact G.ev C q
     have B:∀z,El T z->m (AJ.ev m e cs z) c=m c (AJ.ev m e cs (img T L.c z)):=λz J=>by
      rw[img,A L.c W z _ (CR N),s,G.eL (G.ev U z)];exact G.Yg F C U (by simp[r,h3]) (λj p q=>by
       have:=r2 j p (by simpa using q);simpa using this) z
     have X:∀k z,El T z->El T (it (img T L.c) k z):=λk z J=>GH (El T) _ (λy _=>KZ N W y) k z J;have D:∀k z,El T z->m (AJ.ev m e cs z) (AJ.npow m e c k)=m (AJ.npow m e c k) (AJ.ev m e cs (it (img T L.c) k z)):=by
      intro k
      induction k with
      |zero=>intro z J;exact(G.eR (G.ev C z)).trans (G.eL (G.ev C _)).symm
      |succ k ihk=>
       intro z J;rw[Cu,<-G.Ag (G.ev C z) (G.npow F k) F,ihk z J,G.Ag (G.npow F k) (G.ev C _) F,B _ (X k z J),<-EX (img T L.c),G.Ag (G.npow F k) F (G.ev C _)]
     have h:=X b x I.2;have hr:=Bz N h R.2;have E:m (AJ.ev m e (c::cs) (a::x)) (AJ.ev m e (c::cs) (b::y))=m (AJ.npow m e c (a+b)) (AJ.ev m e cs (mul T (it (img T L.c) b x) y)):=by
      rw[AJ.ev,AJ.ev,G.Ag (G.npow F a) (G.ev C x) (G.cl (G.npow F b) (G.ev C y)),<-G.Ag (G.ev C x) (G.npow F b) (G.ev C y),D b x I.2,
       G.Ag (G.npow F b) (G.ev C _) (G.ev C y),<-Q h R.2,<-G.Ag (G.npow F a) (G.npow F b) (G.ev C _),<-G.JU F]
     rw[E,mul_cons];split
     .next hle=>
      rw[AJ.ev,Q h2 hr,<-r1,<-G.Ag (G.npow F _) (G.npow F _) (G.ev C _),<-G.JU F,Nat.sub_add_cancel hle]
     .rfl
def unit (T:Tw)(j:Nat):List Nat:=(one T).set j 1
theorem Xh (L:Lv)(T:Tw):one (L::T)=0::one T:=rfl
theorem PE (L:Lv)(T:Tw):unit (L::T) 0=1::one T:=rfl
theorem Qi (L:Lv)(T:Tw)(j:Nat):unit (L::T) (j+1)=0::unit T j:=rfl
theorem Ip {T:Tw}(h:Wf T)(j:Nat):El T (unit T j):=by
 induction T generalizing j with
 |nil=>exact CR h
 |cons L T ih=>cases j with
  |zero=>exact⟨by have:=h.1;omega,CR h.2.2.2.2⟩
  |succ j=>exact⟨by have:=h.1;omega,ih h.2.2.2.2 j⟩
def Good:Tw->Prop
 |[]=>True
 |L::T=>Good T/\Rel (mul T) (one T) T L.c/\img T L.c L.w=L.w/\∀j<T.length,mul T L.w (it (img T L.c) L.o (unit T j))=mul T (unit T j) L.w
def Az (T:Tw):List (List Nat):=(List.range T.length).map (unit T)
theorem W9 (L:Lv)(T:Tw):Az (L::T)=unit (L::T) 0::(Az T).map (0:: ·):=by
 simp[Az,List.range_succ_eq_map,List.map_map,Function.comp_def,Qi]
theorem Ir {α β:Type}{M:α->Prop}{m:α->α->α}{e:α}{m':β->β->β}{e':β}(G:CE M m e)(f:α->β)(C:f e=e')(I:∀a b,M a->M b->f (m a b)=m' (f a) (f b)){cs:List α}(F:∀c∈cs,M c)(x:List Nat):
  f (ev m e cs x)=ev m' e' (cs.map f) x:=by
 induction cs generalizing x with
 |nil=>cases x<;>exact C
 |cons c cs ih=>cases x with
  |nil=>exact C
  |cons a x=>
   have B:=F c CJ;have D:∀d∈cs,M d:=λd K=>F d (CW _ K);have J:∀k,f (npow m e c k)=npow m' e' (f c) k:=λk=>by
    induction k with
    |zero=>exact C
    |succ k ihk=>rw[Cu,I _ _ (G.npow B k) B,ihk,Cu]
   rw[ev,I _ _ (G.npow B a) (G.ev D x),J,ih D x];rfl
theorem Xi {T:Tw}(h:Wf T)(hg:Good T):CE (El T) (mul T) (one T)/\∀x,El T x->ev (mul T) (one T) (Az T) x=x:=by
 induction T with
 |nil=>
  have Z:∀{x},El [] x->x=[]:=by intro x C;cases x with
   |nil=>rfl
   |cons a x=>exact absurd C (by simp[El])
  refine⟨⟨λ_ _=>trivial,trivial,λ_ _ _=>rfl,λha=>(Z ha).symm,λha=>(Z ha).symm,λha=>⟨[],trivial,rfl,rfl⟩⟩,λx C=>?_⟩;rw[Z C];rfl
 |cons L T ih=>
  obtain⟨h1,Q,h3,r,g⟩:=h;obtain⟨g0,g1,g2,g3⟩:=hg;obtain⟨G,U⟩:=ih g g0;have hw:Wf (L::T):=⟨h1,Q,h3,r,g⟩;have s:∀z,img T L.c z=ev (mul T) (one T) L.c z:=λz=>G.IJ r z;have i:∀z,El T (img T L.c z):=λz=>KZ g r z;have im:∀y z,El T y->El T z->img T L.c (mul T y z)=mul T (img T L.c y) (img T L.c z):=λy z D B=>by
   rw[s,s,s];exact G.Lm g r g1 D B
  have J:∀k z,El T z->El T (it (img T L.c) k z):=λk z B=>GH (El T) _ (λy _=>i y) k z B;have km:∀k y z,El T y->El T z->it (img T L.c) k (mul T y z)=mul T (it (img T L.c) k y) (it (img T L.c) k z):=λk=>by
   induction k with
   |zero=>intro y z _ _;rfl
   |succ k ihk=>intro y z D B;rw[EX,ihk y z D B,im _ _ (J k y D) (J k z B),<-EX (img T L.c),<-EX (img T L.c)]
  have i1:img T L.c (one T)=one T:=by
   have:=im _ _ G.me G.me;rw[G.eL G.me]at this;exact G.Js (i _) (i _) G.me (this.symm.trans (G.eR (i _)).symm)
  have v:∀k,it (img T L.c) k (one T)=one T:=λk=>by
   induction k with
   |zero=>rfl
   |succ k ihk=>rw[EX,ihk,i1]
  have kw:∀k,it (img T L.c) k L.w=L.w:=λk=>by
   induction k with
   |zero=>rfl
   |succ k ihk=>rw[EX,ihk,g2]
  have l:∀c∈Az T,El T c:=by intro c V;obtain⟨j,_,rfl⟩:=BX.1 V;exact Ip g j
  have a2:∀z,El T z->mul T L.w (it (img T L.c) L.o z)=mul T z L.w:=λz B=>by
   have S:it (img T L.c) L.o z=ev (mul T) (one T) ((Az T).map (it (img T L.c) L.o)) z:=by
    conv=>lhs;rw[<-U z B]
    exact Ir G _ (v _) (λa b ha I=>km _ a b ha I) l z
   have e2:=G.Yg Q (es:=Az T) (fs:=(Az T).map (it (img T L.c) L.o)) l (by intro d hd;obtain⟨q,R,rfl⟩:=BX.1 hd;exact J _ q (l q R)) (by simp)
    (λj p q=>by
     have:=g3 j (by simpa[Az]using p);simpa[Az]using this.symm) z
   rw[U z B,<-S]at e2;exact e2.symm
  let N:Nat->List Nat->List Nat:=λk z=>(k%L.o)::it (mul T L.w) (k/L.o) z
  have W:0<L.o:=by omega
  have K:∀k z,k<L.o->N k z=k::z:=λk z F=>by show _::_=_;rw[EC F,Nat.div_eq_of_lt F];rfl
  have Y:∀k z,L.o<=k->N k z=N (k-L.o) (mul T L.w z):=λk z F=>by
   show _::_=_::_;rw[Nat.mod_eq_sub_mod F,Nat.div_eq_sub_div W F];rfl
  have O:∀a x b y,El (L::T) (a::x)->El (L::T) (b::y)->mul (L::T) (a::x) (b::y)=N (a+b) (mul T (it (img T L.c) b x) y):=λa x b y C D=>by
   have:=C.1;have:=D.1;rw[mul_cons];split
   .next hle=>rw[Y _ _ hle,K _ _ (by omega)]
   .next hle=>rw[K _ _ (by omega)]
  have a4:∀k z,El T z->El (L::T) (N k z):=λk z B=>⟨Nat.mod_lt _ W,GH (El T) _ (λy D=>G.cl Q D) _ z B⟩;have Nm:∀q k z c y,k/L.o=q->El T z->El (L::T) (c::y)->mul (L::T) (N k z) (c::y)=N (k+c) (mul T (it (img T L.c) c z) y):=λq=>by
   induction q with
   |zero=>
    intro k z c y R B D;have F:k<L.o:=by rcases Nat.div_eq_zero_iff.1 R with h|h<;>omega
    rw[K k z F,O k z c y ⟨F,B⟩ D]
   |succ q Vn=>
    intro k z c y R B D;have F:L.o<=k:=by
     apply Nat.le_of_not_lt;intro h;rw[Nat.div_eq_of_lt h]at R;omega
    rw[Y k z F,Vn _ _ _ _ (by rw[Nat.div_eq_sub_div W F]at R;omega) (G.cl Q B) D,Y (k+c) _ (by omega),km c _ _ Q B,kw,G.Ag Q (J c z B) D.2,Nat.sub_add_comm F]
  have a3:∀q k z a x,k/L.o=q->El T z->El (L::T) (a::x)->mul (L::T) (a::x) (N k z)=N (a+k) (mul T (it (img T L.c) k x) z):=λq=>by
   induction q with
   |zero=>
    intro k z a x R B C;have F:k<L.o:=by rcases Nat.div_eq_zero_iff.1 R with h|h<;>omega
    rw[K k z F,O a x k z C ⟨F,B⟩]
   |succ q Vn=>
    intro k z a x R B C;have F:L.o<=k:=by
     apply Nat.le_of_not_lt;intro h;rw[Nat.div_eq_of_lt h]at R;omega
    have S:mul T (it (img T L.c) (k-L.o) x) L.w=mul T L.w (it (img T L.c) k x):=by
     rw[<-a2 _ (J _ x C.2),<-Uz,IV F]
    rw[Y k z F,Vn _ _ _ _ (by rw[Nat.div_eq_sub_div W F]at R;omega) (G.cl Q B) C,Y (a+k) _ (by omega),<-G.Ag (J _ x C.2) Q B,S,G.Ag Q (J k x C.2) B,Nat.add_sub_assoc F]
  have X:∀{x},El (L::T) x->∃a y,x=a::y:=by intro x C;cases x with
   |nil=>exact absurd C (by simp[El])
   |cons a y=>exact⟨a,y,rfl⟩
  have a1:∀{a b c},El (L::T) a->El (L::T) b->El (L::T) c->mul (L::T) (mul (L::T) a b) c=mul (L::T) a (mul (L::T) b c):=by
   intro a b c ha I V;obtain⟨a,x,rfl⟩:=X ha;obtain⟨b,y,rfl⟩:=X I;obtain⟨c,z,rfl⟩:=X V;rw[O a x b y ha I,O b y c z I V,Nm _ _ _ _ _ rfl (G.cl (J b x ha.2) I.2) V,a3 _ _ _ _ _ rfl (G.cl (J c y I.2) V.2) ha,km c _ _ (J b x ha.2) I.2,<-Uz,G.Ag (J _ x ha.2) (J c y I.2) V.2,Gh c b,Nat.add_assoc]
  have u:El (L::T) (one (L::T)):=CR hw;have eL:∀{a},El (L::T) a->mul (L::T) (one (L::T)) a=a:=by
   intro a ha;obtain⟨a,x,rfl⟩:=X ha;rw[Xh,O 0 (one T) a x u ha,v,G.eL ha.2,K _ _ (by have:=ha.1;omega),CK]
  have eR:∀{a},El (L::T) a->mul (L::T) a (one (L::T))=a:=by
   intro a ha;obtain⟨a,x,rfl⟩:=X ha;rw[Xh,O a x 0 (one T) ha u,it,G.eR ha.2,K _ _ (by have:=ha.1;omega),Iw]
  have cl:∀{a b},El (L::T) a->El (L::T) b->El (L::T) (mul (L::T) a b):=λha I=>Bz hw ha I;have a0:∀{a},El (L::T) a->∃b,El (L::T) b/\mul (L::T) a b=one (L::T):=by
   intro a ha;obtain⟨a,x,rfl⟩:=X ha;by_cases Z:a=0
   .subst Z;obtain⟨y,D,S,_⟩:=G.iv ha.2;refine⟨0::y,⟨W,D⟩,?_⟩;rw[O 0 x 0 y ha ⟨W,D⟩,it,S,K _ _ (by omega)];rfl
   .have a5:=ha.1;have C:=J (L.o-a) x ha.2;obtain⟨y,D,S,_⟩:=G.iv (G.cl Q C);refine⟨(L.o-a)::y,⟨by omega,D⟩,?_⟩;rw[O a x _ y ha ⟨by omega,D⟩,IV (by omega),Y _ _ AV,K _ _ (by omega),<-G.Ag Q C D,S,Gy];rfl
  have iv:∀{a},El (L::T) a->∃b,El (L::T) b/\mul (L::T) a b=one (L::T)/\mul (L::T) b a=one (L::T):=by
   intro a ha;obtain⟨b,I,S⟩:=a0 ha;obtain⟨c,V,e2⟩:=a0 I;refine⟨b,I,S,?_⟩;have:a=c:=by
    rw[<-eR ha,<-e2,<-a1 ha I V,S,eL V]
   rw[this];exact e2
  have G':CE (El (L::T)) (mul (L::T)) (one (L::T)):=⟨cl,u,a1,eL,eR,iv⟩;refine⟨G',λx C=>?_⟩;obtain⟨a,x,rfl⟩:=X C;have e0:∀k,k<L.o->npow (mul (L::T)) (one (L::T)) (unit (L::T) 0) k=k::one T:=λk=>by
   induction k with
   |zero=>intro _;rfl
   |succ k ihk=>
    intro F;rw[Cu,ihk (by omega),PE,O k _ 1 _ ⟨by omega,G.me⟩ ⟨by omega,G.me⟩,v,G.eL G.me,K _ _ F]
  have m0:∀y z,El T y->El T z->mul (L::T) (0::y) (0::z)=0::mul T y z:=λy z D B=>by
   rw[O 0 y 0 z ⟨W,D⟩ ⟨W,B⟩,it,K _ _ (by omega)]
  rw[W9,ev,e0 a C.1,<-Ir (f:=(0:: ·)) (m':=mul (L::T)) (e':=one (L::T)) G rfl (λy z D B=>(m0 y z D B).symm) l x,U x C.2,O a _ 0 x ⟨C.1,G.me⟩ ⟨W,C.2⟩,it,G.eL C.2,Iw,K _ _ C.1]
theorem BA {T:Tw}(h:Wf T)(hg:Good T):CE (El T) (mul T) (one T):=(Xi h hg).1
theorem LM {T:Tw}(h:Wf T)(hg:Good T){x:List Nat}(B:El T x):ev (mul T) (one T) (Az T) x=x:=(Xi h hg).2 x B
end AJ
namespace AJ
instance:Inhabited Lv:=⟨⟨0,[],[]⟩⟩
def pad (s:Nat)(x:List Nat):List Nat:=List.replicate s 0++x
theorem XY (x:List Nat):pad 0 x=x:=rfl
theorem Qr (s:Nat)(x:List Nat):pad (s+1) x=0::pad s x:=rfl
theorem LU (s t:Nat)(x:List Nat):pad s (pad t x)=pad (s+t) x:=by
 simp[pad,<-Dy]
theorem BS (s:Nat)(x:List Nat):(pad s x).length=s+x.length:=by simp[pad]
theorem BJ (s:Nat)(x:List Nat):(pad s x).drop s=x:=by simp[pad]
theorem DJ {T:Tw}(h:Wf T)(s:Nat):Wf (T.drop s):=by
 induction s generalizing T with
 |zero=>exact h
 |succ s ih=>cases T with
  |nil=>exact h
  |cons L T=>exact ih h.2.2.2.2
theorem KQ {T:Tw}(h:Good T)(s:Nat):Good (T.drop s):=by
 induction s generalizing T with
 |zero=>exact h
 |succ s ih=>cases T with
  |nil=>exact h
  |cons L T=>exact ih h.1
theorem Gu {T:Tw}{x:List Nat}(h:El T x)(s:Nat):El (T.drop s) (x.drop s):=by
 induction s generalizing T x with
 |zero=>exact h
 |succ s ih=>cases T with
  |nil=>cases x with
   |nil=>exact h
   |cons a x=>exact absurd h (by simp[El])
  |cons L T=>cases x with
   |nil=>exact absurd h (by simp[El])
   |cons a x=>exact ih h.2
theorem MV {T:Tw}(h:Wf T)(s:Nat){x:List Nat}(B:El (T.drop s) x)(C:s<=T.length):El T (pad s x):=by
 induction s generalizing T with
 |zero=>exact B
 |succ s ih=>cases T with
  |nil=>simp at C
  |cons L T=>exact⟨by have:=h.1;omega,ih h.2.2.2.2 B (by simpa using C)⟩
theorem Pj (T:Tw)(s:Nat)(h:s<=T.length):pad s (AJ.one (T.drop s))=AJ.one T:=by
 simp[pad,AJ.one,IV h]
theorem Qv (T:Tw)(s j:Nat)(h:s<=T.length):pad s (unit (T.drop s) j)=unit T (s+j):=by
 induction s generalizing T with
 |zero=>simp[XY]
 |succ s ih=>cases T with
  |nil=>simp at h
  |cons L T=>
   rw[Qr,Nat.succ_add,Qi,<-ih T (by simpa using h)];rfl
theorem RF {T:Tw}(h:Wf T)(s:Nat){x y:List Nat}(B:El T x)(D:El (T.drop s) y)(C:s<=T.length):mul T x (pad s y)=x.take s++mul (T.drop s) (x.drop s) y:=by
 induction s generalizing T x with
 |zero=>rfl
 |succ s ih=>cases T with
  |nil=>simp at C
  |cons L T=>cases x with
   |nil=>exact absurd B (by simp[El])
   |cons a x=>
    have:=B.1;rw[Qr,mul_cons,BF (by omega),it,ih h.2.2.2.2 B.2 D (by simpa using C)];rfl
theorem lV {T:Tw}(h:Wf T)(s:Nat){x y:List Nat}(D:El (T.drop s) x)(C:El (T.drop s) y)(B:s<=T.length):mul T (pad s x) (pad s y)=pad s (mul (T.drop s) x y):=by
 rw[RF h s (MV h s D B) C B,BJ];simp[pad]
theorem Tp {α:Type}(m:α->α->α)(u:α)(cs:List α)(s:Nat)(y:List Nat)(B:s<=cs.length):BO m u cs (pad s y)=BO m u (cs.drop s) y:=by
 induction s generalizing cs with
 |zero=>rfl
 |succ s ih=>cases cs with
  |nil=>simp at B
  |cons c cs=>rw[Qr,BO,it,ih cs (by simpa using B)];rfl
theorem qF (T:Tw)(c:List (List Nat))(s:Nat)(y:List Nat)(B:s<=c.length):img T c (pad s y)=BO (mul T) (AJ.one T) (c.drop s) y:=Tp _ _ _ _ _ B
theorem qG {α:Type}{m:α->α->α}{e:α}{T:Tw}(hT:Wf T){cs:List α}:Rel m e T cs↔cs.length=T.length/\(∀j<T.length,npow m e (cs.getD j e) (T.getD j default).o=ev m e (cs.drop (j+1)) (T.getD j default).w)/\
  (∀j<T.length,∀k,j<k->k<T.length->m (cs.getD k e) (cs.getD j e)=m (cs.getD j e) (ev m e (cs.drop (j+1)) ((T.getD j default).c.getD (k-j-1) []))):=by
 induction T generalizing cs with
 |nil=>cases cs with
  |nil=>exact⟨λ_=>⟨rfl,λj B=>absurd B (CS _),λj B=>absurd B (CS _)⟩,λ_=>trivial⟩
  |cons c cs=>exact⟨λh=>absurd h (by simp[Rel]),λh=>absurd h.1 (by simp)⟩
 |cons L T ih=>cases cs with
  |nil=>exact⟨λh=>absurd h (by simp[Rel]),λh=>absurd h.1 (by simp)⟩
  |cons c cs=>
   obtain⟨S,U,W,V,N⟩:=hT;rw[Rel,ih N];constructor
   .rintro⟨Q,K,I,D,F⟩;refine⟨by simp[I],λj B=>?_,λj B k R C=>?_⟩
    .cases j with
     |zero=>simpa using Q
     |succ j=>simpa using D j (by simpa using B)
    .cases j with
     |zero=>cases k with
      |zero=>omega
      |succ k=>
       have J:k<cs.length:=by simp at C;omega
       have:=K k J (by simp at C;omega);simpa[BG,AU J,AU (show k<L.c.length by simp at C;omega)]using this
     |succ j=>cases k with
      |zero=>omega
      |succ k=>
       have:=F j (by simpa using B) k (by omega) (by simpa using C);simpa[Nat.add_sub_add_right,show k+1-(j+1)=k-j by omega]using this
   .rintro⟨I,D,F⟩;have O:cs.length=T.length:=by simpa using I
    refine⟨by simpa using D 0 (by simp),λj p q=>?_,O,λj B=>?_,λj B k R C=>?_⟩
    .have:=F 0 (by simp) (j+1) (by omega) (by simp;omega);simpa[BG,AU p,AU q]using this
    .simpa using D (j+1) (by simpa using B)
    .have:=F (j+1) (by simpa using B) (k+1) (by omega) (by simpa using C);simpa[show k+1-(j+1)-1=k-j-1 by omega]using this
def Ep (L:Lv)(T:Tw):Prop:=Rel (mul T) (AJ.one T) T L.c/\img T L.c L.w=L.w/\∀j<T.length,mul T L.w (it (img T L.c) L.o (unit T j))=mul T (unit T j) L.w
theorem XA (L:Lv)(T:Tw):Good (L::T)↔Good T/\Ep L T:=Iff.rfl
theorem Xj {L:Lv}{T:Tw}(h:Wf (L::T))(hg:Good T):Ep L T↔
  (∀j<T.length,npow (mul T) (AJ.one T) (L.c.getD j (AJ.one T)) (T.getD j default).o=img T L.c (pad (j+1) (T.getD j default).w))/\
  (∀j<T.length,∀k,j<k->k<T.length->mul T (L.c.getD k (AJ.one T)) (L.c.getD j (AJ.one T))=mul T (L.c.getD j (AJ.one T)) (img T L.c (pad (j+1) ((T.getD j default).c.getD (k-j-1) []))))/\
  img T L.c L.w=L.w/\∀j<T.length,mul T L.w (it (img T L.c) L.o (unit T j))=mul T (unit T j) L.w:=by
 obtain⟨U,V,S,R,O⟩:=h;have G:=BA O hg;have C:∀j<T.length,∀y,img T L.c (pad (j+1) y)=ev (mul T) (AJ.one T) (L.c.drop (j+1)) y:=λj B y=>by
  rw[qF T L.c (j+1) y (by omega),G.IJ (λc Q=>R c (Hl Q)) y]
 rw[Ep,qG O];constructor
 .rintro⟨⟨_,J,D⟩,I,K⟩;exact⟨λj B=>by rw[C j B,J j B],λj B k N F=>by rw[C j B,D j B k N F],I,K⟩
 .rintro⟨J,D,I,K⟩;exact⟨⟨S,λj B=>by rw[<-C j B,J j B],λj B k N F=>by rw[<-C j B,D j B k N F]⟩,I,K⟩
theorem Gb {T:Tw}{x:List Nat}(h:El T x){j a:Nat}(ha:x[j]?=some a):∃L,T[j]?=some L/\a<L.o:=by
 induction T generalizing x j with
 |nil=>cases x with
  |nil=>simp at ha
  |cons b x=>exact absurd h (by simp[El])
 |cons L T ih=>cases x with
  |nil=>exact absurd h (by simp[El])
  |cons b x=>cases j with
   |zero=>simp at ha;subst ha;exact⟨L,rfl,h.1⟩
   |succ j=>simpa using ih h.2 (by simpa using ha)
def Small (T:Tw):Prop:=T.length<=6/\∀L∈T,L.o<=7
theorem Small.lt {T:Tw}(B:Small T){s:Nat}{x:List Nat}(h:El (T.drop s) (x.drop s)){j a:Nat}(D:s<=j)(ha:x[j]?=some a):a<7:=by
 obtain⟨L,C,F⟩:=Gb h (j:=j-s) (a:=a) (by rw[Fa,IV D];exact ha);have:=B.2 L (Hl (Af C));omega
def Fs {α:Type}(m:α->α->α)(u d:α)(cs:List α)(y:List Nat)(j k:Nat):α:=it (λz=>m z (cs.getD j d)) k (BO m u (cs.take j) (y.take j))
theorem MK {α:Type}(m:α->α->α)(u d:α)(cs:List α)(y:List Nat):Fs m u d cs y 0 0=u:=by cases cs<;>rfl
theorem Na {α:Type}(m:α->α->α)(u d:α)(cs:List α)(y:List Nat)(j k:Nat):Fs m u d cs y j (k+1)=m (Fs m u d cs y j k) (cs.getD j d):=EX _ _ _
theorem Wi {α:Type}(m:α->α->α)(u:α)(cs:List α)(y:List Nat)(j a:Nat)(c:α)(C:cs[j]?=some c)(B:y[j]?=some a):BO m u (cs.take (j+1)) (y.take (j+1))=it (λz=>m z c) a (BO m u (cs.take j) (y.take j)):=by
 induction j generalizing u cs y with
 |zero=>cases cs with
  |nil=>simp at C
  |cons d cs=>cases y with
   |nil=>simp at B
   |cons b y=>simp at C B;subst C;subst B;cases cs<;>rfl
 |succ j ih=>cases cs with
  |nil=>simp at C
  |cons d cs=>cases y with
   |nil=>simp at B
   |cons b y=>exact ih _ cs y (by simpa using C) (by simpa using B)
theorem Nb {α:Type}(m:α->α->α)(u d:α)(cs:List α)(y:List Nat)(j a:Nat)(C:j<cs.length)(B:y[j]?=some a):Fs m u d cs y j a=Fs m u d cs y (j+1) 0:=by
 have D:cs[j]?=some (cs.getD j d):=by rw[BG,AU C];rfl
 exact(Wi m u cs y j a _ D B).symm
theorem Np {α:Type}(m:α->α->α)(u d:α)(cs:List α)(y:List Nat)(j:Nat)(C:cs.length<=j)(B:y.length<=j):Fs m u d cs y j 0=BO m u cs y:=by
 show BO m u (cs.take j) (y.take j)=_;rw[Jh C,Jh B]
theorem Nq {α:Type}(M:α->Prop)(m:α->α->α)(C:∀x y,M x->M y->M (m x y))(u d:α)(cs:List α)(y:List Nat)(I:M u)(F:M d)(B:∀c∈cs,M c)(j k:Nat):M (Fs m u d cs y j k):=by
 refine GH M _ (λz D=>C _ _ D ?_) k _ (MI M m C _ (λc h=>B c (La h)) _ _ I);rw[BG];cases h:cs[j]? with
 |none=>exact F
 |some c=>exact B c (Af h)
theorem CE.Yh {α:Type}{M:α->Prop}{m:α->α->α}{e:α}(G:CE M m e){b:α}(B:M b)(h:Nat):AJ.npow m e (m b b) h=AJ.npow m e b (2*h):=by
 induction h with
 |zero=>rfl
 |succ h ih=>
  rw[Cu,ih,show 2*(h+1)=2*h+1+1 by omega,Cu,Cu,G.Ag (G.npow B _) B B]
theorem CE.XB {α:Type}{M:α->Prop}{m:α->α->α}{e:α}(G:CE M m e){b:α}(B:M b)(h:Nat):m b (AJ.npow m e b h)=AJ.npow m e b (h+1):=by
 rw[Gh,G.JU B 1 h,G.Jr B]
theorem CE.lX {α:Type}{M:α->Prop}{m:α->α->α}{e:α}(G:CE M m e){o b:α}(B:M b){k:Nat}(C:k%2=0):m o (AJ.npow m e b k)=m o (AJ.npow m e (m b b) (k/2)):=by
 rw[G.Yh B,show 2*(k/2)=k by omega]
theorem CE.qH {α:Type}{M:α->Prop}{m:α->α->α}{e:α}(G:CE M m e){o b:α}(C:M o)(B:M b){k:Nat}(D:k%2=1):m o (AJ.npow m e b k)=m (m o b) (AJ.npow m e (m b b) (k/2)):=by
 rw[G.Yh B,G.Ag C B (G.npow B _),G.XB B,show 2*(k/2)+1=k by omega]
end AJ
open RowKit AJ
structure Keep (S:Nat->Prop)(w w':World):Prop where
 size:w.heap.size<=w'.heap.size
 block:∀k,S k->k<w.heap.size->w'.heap[k]?=w.heap[k]?
theorem Keep.refl (S:Nat->Prop)(w:World):Keep S w w:=⟨Al _,λ_ _ _=>rfl⟩
theorem Keep.trans {S:Nat->Prop}{a b c:World}(h:Keep S a b)(k:Keep S b c):Keep S a c:=
 ⟨Ae h.size k.size,λi hi B=>(k.block i hi (Ah B h.size)).trans (h.block i hi B)⟩
theorem Keep.mono {S S':Nat->Prop}{a b:World}(h:Keep S a b)(B:∀k,S' k->S k):Keep S' a b:=⟨h.size,λk C=>h.block k (B k C)⟩
theorem AO {S:Nat->Prop}{a b:World}(h:Below a.heap.size a b):Keep S a b:=⟨h.size,λk C B=>h.block k B⟩
theorem Keep.lt {B:Nat}{a b:World}(h:Below B a b):Keep (· <B) a b:=⟨h.size,λk C D=>h.block k C⟩
theorem Keep.grown {S:Nat->Prop}{a b:World}{row:Option Nat}(h:a.grownBy b row)(B:∀k,S k->some k≠row):Keep S a b:=⟨h.size,λk D C=>h.block k C (B k D)⟩
theorem Keep.alloc {S:Nat->Prop}{a w:World}(h:Keep S a w)(o:Obj):Keep S a (w.alloc o):=
 h.trans ⟨by simp,λk _ B=>Dv _ _ _ B⟩
theorem Keep.drew {S:Nat->Prop}{a w:World}(h:Keep S a w):Keep S a w.drew:=⟨h.size,h.block⟩
theorem Keep.setCell {S:Nat->Prop}{a w:World}(h:Keep S a w){p:Addr}(B:¬S p.block)(u:Value):Keep S a (w.setCell p u):=
 h.trans ⟨by simp[World.setCell],λk C _=>Below.heap_setCell _ _ _ _ (λe=>B (e▸C))⟩
theorem Keep.cell {S:Nat->Prop}{w w':World}(h:Keep S w w'){b o:Nat}(B:S b)(C:b<w.heap.size):w'.cell? ⟨b,o,none⟩=w.cell? ⟨b,o,none⟩:=
 World.cell?_of_block (w:=w) (h.block b B C)
def Am {α:Type}(E:World->Value->α->Prop)(S:Nat->Prop)(w:World)(v:Value)(l:List α):Prop:=
 ∃B c,v= .slice B l.length c/\l.length<=c/\c<=maxLen/\(B=none->c=0)/\∀i x,l[i]?=some x->∃b o,B=some ⟨b,o,none⟩/\S b/\b<w.heap.size/\∃u,w.cell? ⟨b,o+i,none⟩=some u/\E w u x
theorem Am.keep {α:Type}{E:World->Value->α->Prop}{S:Nat->Prop}{w w':World}{v:Value}{l:List α}(h:Am E S w v l)(B:Keep S w w')(J:∀u x,E w u x->E w' u x):Am E S w' v l:=by
 obtain⟨U,c,I,K,O,Q,L⟩:=h;refine⟨U,c,I,K,O,Q,λi x D=>?_⟩;obtain⟨b,o,F,e2,C,u,R,N⟩:=L i x D;exact⟨b,o,F,e2,Ah C B.size,u,by rw[B.cell e2 C];exact R,J _ _ N⟩
theorem Am.mono {α:Type}{E E':World->Value->α->Prop}{S S':Nat->Prop}{w:World}{v:Value}{l:List α}(h:Am E S w v l)(K:∀k,S k->S' k)(F:∀u x,E w u x->E' w u x):Am E' S' w v l:=by
 obtain⟨U,c,D,I,O,Q,J⟩:=h;refine⟨U,c,D,I,O,Q,λi x B=>?_⟩;obtain⟨b,o,C,e2,L,u,R,N⟩:=J i x B;exact⟨b,o,C,K _ e2,L,u,R,F _ _ N⟩
def AP (S:Nat->Prop)(w:World)(v:Value)(l:List Int):Prop:=Am (λ_ u x=>u= .int .i64 x) S w v l
def AQ (S:Nat->Prop)(w:World)(v:Value)(l:List (List Int)):Prop:=Am (λw u x=>AP S w u x) S w v l
def FR (S:Nat->Prop)(w:World)(v:Value)(l:List (List (List Int))):Prop:=Am (λw u x=>AQ S w u x) S w v l
theorem AP.keep {S:Nat->Prop}{w w':World}{v:Value}{l:List Int}(h:AP S w v l)(B:Keep S w w'):AP S w' v l:=Am.keep h B (λ_ _ e=>e)
theorem AQ.keep {S:Nat->Prop}{w w':World}{v:Value}{l:List (List Int)}(h:AQ S w v l)(B:Keep S w w'):AQ S w' v l:=Am.keep h B (λ_ _ e=>AP.keep e B)
theorem FR.keep {S:Nat->Prop}{w w':World}{v:Value}{l:List (List (List Int))}(h:FR S w v l)(B:Keep S w w'):FR S w' v l:=Am.keep h B (λ_ _ e=>AQ.keep e B)
theorem AP.mono {S S':Nat->Prop}{w:World}{v:Value}{l:List Int}(h:AP S w v l)(B:∀k,S k->S' k):AP S' w v l:=Am.mono h B (λ_ _ e=>e)
theorem AQ.mono {S S':Nat->Prop}{w:World}{v:Value}{l:List (List Int)}(h:AQ S w v l)(B:∀k,S k->S' k):AQ S' w v l:=Am.mono h B (λ_ _ e=>AP.mono e B)
theorem FR.mono {S S':Nat->Prop}{w:World}{v:Value}{l:List (List (List Int))}(h:FR S w v l)(B:∀k,S k->S' k):FR S' w v l:=Am.mono h B (λ_ _ e=>AQ.mono e B)
def ints (l:List Nat):List Int:=l.map Int.ofNat
theorem BK (l:List Nat):(ints l).length=l.length:=by simp[ints]
theorem Dt (l:List Nat)(i:Nat):(ints l)[i]?=(l[i]?).map Int.ofNat:=by simp[ints]
structure BZ where
 os:List Int
 ps:List (List Int)
 cs:List (List (List Int))
structure Av (S:Nat->Prop)(w:World)(vO vP vC:Value)(P:BZ):Prop where
 os:AP S w vO P.os
 ps:AQ S w vP P.ps
 cs:FR S w vC P.cs
theorem Av.keep {S:Nat->Prop}{w w':World}{F C D:Value}{P:BZ}(h:Av S w F C D P)(B:Keep S w w'):Av S w' F C D P:=⟨h.os.keep B,h.ps.keep B,h.cs.keep B⟩
theorem Av.mono {S S':Nat->Prop}{w:World}{F C D:Value}{P:BZ}(h:Av S w F C D P)(B:∀k,S k->S' k):Av S' w F C D P:=⟨h.os.mono B,h.ps.mono B,h.cs.mono B⟩
def BH (S:Nat->Prop)(w:World)(b o:Nat)(P:BZ):Prop:=
 S b/\b<w.heap.size/\∃D B C,w.cell? ⟨b,o,none⟩=some D/\w.cell? ⟨b,o+1,none⟩=some B/\w.cell? ⟨b,o+2,none⟩=some C/\Av S w D B C P
theorem BH.keep {S:Nat->Prop}{w w':World}{b o:Nat}{P:BZ}(h:BH S w b o P)(B:Keep S w w'):BH S w' b o P:=by
 obtain⟨C,D,O,F,N,J,K,L,I⟩:=h;exact⟨C,Ah D B.size,O,F,N,by rw[B.cell C D];exact J,by rw[B.cell C D];exact K,by rw[B.cell C D];exact L,I.keep B⟩
theorem BH.mono {S S':Nat->Prop}{w:World}{b o:Nat}{P:BZ}(h:BH S w b o P)(B:∀k,S k->S' k):BH S' w b o P:=by
 obtain⟨C,D,O,F,N,J,K,L,I⟩:=h;exact⟨B _ C,D,O,F,N,J,K,L,I.mono B⟩
def Hu:Nat->Tw->List (List Int)
 |_,[]=>[]
 |s,L::T=>ints (pad (s+1) L.w)::Hu (s+1) T
def Hw:Nat->Tw->List (List (List Int))
 |_,[]=>[]
 |s,L::T=>L.c.map (λy=>ints (pad (s+1) y))::Hw (s+1) T
def AZ (T:Tw):BZ:=⟨T.map (λL=>(L.o:Int)),Hu 0 T,Hw 0 T⟩
theorem gZ (s:Nat)(T:Tw):(Hu s T).length=T.length:=by
 induction T generalizing s with
 |nil=>rfl
 |cons L T ih=>simp[Hu,ih]
theorem gm (s:Nat)(T:Tw):(Hw s T).length=T.length:=by
 induction T generalizing s with
 |nil=>rfl
 |cons L T ih=>simp[Hw,ih]
theorem lY (s:Nat)(T:Tw)(j:Nat):(Hu s T)[j]?=(T[j]?).map λL=>ints (pad (s+j+1) L.w):=by
 induction T generalizing s j with
 |nil=>simp[Hu]
 |cons L T ih=>cases j with
  |zero=>simp[Hu]
  |succ j=>simp only[Hu,Bf,ih];rw[show s+1+j+1=s+(j+1)+1 by omega]
theorem lZ (s:Nat)(T:Tw)(j:Nat):(Hw s T)[j]?=(T[j]?).map λL=>L.c.map λy=>ints (pad (s+j+1) y):=by
 induction T generalizing s j with
 |nil=>simp[Hw]
 |cons L T ih=>cases j with
  |zero=>simp[Hw]
  |succ j=>simp only[Hw,Bf,ih];rw[show s+1+j+1=s+(j+1)+1 by omega]
theorem Jv (T:Tw):(AZ T).os.length=T.length:=by simp[AZ]
theorem Ud (T:Tw):(AZ T).ps.length=T.length:=gZ _ _
theorem Ue (T:Tw):(AZ T).cs.length=T.length:=gm _ _
theorem NQ (T:Tw)(j:Nat)(L:Lv)(h:T[j]?=some L):(AZ T).os[j]?=some (L.o:Int):=by simp[AZ,h]
theorem TM (T:Tw)(j:Nat)(L:Lv)(h:T[j]?=some L):(AZ T).ps[j]?=some (ints (pad (j+1) L.w)):=by
 show(Hu 0 T)[j]?=_;rw[lY,h];simp
theorem TN (T:Tw)(j:Nat)(L:Lv)(h:T[j]?=some L):(AZ T).cs[j]?=some (L.c.map λy=>ints (pad (j+1) y)):=by
 show(Hw 0 T)[j]?=_;rw[lZ,h];simp
theorem Av.open {S:Nat->Prop}{w:World}{N U L:Value}{T:Tw}(h:Av S w N U L (AZ T)):∃F D I B J C,N= .slice F T.length D/\U= .slice I T.length B/\L= .slice J T.length C/\
  T.length<=D/\T.length<=B/\T.length<=C:=by
 obtain⟨F,D,O,K,_⟩:=h.os;obtain⟨I,B,e2,Q,_⟩:=h.ps;obtain⟨J,C,V,R,_⟩:=h.cs;rw[Jv]at O K;rw[Ud]at e2 Q;rw[Ue]at V R;exact⟨F,D,I,B,J,C,O,e2,V,K,Q,R⟩
theorem Av.ord {S:Nat->Prop}{w:World}{B:Option Addr}{n C:Nat}{J F:Value}{T:Tw}(h:Av S w (.slice B n C) J F (AZ T)){j:Nat}{L:Lv}(N:T[j]?=some L):
  ∃b o,B=some ⟨b,o,none⟩/\S b/\b<w.heap.size/\w.cell? ⟨b,o+j,none⟩=some (.int .i64 (L.o:Int)):=by
 obtain⟨Q,c,e,_,_,_,D⟩:=h.os;obtain⟨rfl,_,_⟩:B=Q/\n=(AZ T).os.length/\C=c:=by simpa using e
 obtain⟨b,o,I,e2,K,u,O,rfl⟩:=D j _ (NQ T j L N);exact⟨b,o,I,e2,K,O⟩
theorem Av.pow {S:Nat->Prop}{w:World}{B:Option Addr}{n C:Nat}{I F:Value}{T:Tw}(h:Av S w I (.slice B n C) F (AZ T)){j:Nat}{L:Lv}(O:T[j]?=some L):
  ∃b o u,B=some ⟨b,o,none⟩/\S b/\b<w.heap.size/\w.cell? ⟨b,o+j,none⟩=some u/\AP S w u (ints (pad (j+1) L.w)):=by
 obtain⟨R,c,e,_,_,_,D⟩:=h.ps;obtain⟨rfl,_,_⟩:B=R/\n=(AZ T).ps.length/\C=c:=by simpa using e
 obtain⟨b,o,J,e2,K,u,Q,N⟩:=D j _ (TM T j L O);exact⟨b,o,u,J,e2,K,Q,N⟩
theorem Av.JM {S:Nat->Prop}{w:World}{I:Option Addr}{n K:Nat}{Q d:Value}{T:Tw}(h:Av S w Q d (.slice I n K) (AZ T)){j:Nat}{L:Lv}(i:T[j]?=some L):
  ∃b o D F,I=some ⟨b,o,none⟩/\S b/\b<w.heap.size/\w.cell? ⟨b,o+j,none⟩=some (.slice D L.c.length F)/\L.c.length<=F/\
   ∀k y,L.c[k]?=some y->∃B C u,D=some ⟨B,C,none⟩/\S B/\B<w.heap.size/\w.cell? ⟨B,C+k,none⟩=some u/\AP S w u (ints (pad (j+1) y)):=by
 obtain⟨p,c,e,_,_,_,Y⟩:=h.cs;obtain⟨rfl,_,_⟩:I=p/\n=(AZ T).cs.length/\K=c:=by simpa using e
 obtain⟨b,o,R,e2,g,u,N,U⟩:=Y j _ (TN T j L i);obtain⟨D,F,rfl,J,_,_,a⟩:=U;rw[BC]at N J;refine⟨b,o,D,F,R,e2,g,N,J,λk y W=>?_⟩;obtain⟨B,C,O,X,l,u,Z,V⟩:=a k (ints (pad (j+1) y)) (by simp[W]);exact⟨B,C,u,O,X,l,Z,V⟩
theorem AP.at {S:Nat->Prop}{w:World}{a:Option Addr}{n c:Nat}{x:List Nat}(h:AP S w (.slice a n c) (ints x)){j q:Nat}(F:x[j]?=some q):
  ∃b o,a=some ⟨b,o,none⟩/\S b/\b<w.heap.size/\w.cell? ⟨b,o+j,none⟩=some (.int .i64 (q:Int)):=by
 obtain⟨K,J,e,_,_,_,B⟩:=h;obtain⟨rfl,_,_⟩:a=K/\n=(ints x).length/\c=J:=by simpa using e
 obtain⟨b,o,C,e2,D,u,I,rfl⟩:=B j (q:Int) (by rw[Dt,F];rfl);exact⟨b,o,C,e2,D,I⟩
theorem AP.open {S:Nat->Prop}{w:World}{v:Value}{x:List Nat}(h:AP S w v (ints x)):∃a c,v= .slice a x.length c/\x.length<=c:=by
 obtain⟨a,c,e,l,_⟩:=h;rw[BK]at e l;exact⟨a,c,e,l⟩
theorem AL{S:Nat->Prop}{w:World}:Keep S w w:=Keep.refl _ _
theorem AR{S:Nat->Prop}{a b c:World}(h:Keep S a b)(k:Below b.heap.size b c):Keep S a c:=h.trans (AO k)
structure Ou(a b:World):Prop where k:∀S,Keep S a b
instance{a:World}:Nonempty (Ou a a):=⟨⟨λ_=>AL⟩⟩
instance{a:World}:Nonempty (Ou a a.drew):=⟨⟨λ_=>AL.drew⟩⟩
instance{a:World}{o:Obj}:Nonempty (Ou a (a.alloc o)):=⟨⟨λ_=>AL.alloc _⟩⟩
instance{a:World}{o:Obj}:Nonempty (Ou a (a.alloc o).drew):=⟨⟨λ_=>(AL.alloc _).drew⟩⟩
instance{a:World}{o:Obj}:Nonempty (Ou a (a.drew.alloc o)):=⟨⟨λ_=>AL.drew.alloc _⟩⟩
theorem Ab{S:Nat->Prop}{a b:World}[h:Nonempty (Ou a b)]:Keep S a b:=h.elim λh=>h.k S
open RowKit
def BW (B:Nat)(C:World):={ w':World // Below B C w' }
instance BW.ne (B:Nat)(w0:World):Nonempty (BW B w0):=⟨⟨w0,BB _ _⟩⟩
theorem O3 {P:Program}{J:Nat}{Q:Exit->Act->World->Prop}{a:Act}{w:World}{l:List Oper}(B:Nat)(D:World)(F:Below B D w)(K:P.follows .mixedOrders=true)(I:Region.lexB .any l.toArray=true)
  (h:wpQuiet P l.toArray (λw'=>∃x:BW B D,w'=x.1) (λL=>∀w',(∃x:BW B D,w'=x.1)->Q .normal L w') l a):(Code.region J l.toArray true).wp P Q a w:=
 wp_region_quiet (C:=λw'=>∃x:BW B D,w'=x.1) K I ⟨⟨_,F.drew⟩,rfl⟩ (by simpa using h)
theorem Qd {P:Program}{f:FuncId}{D:Array Value}{B:Nat}{C:World}{x:BW B C}{v:Value}(F:B<=C.heap.size)
  (h:Calls P f D x.1 λe w'=>e= .returned v/\Below x.1.heap.size x.1 w'):Calls P f D x.1 λe I=>e= .returned v/\∃y:BW B C,I=y.1:=
 h.mono λ_ w' ⟨J,K⟩=>⟨J,⟨w',x.2.trans (K.mono (Ae F x.2.size))⟩,rfl⟩
theorem WO {P:Program}{f:FuncId}{D:Array Value}{B:Nat}{C:World}{x:BW B C}{v:Value}
  (h:Calls P f D x.1 λe w'=>e= .returned v/\∃n,w'=x.1.drewN n):Calls P f D x.1 λe F=>e= .returned v/\∃y:BW B C,F=y.1:=
 h.mono λ_ w' ⟨I,n,J⟩=>⟨I,⟨w',by rw[J];exact Cs x.2 n⟩,rfl⟩
theorem Z4 {W B:World}(C:Below W.heap.size W B):(∀b o,b<W.heap.size->B.cell? ⟨b,o,none⟩=W.cell? ⟨b,o,none⟩)/\(∀b o,b<W.heap.size->B.frozen? ⟨b,o,none⟩=W.frozen? ⟨b,o,none⟩):=
 ⟨λb o h=>C.cell (p:=⟨b,o,none⟩) h,λb o h=>C.frozen (p:=⟨b,o,none⟩) h⟩
open RowKit AJ
theorem Dh:(Tryz.prog.info? 2).map (λi=>(i.zero,i.size,i.bytes))=some (some (.int .i64 0),1,8):=by kernel_rfl
abbrev vals (x:List Int):List Value:=x.map (Value.int .i64)
def Own (B:Nat)(w:World)(v:Value)(x:List Int):Prop:=w.ownsRow B 2 1 v x.length (vals x)
theorem Own.form {B:Nat}{w:World}{v:Value}{x:List Int}(h:Own B w v x)(C:0<x.length):∃g cap,v= .slice (some ⟨g,0,none⟩) x.length cap:=by
 rcases h.2 with⟨rfl,D⟩|⟨g,cap,F,rfl,_⟩
 .omega
 .exact⟨g,cap,rfl⟩
theorem Own.lt {B:Nat}{w:World}{g n cap:Nat}{x:List Int}(h:Own B w (.slice (some ⟨g,0,none⟩) n cap) x):B<=g/\g<w.heap.size:=Aq h g rfl
theorem Own.sl {B:Nat}{w:World}{v:Value}{x:List Int}(h:Own B w v x):AP (λk=>B<=k) w v x:=by
 rcases h.2 with⟨rfl,K⟩|⟨g,cap,O,rfl,D,Q,I,J,L,N⟩
 .have F:x=[]:=Di K;subst F;exact⟨none,0,rfl,Al _,AX _,λ_=>rfl,λi y C=>by simp at C⟩
 .refine⟨_,cap,rfl,I,J,λe=>absurd e (by simp),λi y C=>⟨g,0,rfl,D,(Aq h g rfl).2,.int .i64 y,?_,rfl⟩⟩;have hi:i<x.length:=(Ak.1 C).1;rw[CK,FZ h i (by omega)];simp[vals,C]
theorem Own.uN {B:Nat}{w:World}{g n cap:Nat}{x:List Int}(h:Own B w (.slice (some ⟨g,0,none⟩) n cap) x):AP (λk=>k=g) w (.slice (some ⟨g,0,none⟩) n cap) x:=by
 obtain⟨N,c,e,F,I,_,K⟩:=h.sl;obtain⟨rfl,rfl,rfl⟩:N=some ⟨g,0,none⟩/\n=x.length/\c=cap:=by simpa[eq_comm]using e
 refine⟨_,c,rfl,F,I,λe=>absurd e (by simp),λi y C=>?_⟩;obtain⟨b,o,D,e2,J,L⟩:=K i y C;obtain⟨rfl,rfl⟩:b=g/\o=0:=by simpa[eq_comm]using D
 exact⟨b,0,rfl,rfl,J,L⟩
theorem Own.keep {B:Nat}{S:Nat->Prop}{w w':World}{v:Value}{x:List Int}(h:Own B w v x)(D:Keep S w w')(J:∀k,v.ownBlock=some k->S k):Own B w' v x:=by
 refine⟨h.1,?_⟩;rcases h.2 with I|⟨g,cap,K,rfl,C,F,r⟩
 .exact .inl I
 .have hg:=(Aq h g rfl).2;exact .inr ⟨g,cap,K,rfl,C,by rw[D.block g (J g rfl) hg];exact F,r⟩
theorem Own.of_below {B:Nat}{w w':World}{v:Value}{x:List Int}(h:Own B w v x)(C:Below w.heap.size w w'):Own B w' v x:=h.keep (S:=λ_=>True) (AO C) (λ_ _=>trivial)
theorem Own.mono {B B':Nat}{w:World}{v:Value}{x:List Int}(h:Own B w v x)(D:B'<=B):Own B' w v x:=by
 refine⟨h.1,?_⟩;rcases h.2 with C|⟨g,cap,I,e,F,r⟩
 .exact .inl C
 .exact .inr ⟨g,cap,I,e,Ae D F,r⟩
theorem Xk (x:List Int)(j:Nat)(a:Int):(vals x).set j (.int .i64 a)=vals (x.set j a):=by simp[vals]
theorem Own.set {B:Nat}{w:World}{g n cap:Nat}{x:List Int}(h:Own B w (.slice (some ⟨g,0,none⟩) n cap) x)(j:Nat)(a:Int):
  Own B (w.setCell ⟨g,j,none⟩ (.int .i64 a)) (.slice (some ⟨g,0,none⟩) n cap) (x.set j a)/\w.grownBy (w.setCell ⟨g,j,none⟩ (.int .i64 a)) (some g):=by
 obtain⟨C,c,e,_⟩:=h.sl;obtain⟨_,rfl,_⟩:C=some ⟨g,0,none⟩/\n=x.length/\c=cap:=by simpa[eq_comm]using e
 have:=Jz h j (.int .i64 a);rw[Xk]at this;refine⟨?_,this.2⟩;unfold Own;rw[List.length_set];exact this.1
theorem Own.drew {B:Nat}{w:World}{v:Value}{x:List Int}(h:Own B w v x):Own B w.drew v x:=h.keep (S:=λ_=>True) ((Keep.refl _ w).drew) (λ_ _=>trivial)
theorem Own.alloc {B:Nat}{w:World}{v:Value}{x:List Int}(h:Own B w v x)(o:Obj):Own B (w.alloc o) v x:=h.keep (S:=λ_=>True) ((Keep.refl _ w).alloc o) (λ_ _=>trivial)
theorem Own.cell {B:Nat}{w:World}{g n cap:Nat}{x:List Int}(h:Own B w (.slice (some ⟨g,0,none⟩) n cap) x){j:Nat}{a:Int}(ha:x[j]?=some a):w.cell? ⟨g,j,none⟩=some (.int .i64 a)/\w.frozen? ⟨g,j,none⟩=false:=by
 obtain⟨C,c,e,_⟩:=h.sl;obtain⟨_,rfl,_⟩:C=some ⟨g,0,none⟩/\n=x.length/\c=cap:=by simpa[eq_comm]using e
 have D:j<x.length:=(Ak.1 ha).1;exact⟨by rw[FZ h j (by omega)];simp[vals,ha],Me h j⟩
theorem Own.made {B:Nat}(w:World)(n:Nat)(D:B<=w.heap.size)(C:n<=maxLen):Own B (w.alloc (.cells (madeCells #[.int .i64 0] n) 2)) (.slice (some ⟨w.heap.size,0,none⟩) n n) (List.replicate n 0):=by
 have:=JD (base:=B) (e:=2) (size:=1) w (madeCells #[.int .i64 0] n) n D C (by simp[madeCells]);rw[Kc]at this;unfold Own;simpa[vals]using this
def Dz (x:List Int)(w:World)(e:Ending)(w':World):Prop:=∃v,e= .returned v/\Own w.heap.size w' v x/\Below w.heap.size w w'
theorem OT {a b:Bool}(h:a=b):Ending.returned (.bool a)= .returned (.bool b):=by rw[h]
theorem VG {k:IntKind}{a b:Int}(h:a=b):Ending.returned (.int k a)= .returned (.int k b):=by rw[h]
theorem ints_set (x:List Nat)(j a:Nat):(ints x).set j (a:Int)=ints (x.set j a):=by simp[ints]
theorem JS (n:Nat):List.replicate n (0:Int)=ints (List.replicate n 0):=by simp[ints]
def CX (x:List Int)(w:World)(e:Ending)(w':World):Prop:=∃g cap,e= .returned (.slice (some ⟨g,0,none⟩) x.length cap)/\Own w.heap.size w' (.slice (some ⟨g,0,none⟩) x.length cap) x/\Below w.heap.size w w'
theorem Own.head {B:Nat}{w:World}{v:Value}{x:List Int}(h:Own B w v x)(C:v≠.slice none 0 0):∃g cap,v= .slice (some ⟨g,0,none⟩) x.length cap:=by
 rcases h.2 with⟨rfl,D⟩|⟨g,cap,F,rfl,_⟩
 .exact absurd rfl C
 .exact⟨g,cap,rfl⟩
theorem Keep.drewN {S:Nat->Prop}{a w:World}(h:Keep S a w)(n:Nat):Keep S a (w.drewN n):=h.trans (AO (Cs AY n))
theorem Own.drewN {B:Nat}{w:World}{v:Value}{x:List Int}(h:Own B w v x)(n:Nat):Own B (w.drewN n) v x:=h.keep (S:=λ_=>True) ((Keep.refl _ w).drewN n) (λ_ _=>trivial)
theorem Ap {wr w':World}(h:Keep (λ_=>True) wr w'):(∀b o,b<wr.heap.size->w'.cell? ⟨b,o,none⟩=wr.cell? ⟨b,o,none⟩)/\Keep (λ_=>True) wr w':=⟨λb o B=>h.cell trivial B,h⟩
theorem Cq {w wr:World}{o:Obj}(B:Below (w.heap.size+1) (w.alloc o) wr)(S:Nat->Prop):Keep S w wr:=
 ⟨Ae (by simp) B.size,λk _ C=>(B.block k (by omega)).trans (Dv w o k C)⟩
theorem CY {w wr:World}{D B C:Value}{t:TypeId}(F:Below (w.heap.size+1) (w.alloc (.cells #[D,B,C] t)) wr):
  wr.cell? ⟨w.heap.size,0,none⟩=some D/\wr.cell? ⟨w.heap.size,1,none⟩=some B/\wr.cell? ⟨w.heap.size,2,none⟩=some C:=by
 refine⟨?_,?_,?_⟩<;>(rw[F.cell (by show w.heap.size<_;omega),Ar _ w.heap.size _ #[D,B,C] t (0,0) (Aj w _)];rfl)
theorem Cy {w wr:World}{o:Obj}(B:Below (w.heap.size+1) (w.alloc o) wr):Below w.heap.size w wr:=
 ((BB _ w).alloc AV o).trans (B.mono (by omega))
theorem addr_add (b o j:Nat):(⟨b,o,none⟩:Addr).add j=⟨b,o+j,none⟩:=by simp[Addr.add]
theorem Own.Iz {B:Nat}{w:World}{g n cap:Nat}{x:List Nat}(h:Own B w (.slice (some ⟨g,0,none⟩) n cap) (ints x))(j a:Nat):
  Own B (w.setCell ⟨g,j,none⟩ (.int .i64 (a:Int))) (.slice (some ⟨g,0,none⟩) n cap) (ints (x.set j a))/\w.grownBy (w.setCell ⟨g,j,none⟩ (.int .i64 (a:Int))) (some g):=by
 rw[<-ints_set];exact h.set j a
theorem AP.src {S:Nat->Prop}{w w':World}{B:Addr}{n c:Nat}{l:List Int}(h:AP S w (.slice (some B) n c) l)(I:Keep S w w'):∀j u,(vals l)[j]?=some u->w'.cell? (B.add j)=some u:=by
 intro j u C;obtain⟨O,N,e,_,_,_,F⟩:=h;obtain⟨rfl,_,_⟩:O=some B/\n=l.length/\c=N:=by simpa[eq_comm]using e
 simp only[vals,Bh,Hg]at C;obtain⟨x,C,rfl⟩:=C;obtain⟨b,o,L,D,J,u,K,rfl⟩:=F j x C;obtain rfl:B=⟨b,o,none⟩:=IL L;rw[addr_add,I.cell D J];exact K
theorem LH (l:List Int):∀u∈vals l,u.oneCell'=true:=by intro u B;simp only[vals,BX]at B;obtain⟨x,_,rfl⟩:=B;rfl
open RowKit
theorem GJ:(Tryz.prog.info? 24).map (λi=>(i.zero,i.size,i.bytes))=some (some (.slice none 0 0),1,24):=by kernel_rfl
theorem Rv:(Tryz.prog.info? 3).map (λi=>(i.zero,i.size,i.bytes))=some (some (.int .i64 0),1,8):=by kernel_rfl
theorem Z5:(Tryz.prog.info? 80).map (λi=>(i.zero,i.size,i.bytes))=some (some (.slice none 0 0),1,24):=by kernel_rfl
theorem Gq {w:World}{B B':Nat}{e e':TypeId}{s L:Nat}{u v:Value}{n I:Nat}{F D:List Value}(K:w.ownsRow B e s u n F)(N:w.ownsRow B' e' L v I D)(J:e≠e'):u.ownBlock=none\/u.ownBlock≠v.ownBlock:=by
 rcases K.2 with⟨rfl,_⟩|⟨g,cap,R,rfl,_,hg,_⟩
 .exact .inl rfl
 .refine .inr λh=>?_;rcases N.2 with⟨rfl,_⟩|⟨S,Q,O,rfl,_,C,_⟩
  .simp[Value.ownBlock]at h
  .simp[Value.ownBlock]at h;subst h;rw[hg]at C;simp at C;exact J C.2
theorem Aw {w w':World}{B:Nat}{e:TypeId}{s n:Nat}{v:Value}{C:List Value}{S:Nat->Prop}(h:w.ownsRow B e s v n C)(I:Keep S w w')(K:∀k,B<=k->S k):w'.ownsRow B e s v n C:=by
 refine⟨h.1,?_⟩;rcases h.2 with J|⟨g,cap,L,rfl,D,F,rest⟩
 .exact .inl J
 .exact .inr ⟨g,cap,L,rfl,D,by rw[I.block g (K g D) (Bt.1 F).1];exact F,rest⟩
theorem Gp {w:World}{B B':Nat}{e:TypeId}{s n:Nat}{v:Value}{C:List Value}(h:w.ownsRow B e s v n C)(I:B'<=B):w.ownsRow B' e s v n C:=by
 refine⟨h.1,?_⟩;rcases h.2 with F|⟨g,cap,J,rfl,D,rest⟩
 .exact .inl F
 .exact .inr ⟨g,cap,J,rfl,Ae I D,rest⟩
def CZ (e:TypeId)(B:Nat)(w:World)(u:Value)(r:List Nat):Prop:=(∃g c,u= .slice (some ⟨g,0,none⟩) r.length c)/\w.ownsRow B e 1 u r.length (vals (ints r))
def Own2 (e2 e:TypeId)(B:Nat)(w:World)(v:Value)(rows:List (List Nat)):Prop:=
 ∃us:List Value,w.ownsRow B e2 1 v rows.length us/\us.length=rows.length/\∀(i:Nat) (r:List Nat) (u:Value),rows[i]?=some r->us[i]?=some u->CZ e B w u r
theorem Own2.nil (e2 e:TypeId)(B:Nat)(w:World):Own2 e2 e B w (.slice none 0 0) []:=⟨[],FY _ _ _ _,rfl,by simp⟩
theorem CZ.keep {e:TypeId}{B:Nat}{S:Nat->Prop}{w w':World}{u:Value}{r:List Nat}(h:CZ e B w u r)(D:Keep S w w')(C:∀k,B<=k->S k):CZ e B w' u r:=⟨h.1,Aw h.2 D C⟩
theorem Own2.keep {e2 e:TypeId}{B:Nat}{S:Nat->Prop}{w w':World}{v:Value}{rows:List (List Nat)}(h:Own2 e2 e B w v rows)(C:Keep S w w')(D:∀k,B<=k->S k):Own2 e2 e B w' v rows:=by
 obtain⟨us,I,J,K⟩:=h;exact⟨us,Aw I C D,J,λi r u F L=>(K i r u F L).keep C D⟩
theorem Own2.of_below {e2 e:TypeId}{B:Nat}{w w':World}{v:Value}{rows:List (List Nat)}(h:Own2 e2 e B w v rows)(C:Below w.heap.size w w'):Own2 e2 e B w' v rows:=h.keep (S:=λ_=>True) (AO C) (λ_ _=>trivial)
theorem Own2.mono {e2 e:TypeId}{B B':Nat}{w:World}{v:Value}{rows:List (List Nat)}(h:Own2 e2 e B w v rows)(F:B'<=B):Own2 e2 e B' w v rows:=by
 obtain⟨us,J,K,C⟩:=h;exact⟨us,Gp J F,K,λi r u I D=>⟨(C i r u I D).1,Gp (C i r u I D).2 F⟩⟩
theorem Own2.push {e2 e:TypeId}(R:e≠e2){B n:Nat}{w w':World}{v K u:Value}{rows:List (List Nat)}{r:List Nat}{us:List Value}(S:rows.length=n)
  (Q:w.ownsRow B e2 1 v n us) (J:us.length=rows.length) (U:∀(i:Nat) (r:List Nat) (u:Value),rows[i]?=some r->us[i]?=some u->CZ e B w u r)
  (V:CZ e B w u r) (O:w'.ownsRow B e2 1 K (n+1) (us++[u])) (hg:w.grownBy w' v.ownBlock):Own2 e2 e B w' K (rows++[r]):=by
 subst S;refine⟨us++[u],by simpa using O,by simp[J],λi L I C D=>?_⟩;have F:CZ e B w I L:=by
  rcases CU i rows.length with hi|hi
  .rw[DK hi]at C;rw[DK (by omega)]at D;exact U i L I C D
  .rw[DC hi]at C;rw[DC (by omega)]at D;rw[J]at D;rcases N:i-rows.length with _|j
   .rw[N]at C D;simp at C D;subst C;subst D;exact V
   .rw[N]at C;simp at C
 exact⟨F.1,JB F.2 hg (Gq F.2 Q R)⟩
theorem CZ.sl {e:TypeId}{B:Nat}{w:World}{u:Value}{r:List Nat}(h:CZ e B w u r):AP (λk=>B<=k) w u (ints r):=by
 obtain⟨⟨g,c,rfl⟩,C⟩:=h;rcases C.2 with⟨h,_⟩|⟨K,cap,Q,h,D,J,I,L,N,O⟩
 .simp at h
 .obtain⟨rfl,rfl⟩:g=K/\c=cap:=by simpa using h
  refine⟨some ⟨g,0,none⟩,c,by rw[BK],by rw[BK];exact I,L,by simp,λi x F=>?_⟩;refine⟨g,0,rfl,D,(Bt.1 J).1,.int .i64 x,?_,rfl⟩;have:=World.ownsRow.cells C (g:=g) rfl i (.int .i64 x) (by simp only[vals,Bh,F];rfl);rwa[addr_add]at this
theorem Own2.at {e2 e:TypeId}{B:Nat}{w:World}{v:Value}{rows:List (List Nat)}(h:Own2 e2 e B w v rows){i:Nat}{r:List Nat}(C:rows[i]?=some r):
  ∃g cap u,v= .slice (some ⟨g,0,none⟩) rows.length cap/\B<=g/\g<w.heap.size/\w.cell? ⟨g,i,none⟩=some u/\CZ e B w u r:=by
 obtain⟨us,D,N,K⟩:=h;have O:=(Ak.1 C).1;rcases D.2 with⟨rfl,J⟩|⟨g,cap,U,rfl,I,L,J,Q,R,S⟩
 .omega
 .obtain⟨u,F⟩:∃u,us[i]?=some u:=⟨_,AU (by omega)⟩;refine⟨g,cap,u,rfl,I,(Bt.1 L).1,?_,K i r u C F⟩;have:=World.ownsRow.cells D (g:=g) rfl i u F;rw[addr_add,CK]at this;exact this
theorem Own2.form {e2 e:TypeId}{B:Nat}{w:World}{v:Value}{rows:List (List Nat)}(h:Own2 e2 e B w v rows):∃a cap,v= .slice a rows.length cap/\rows.length<=cap/\cap<=maxLen:=by
 obtain⟨us,D,J,K⟩:=h;rcases D.2 with⟨rfl,C⟩|⟨g,cap,Q,rfl,I,L,C,F,N,O⟩
 .exact⟨none,0,by rw[C],by omega,by simp⟩
 .exact⟨_,cap,rfl,C,F⟩
theorem Own2.sl {e2 e:TypeId}{B:Nat}{w:World}{v:Value}{rows:List (List Nat)}(h:Own2 e2 e B w v rows):AQ (λk=>B<=k) w v (rows.map ints):=by
 obtain⟨a,cap,rfl,K,L⟩:=h.form;refine⟨a,cap,by simp,by simpa using K,L,λha=>?_,λi r D=>?_⟩
 .subst ha;rcases h.choose_spec.1.2 with⟨C,_⟩|⟨g,F,R,C,_⟩
  .simp at C;exact C.2
  .simp at C
 .simp only[Bh,Hg]at D;obtain⟨Q,N,rfl⟩:=D;obtain⟨g,F,u,C,I,hg,J,O⟩:=h.at N;obtain⟨rfl,_,rfl⟩:a=some ⟨g,0,none⟩/\True/\cap=F:=by simpa using C
  exact⟨g,0,rfl,I,hg,u,by rw[CK];exact J,O.sl⟩
theorem CX.row {x:List Nat}{B:Nat}{w:World}{g c:Nat}(h:Own B w (.slice (some ⟨g,0,none⟩) (ints x).length c) (ints x)):CZ 2 B w (.slice (some ⟨g,0,none⟩) (ints x).length c) x:=by
 rw[BK]at h ⊢;refine⟨⟨g,c,rfl⟩,?_⟩;have:=h;unfold Own at this;rwa[BK]at this
def Mv (e2 e:TypeId)(rows:List (List Nat))(w:World)(e':Ending)(w':World):Prop:=∃v,e'= .returned v/\Own2 e2 e w.heap.size w' v rows/\Below w.heap.size w w'
end Go.Proofs.YtgjadpmbnejaoaaGreat
