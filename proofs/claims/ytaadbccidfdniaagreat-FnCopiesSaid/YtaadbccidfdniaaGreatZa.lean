import Derived.Test.YtaadbccidfdniaaGreatZ0
import Derived.WalkKit
import Derived.Below
import Derived.Laws.OwnMore
import Derived.Lib.Hide
/-
  Lemmas for the law FnCopies, in short spelling.
-/
open Go.Lib (hid)
set_option linter.unusedVariables false
set_option linter.unusedSimpArgs false
set_option maxRecDepth 100000
set_option maxHeartbeats 40000000
namespace Go.Proofs.YtaadbccidfdniaaGreat.AB
structure Lv where
 o:Nat
 w:List Nat
 c:List (List Nat)
abbrev Tw:=List Lv
def El:Tw→List Nat→Prop
 |[],[]=>True
 |L::T,a::x=>a<L.o∧El T x
 |_,_=>False
def Wf:Tw→Prop
 |[]=>True
 |L::T=>2≤L.o∧El T L.w∧L.c.length=T.length∧(∀y∈L.c,El T y)∧Wf T
def one (T:Tw):List Nat:=List.replicate T.length 0
def it {α:Type}(f:α→α):Nat→α→α
 |0,x=>x
 |k+1,x=>it f k (f x)
def BX {α:Type}(m:α→α→α):α→List α→List Nat→α
 |u,c::cs,a::x=>BX m (it (fun z=>m z c) a u) cs x
 |u,_,_=>u
def mul:Tw→List Nat→List Nat→List Nat
 |[],_,_=>[]
 |L::T,a::x,b::y=>
  if L.o≤a+b then(a+b-L.o)::mul T L.w (mul T (it (fun z=>BX (mul T) (one T) L.c z) b x) y)
  else(a+b)::mul T (it (fun z=>BX (mul T) (one T) L.c z) b x) y
 |_,_,_=>[]
def img (T:Tw)(c:List (List Nat))(z:List Nat):List Nat:=BX (mul T) (one T) c z
theorem JN (L:Lv)(T:Tw)(a b:Nat)(x y:List Nat):mul (L::T) (a::x) (b::y)=
  if L.o≤a+b then(a+b-L.o)::mul T L.w (mul T (it (img T L.c) b x) y)else(a+b)::mul T (it (img T L.c) b x) y:=rfl
theorem GK {α:Type}(f:α→α)(k:Nat)(x:α):it f (k+1) x=f (it f k x):=by
 induction k generalizing x with
 |zero=>rfl
 |succ k ih=>rw[it,ih,it]
theorem rC {α:Type}(f:α→α)(a b:Nat)(x:α):it f (a+b) x=it f a (it f b x):=by
 induction a with
 |zero=>simp[it]
 |succ a ih=>rw[Nat.succ_add,GK,ih,GK]
theorem JP {α:Type}(M:α→Prop)(f:α→α)(hf:∀x,M x→M (f x))(k:Nat)(x:α)(hx:M x):M (it f k x):=by
 induction k generalizing x with
 |zero=>exact hx
 |succ k ih=>exact ih _ (hf _ hx)
theorem AZ {T:Tw}{x:List Nat}(h:El T x):x.length=T.length:=by
 induction T generalizing x with
 |nil=>cases x with
  |nil=>rfl
  |cons a x=>exact absurd h (by simp[El])
 |cons L T ih=>cases x with
  |nil=>exact absurd h (by simp[El])
  |cons a x=>simp[ih h.2]
theorem D5 {T:Tw}(h:Wf T):El T (one T):=by
 induction T with
 |nil=>trivial
 |cons L T ih=>exact⟨by have:=h.1;omega,ih h.2.2.2.2⟩
theorem Sq {α:Type}(M:α→Prop)(m:α→α→α)(hm:∀x y,M x→M y→M (m x y))(cs:List α)(hc:∀c∈cs,M c)(x:List Nat)(u:α)(hu:M u):M (BX m u cs x):=by
 induction cs generalizing u x with
 |nil=>cases x<;>exact hu
 |cons c cs ih=>cases x with
  |nil=>exact hu
  |cons a x=>exact ih (fun d hd=>hc d (Dj _ hd)) x _ (JP M _ (fun z hz=>hm _ _ hz (hc c DJ)) a u hu)
theorem C8 {T:Tw}(h:Wf T){x y:List Nat}(hx:El T x)(hy:El T y):El T (mul T x y):=by
 induction T generalizing x y with
 |nil=>trivial
 |cons L T ih=>cases x with
  |nil=>exact absurd hx (by simp[El])
  |cons a x=>cases y with
   |nil=>exact absurd hy (by simp[El])
   |cons b y=>
    obtain⟨h1,h2,h3,h4,h5⟩:=h;have hi:∀z,El T z→El T (img T L.c z):=fun z _=>Sq (El T) _ (fun _ _ p q=>ih h5 p q) _ h4 z _ (D5 h5);have hz:=JP (El T) _ hi b x hx.2;have hr:=ih h5 hz hy.2;rw[JN];have ha:=hx.1;have hb:=hy.1;split
    ·exact⟨by omega,ih h5 h2 hr⟩
    ·exact⟨by omega,hr⟩
theorem Pk {T:Tw}(h:Wf T){c:List (List Nat)}(hc:∀y∈c,El T y)(z:List Nat):El T (img T c z):=
 Sq (El T) _ (fun _ _ p q=>C8 h p q) _ hc z _ (D5 h)
structure CV {α:Type}(M:α→Prop)(m:α→α→α)(e:α):Prop where
 cl:∀{a b},M a→M b→M (m a b)
 me:M e
 Am:∀{a b c},M a→M b→M c→m (m a b) c=m a (m b c)
 eL:∀{a},M a→m e a=a
 eR:∀{a},M a→m a e=a
 iv:∀{a},M a→∃b,M b∧m a b=e∧m b a=e
theorem CV.Ob {α:Type}{M:α→Prop}{m:α→α→α}{e:α}(G:CV M m e){a b c:α}(ha:M a)(hb:M b)(hc:M c)(h:m a b=m a c):b=c:=by
 obtain⟨d,hd,_,h2⟩:=G.iv ha;have:=BM (m d) h;rwa[←G.Am hd ha hb,←G.Am hd ha hc,h2,G.eL hb,G.eL hc]at this
theorem CV.qN {α:Type}{M:α→Prop}{m:α→α→α}{e:α}(G:CV M m e){a b c:α}(ha:M a)(hb:M b)(hc:M c)(h:m b a=m c a):b=c:=by
 obtain⟨d,hd,h1,_⟩:=G.iv ha;have:=BM (fun z=>m z d) h;simp only[G.Am hb ha hd,G.Am hc ha hd,h1,G.eR hb,G.eR hc]at this;exact this
def npow {α:Type}(m:α→α→α)(e:α)(x:α)(k:Nat):α:=it (fun z=>m z x) k e
theorem JL {α:Type}(m:α→α→α)(e x:α):npow m e x 0=e:=rfl
theorem Dz {α:Type}(m:α→α→α)(e x:α)(k:Nat):npow m e x (k+1)=m (npow m e x k) x:=GK _ _ _
theorem CV.npow {α:Type}{M:α→Prop}{m:α→α→α}{e:α}(G:CV M m e){x:α}(hx:M x)(k:Nat):M (npow m e x k):=
 JP M _ (fun _ hz=>G.cl hz hx) k e G.me
theorem CV.rD {α:Type}{M:α→Prop}{m:α→α→α}{e:α}(G:CV M m e){x u:α}(hx:M x)(hu:M u)(k:Nat):it (fun z=>m z x) k u=m u (AB.npow m e x k):=by
 induction k with
 |zero=>exact(G.eR hu).symm
 |succ k ih=>rw[GK,ih,Dz,G.Am hu (G.npow hx k) hx]
theorem CV.NV {α:Type}{M:α→Prop}{m:α→α→α}{e:α}(G:CV M m e){x:α}(hx:M x)(j k:Nat):AB.npow m e x (j+k)=m (AB.npow m e x j) (AB.npow m e x k):=by
 rw[←G.rD hx (G.npow hx j),Ki,AB.npow,rC];rfl
theorem CV.Oa {α:Type}{M:α→Prop}{m:α→α→α}{e:α}(G:CV M m e){x:α}(hx:M x):AB.npow m e x 1=x:=G.eL hx
def ev {α:Type}(m:α→α→α)(e:α):List α→List Nat→α
 |c::cs,a::x=>m (npow m e c a) (ev m e cs x)
 |_,_=>e
theorem CV.ev {α:Type}{M:α→Prop}{m:α→α→α}{e:α}(G:CV M m e){cs:List α}(hc:∀c∈cs,M c)(x:List Nat):M (ev m e cs x):=by
 induction cs generalizing x with
 |nil=>cases x<;>exact G.me
 |cons c cs ih=>cases x with
  |nil=>exact G.me
  |cons a x=>exact G.cl (G.npow (hc c DJ) a) (ih (fun d hd=>hc d (Dj _ hd)) x)
theorem CV.BX {α:Type}{M:α→Prop}{m:α→α→α}{e:α}(G:CV M m e){cs:List α}(hc:∀c∈cs,M c)(x:List Nat){u:α}(hu:M u):BX m u cs x=m u (AB.ev m e cs x):=by
 induction cs generalizing x u with
 |nil=>cases x<;>exact(G.eR hu).symm
 |cons c cs ih=>cases x with
  |nil=>exact(G.eR hu).symm
  |cons a x=>
   have h1:=hc c DJ;have h2:∀d∈cs,M d:=fun d hd=>hc d (Dj _ hd);rw[AB.BX,ih h2 x (JP M _ (fun _ hz=>G.cl hz h1) a u hu),G.rD h1 hu,AB.ev,G.Am hu (G.npow h1 a) (G.ev h2 x)]
theorem CV.Pg {α:Type}{M:α→Prop}{m:α→α→α}{e:α}(G:CV M m e){cs:List α}(hc:∀c∈cs,M c)(x:List Nat):AB.BX m e cs x=AB.ev m e cs x:=by
 rw[G.BX hc x G.me,G.eL (G.ev hc x)]
def Rel {α:Type}(m:α→α→α)(e:α):Tw→List α→Prop
 |[],[]=>True
 |L::T,c0::cs=>npow m e c0 L.o=ev m e cs L.w∧(∀j,(h:j<cs.length)→(h':j<L.c.length)→m cs[j] c0=m c0 (ev m e cs L.c[j]))∧Rel m e T cs
 |_,_=>False
theorem Xt {α:Type}{m:α→α→α}{e:α}{T:Tw}{cs:List α}(h:Rel m e T cs):cs.length=T.length:=by
 induction T generalizing cs with
 |nil=>cases cs with
  |nil=>rfl
  |cons c cs=>exact absurd h (by simp[Rel])
 |cons L T ih=>cases cs with
  |nil=>exact absurd h (by simp[Rel])
  |cons c cs=>simp[ih h.2.2]
theorem CV.ABz {α:Type}{M:α→Prop}{m:α→α→α}{e:α}(G:CV M m e){c:α}(hc:M c){es fs:List α}(he:∀d∈es,M d)(hf:∀d∈fs,M d)(hl:es.length=fs.length)
  (h:∀j,(h:j<es.length)→(h':j<fs.length)→m es[j] c=m c fs[j]) (z:List Nat):m (AB.ev m e es z) c=m c (AB.ev m e fs z):=by
 induction es generalizing fs z with
 |nil=>
  obtain rfl:fs=[]:=by cases fs with
   |nil=>rfl
   |cons _ _=>simp at hl
  cases z<;>exact(G.eL hc).trans (G.eR hc).symm
 |cons d es ih=>cases fs with
  |nil=>simp at hl
  |cons f fs=>cases z with
   |nil=>exact(G.eL hc).trans (G.eR hc).symm
   |cons a z=>
    have d1:=he d DJ;have f1:=hf f DJ;have d2:∀x∈es,M x:=fun x hx=>he x (Dj _ hx);have f2:∀x∈fs,M x:=fun x hx=>hf x (Dj _ hx);have h0:m d c=m c f:=h 0 (by simp) (by simp);have hp:∀k,m (AB.npow m e d k) c=m c (AB.npow m e f k):=fun k=>by
     induction k with
     |zero=>exact(G.eL hc).trans (G.eR hc).symm
     |succ k ihk=>rw[Dz,Dz,G.Am (G.npow d1 k) d1 hc,h0,←G.Am (G.npow d1 k) hc f1,ihk,G.Am hc (G.npow f1 k) f1]
    have hi:=ih d2 f2 (by simpa using hl) (fun j p q=>h (j+1) (by simp;omega) (by simp;omega)) z;rw[AB.ev,AB.ev,G.Am (G.npow d1 a) (G.ev d2 z) hc,hi,←G.Am (G.npow d1 a) hc (G.ev f2 z),hp,G.Am hc (G.npow f1 a) (G.ev f2 z)]
theorem CV.Rh {α:Type}{M:α→Prop}{m:α→α→α}{e:α}(G:CV M m e){T:Tw}(hT:Wf T){cs:List α}(hc:∀c∈cs,M c)(hR:Rel m e T cs){x y:List Nat}(hx:El T x)(hy:El T y):
  AB.ev m e cs (mul T x y)=m (AB.ev m e cs x) (AB.ev m e cs y):=by
 induction T generalizing cs x y with
 |nil=>cases cs with
  |nil=>exact(G.eL G.me).symm
  |cons c cs=>exact absurd hR (by simp[Rel])
 |cons L T ih=>cases cs with
  |nil=>exact absurd hR (by simp[Rel])
  |cons c cs=>cases x with
   |nil=>exact absurd hx (by simp[El])
   |cons a x=>cases y with
    |nil=>exact absurd hy (by simp[El])
    |cons b y=>
     obtain⟨h1,h2,h3,h4,h5⟩:=hT;obtain⟨r1,r2,r3⟩:=hR;have c1:=hc c DJ;have c2:∀d∈cs,M d:=fun d hd=>hc d (Dj _ hd);have hcl:=Xt r3;have IH:∀{x y:List Nat},El T x→El T y→AB.ev m e cs (mul T x y)=m (AB.ev m e cs x) (AB.ev m e cs y):=fun p q=>ih h5 c2 r3 p q;have hone:AB.ev m e cs (one T)=e:=by
      have:∀(cs:List α) n,AB.ev m e cs (List.replicate n 0)=e:=by
       intro cs
       induction cs with
       |nil=>intro n;cases n<;>rfl
       |cons d ds UJ=>intro n;cases n with
        |zero=>rfl
        |succ n=>exact(BM (m _) (UJ n)).trans (by rw[JL,G.eL G.me])
      exact this cs _
     have A:∀(ds:List (List Nat)),(∀d∈ds,El T d)→∀(z:List Nat) (u:List Nat),El T u→AB.ev m e cs (AB.BX (mul T) u ds z)=m (AB.ev m e cs u) (AB.ev m e (ds.map (AB.ev m e cs)) z):=by
      intro ds
      induction ds with
      |nil=>intro _ z u hu;cases z<;>exact(G.eR (G.ev c2 u)).symm
      |cons d ds UJ=>intro hd z u hu;cases z with
       |nil=>exact(G.eR (G.ev c2 u)).symm
       |cons a z=>
        have hd1:=hd d DJ;have hd2:∀x∈ds,El T x:=fun x hx=>hd x (Dj _ hx);have hit:∀k,El T (it (fun z=>mul T z d) k u):=fun k=>JP (El T) _ (fun z hz=>C8 h5 hz hd1) k u hu;have hk:∀k,AB.ev m e cs (it (fun z=>mul T z d) k u)=m (AB.ev m e cs u) (AB.npow m e (AB.ev m e cs d) k):=fun k=>by
         induction k with
         |zero=>exact(G.eR (G.ev c2 u)).symm
         |succ k ihk=>rw[GK,IH (hit k) hd1,ihk,Dz,G.Am (G.ev c2 u) (G.npow (G.ev c2 d) k) (G.ev c2 d)]
        rw[AB.BX,UJ hd2 z _ (hit a),hk a,GZ,AB.ev,G.Am (G.ev c2 u) (G.npow (G.ev c2 d) a) (G.ev (by intro x hx;obtain⟨q,_,rfl⟩:=Cy.1 hx;exact G.ev c2 q) z)]
     have hmap:∀d∈L.c.map (AB.ev m e cs),M d:=by intro x hx;obtain⟨q,_,rfl⟩:=Cy.1 hx;exact G.ev c2 q
     have B:∀z,El T z→m (AB.ev m e cs z) c=m c (AB.ev m e cs (img T L.c z)):=fun z hz=>by
      rw[img,A L.c h4 z _ (D5 h5),hone,G.eL (G.ev hmap z)];exact G.ABz c1 c2 hmap (by simp[hcl,h3]) (fun j p q=>by
       have:=r2 j p (by simpa using q);simpa using this) z
     have hI:∀k z,El T z→El T (it (img T L.c) k z):=fun k z hz=>JP (El T) _ (fun y _=>Pk h5 h4 y) k z hz;have D:∀k z,El T z→m (AB.ev m e cs z) (AB.npow m e c k)=m (AB.npow m e c k) (AB.ev m e cs (it (img T L.c) k z)):=by
      intro k
      induction k with
      |zero=>intro z hz;exact(G.eR (G.ev c2 z)).trans (G.eL (G.ev c2 _)).symm
      |succ k ihk=>
       intro z hz;rw[Dz,←G.Am (G.ev c2 z) (G.npow c1 k) c1,ihk z hz,G.Am (G.npow c1 k) (G.ev c2 _) c1,B _ (hI k z hz),←GK (img T L.c),G.Am (G.npow c1 k) c1 (G.ev c2 _)]
     have hxi:=hI b x hx.2;have hr:=C8 h5 hxi hy.2;have E:m (AB.ev m e (c::cs) (a::x)) (AB.ev m e (c::cs) (b::y))=m (AB.npow m e c (a+b)) (AB.ev m e cs (mul T (it (img T L.c) b x) y)):=by
      rw[AB.ev,AB.ev,G.Am (G.npow c1 a) (G.ev c2 x) (G.cl (G.npow c1 b) (G.ev c2 y)),←G.Am (G.ev c2 x) (G.npow c1 b) (G.ev c2 y),D b x hx.2,
       G.Am (G.npow c1 b) (G.ev c2 _) (G.ev c2 y),←IH hxi hy.2,←G.Am (G.npow c1 a) (G.npow c1 b) (G.ev c2 _),←G.NV c1]
     rw[E,JN];split
     ·next hle=>
      rw[AB.ev,IH h2 hr,←r1,←G.Am (G.npow c1 _) (G.npow c1 _) (G.ev c2 _),←G.NV c1,Nat.sub_add_cancel hle]
     ·rfl
def unit (T:Tw)(j:Nat):List Nat:=(one T).set j 1
theorem ABH (L:Lv)(T:Tw):one (L::T)=0::one T:=rfl
theorem Xv (L:Lv)(T:Tw):unit (L::T) 0=1::one T:=rfl
theorem eF (L:Lv)(T:Tw)(j:Nat):unit (L::T) (j+1)=0::unit T j:=rfl
theorem MV {T:Tw}(h:Wf T)(j:Nat):El T (unit T j):=by
 induction T generalizing j with
 |nil=>exact D5 h
 |cons L T ih=>cases j with
  |zero=>exact⟨by have:=h.1;omega,D5 h.2.2.2.2⟩
  |succ j=>exact⟨by have:=h.1;omega,ih h.2.2.2.2 j⟩
def Good:Tw→Prop
 |[]=>True
 |L::T=>Good T∧Rel (mul T) (one T) T L.c∧img T L.c L.w=L.w∧∀j<T.length,mul T L.w (it (img T L.c) L.o (unit T j))=mul T (unit T j) L.w
def Eh (T:Tw):List (List Nat):=(List.range T.length).map (unit T)
theorem AAo (L:Lv)(T:Tw):Eh (L::T)=unit (L::T) 0::(Eh T).map (0:: ·):=by
 simp[Eh,List.range_succ_eq_map,List.map_map,Function.comp_def,eF]
theorem MX {α β:Type}{M:α→Prop}{m:α→α→α}{e:α}{m':β→β→β}{e':β}(G:CV M m e)(f:α→β)(he:f e=e')(hf:∀a b,M a→M b→f (m a b)=m' (f a) (f b)){cs:List α}(hc:∀c∈cs,M c)(x:List Nat):
  f (ev m e cs x)=ev m' e' (cs.map f) x:=by
 induction cs generalizing x with
 |nil=>cases x<;>exact he
 |cons c cs ih=>cases x with
  |nil=>exact he
  |cons a x=>
   have c1:=hc c DJ;have c2:∀d∈cs,M d:=fun d hd=>hc d (Dj _ hd);have hp:∀k,f (npow m e c k)=npow m' e' (f c) k:=fun k=>by
    induction k with
    |zero=>exact he
    |succ k ihk=>rw[Dz,hf _ _ (G.npow c1 k) c1,ihk,Dz]
   rw[ev,hf _ _ (G.npow c1 a) (G.ev c2 x),hp,ih c2 x];rfl
theorem ABJ {T:Tw}(h:Wf T)(hg:Good T):CV (El T) (mul T) (one T)∧∀x,El T x→ev (mul T) (one T) (Eh T) x=x:=by
 induction T with
 |nil=>
  have h0:∀{x},El [] x→x=[]:=by intro x hx;cases x with
   |nil=>rfl
   |cons a x=>exact absurd hx (by simp[El])
  refine⟨⟨fun _ _=>trivial,trivial,fun _ _ _=>rfl,fun ha=>(h0 ha).symm,fun ha=>(h0 ha).symm,fun ha=>⟨[],trivial,rfl,rfl⟩⟩,fun x hx=>?_⟩;rw[h0 hx];rfl
 |cons L T ih=>
  obtain⟨h1,h2,h3,h4,h5⟩:=h;obtain⟨g0,g1,g2,g3⟩:=hg;obtain⟨G,U⟩:=ih h5 g0;have hw:Wf (L::T):=⟨h1,h2,h3,h4,h5⟩;have ie:∀z,img T L.c z=ev (mul T) (one T) L.c z:=fun z=>G.Pg h4 z;have iE:∀z,El T (img T L.c z):=fun z=>Pk h5 h4 z;have im:∀y z,El T y→El T z→img T L.c (mul T y z)=mul T (img T L.c y) (img T L.c z):=fun y z hy hz=>by
   rw[ie,ie,ie];exact G.Rh h5 h4 g1 hy hz
  have kE:∀k z,El T z→El T (it (img T L.c) k z):=fun k z hz=>JP (El T) _ (fun y _=>iE y) k z hz;have km:∀k y z,El T y→El T z→it (img T L.c) k (mul T y z)=mul T (it (img T L.c) k y) (it (img T L.c) k z):=fun k=>by
   induction k with
   |zero=>intro y z _ _;rfl
   |succ k ihk=>intro y z hy hz;rw[GK,ihk y z hy hz,im _ _ (kE k y hy) (kE k z hz),←GK (img T L.c),←GK (img T L.c)]
  have i1:img T L.c (one T)=one T:=by
   have:=im _ _ G.me G.me;rw[G.eL G.me]at this;exact G.Ob (iE _) (iE _) G.me (this.symm.trans (G.eR (iE _)).symm)
  have k1:∀k,it (img T L.c) k (one T)=one T:=fun k=>by
   induction k with
   |zero=>rfl
   |succ k ihk=>rw[GK,ihk,i1]
  have kw:∀k,it (img T L.c) k L.w=L.w:=fun k=>by
   induction k with
   |zero=>rfl
   |succ k ihk=>rw[GK,ihk,g2]
  have eZ:∀c∈Eh T,El T c:=by intro c hc;obtain⟨j,_,rfl⟩:=Cy.1 hc;exact MV h5 j
  have inner:∀z,El T z→mul T L.w (it (img T L.c) L.o z)=mul T z L.w:=fun z hz=>by
   have e1:it (img T L.c) L.o z=ev (mul T) (one T) ((Eh T).map (it (img T L.c) L.o)) z:=by
    conv=>lhs;rw[←U z hz]
    exact MX G _ (k1 _) (fun a b ha hb=>km _ a b ha hb) eZ z
   have e2:=G.ABz h2 (es:=Eh T) (fs:=(Eh T).map (it (img T L.c) L.o)) eZ (by intro d hd;obtain⟨q,hq,rfl⟩:=Cy.1 hd;exact kE _ q (eZ q hq)) (by simp)
    (fun j p q=>by
     have:=g3 j (by simpa[Eh]using p);simpa[Eh]using this.symm) z
   rw[U z hz,←e1]at e2;exact e2.symm
  let N:Nat→List Nat→List Nat:=fun k z=>(k%L.o)::it (mul T L.w) (k/L.o) z
  have ho:0<L.o:=by omega
  have Nr:∀k z,k<L.o→N k z=k::z:=fun k z hk=>by show _::_=_;rw[Ez hk,Nat.div_eq_of_lt hk];rfl
  have WE:∀k z,L.o≤k→N k z=N (k-L.o) (mul T L.w z):=fun k z hk=>by
   show _::_=_::_;rw[Nat.mod_eq_sub_mod hk,Nat.div_eq_sub_div ho hk];rfl
  have mN:∀a x b y,El (L::T) (a::x)→El (L::T) (b::y)→mul (L::T) (a::x) (b::y)=N (a+b) (mul T (it (img T L.c) b x) y):=fun a x b y hx hy=>by
   have:=hx.1;have:=hy.1;rw[JN];split
   ·next hle=>rw[WE _ _ hle,Nr _ _ (by omega)]
   ·next hle=>rw[Nr _ _ (by omega)]
  have APH:∀k z,El T z→El (L::T) (N k z):=fun k z hz=>⟨Nat.mod_lt _ ho,JP (El T) _ (fun y hy=>G.cl h2 hy) _ z hz⟩;have Nm:∀q k z c y,k/L.o=q→El T z→El (L::T) (c::y)→mul (L::T) (N k z) (c::y)=N (k+c) (mul T (it (img T L.c) c z) y):=fun q=>by
   induction q with
   |zero=>
    intro k z c y hq hz hy;have hk:k<L.o:=by rcases Nat.div_eq_zero_iff.1 hq with h|h<;>omega
    rw[Nr k z hk,mN k z c y ⟨hk,hz⟩ hy]
   |succ q wu=>
    intro k z c y hq hz hy;have hk:L.o≤k:=by
     apply Nat.le_of_not_lt;intro h;rw[Nat.div_eq_of_lt h]at hq;omega
    rw[WE k z hk,wu _ _ _ _ (by rw[Nat.div_eq_sub_div ho hk]at hq;omega) (G.cl h2 hz) hy,WE (k+c) _ (by omega),km c _ _ h2 hz,kw,G.Am h2 (kE c z hz) hy.2,Nat.sub_add_comm hk]
  have mN':∀q k z a x,k/L.o=q→El T z→El (L::T) (a::x)→mul (L::T) (a::x) (N k z)=N (a+k) (mul T (it (img T L.c) k x) z):=fun q=>by
   induction q with
   |zero=>
    intro k z a x hq hz hx;have hk:k<L.o:=by rcases Nat.div_eq_zero_iff.1 hq with h|h<;>omega
    rw[Nr k z hk,mN a x k z hx ⟨hk,hz⟩]
   |succ q wu=>
    intro k z a x hq hz hx;have hk:L.o≤k:=by
     apply Nat.le_of_not_lt;intro h;rw[Nat.div_eq_of_lt h]at hq;omega
    have e1:mul T (it (img T L.c) (k-L.o) x) L.w=mul T L.w (it (img T L.c) k x):=by
     rw[←inner _ (kE _ x hx.2),←rC,Kg hk]
    rw[WE k z hk,wu _ _ _ _ (by rw[Nat.div_eq_sub_div ho hk]at hq;omega) (G.cl h2 hz) hx,WE (a+k) _ (by omega),←G.Am (kE _ x hx.2) h2 hz,e1,G.Am h2 (kE k x hx.2) hz,Nat.add_sub_assoc hk]
  have hEl:∀{x},El (L::T) x→∃a y,x=a::y:=by intro x hx;cases x with
   |nil=>exact absurd hx (by simp[El])
   |cons a y=>exact⟨a,y,rfl⟩
  have Am:∀{a b c},El (L::T) a→El (L::T) b→El (L::T) c→mul (L::T) (mul (L::T) a b) c=mul (L::T) a (mul (L::T) b c):=by
   intro a b c ha hb hc;obtain⟨a,x,rfl⟩:=hEl ha;obtain⟨b,y,rfl⟩:=hEl hb;obtain⟨c,z,rfl⟩:=hEl hc;rw[mN a x b y ha hb,mN b y c z hb hc,Nm _ _ _ _ _ rfl (G.cl (kE b x ha.2) hb.2) hc,mN' _ _ _ _ _ rfl (G.cl (kE c y hb.2) hc.2) ha,km c _ _ (kE b x ha.2) hb.2,←rC,G.Am (kE _ x ha.2) (kE c y hb.2) hc.2,Ki c b,Nat.add_assoc]
  have me:El (L::T) (one (L::T)):=D5 hw;have eL:∀{a},El (L::T) a→mul (L::T) (one (L::T)) a=a:=by
   intro a ha;obtain⟨a,x,rfl⟩:=hEl ha;rw[ABH,mN 0 (one T) a x me ha,k1,G.eL ha.2,Nr _ _ (by have:=ha.1;omega),Cg]
  have eR:∀{a},El (L::T) a→mul (L::T) a (one (L::T))=a:=by
   intro a ha;obtain⟨a,x,rfl⟩:=hEl ha;rw[ABH,mN a x 0 (one T) ha me,it,G.eR ha.2,Nr _ _ (by have:=ha.1;omega),Oc]
  have cl:∀{a b},El (L::T) a→El (L::T) b→El (L::T) (mul (L::T) a b):=fun ha hb=>C8 hw ha hb;have ivR:∀{a},El (L::T) a→∃b,El (L::T) b∧mul (L::T) a b=one (L::T):=by
   intro a ha;obtain⟨a,x,rfl⟩:=hEl ha;by_cases h0:a=0
   ·subst h0;obtain⟨y,hy,e1,_⟩:=G.iv ha.2;refine⟨0::y,⟨ho,hy⟩,?_⟩;rw[mN 0 x 0 y ha ⟨ho,hy⟩,it,e1,Nr _ _ (by omega)];rfl
   ·have hlt:=ha.1;have hx:=kE (L.o-a) x ha.2;obtain⟨y,hy,e1,_⟩:=G.iv (G.cl h2 hx);refine⟨(L.o-a)::y,⟨by omega,hy⟩,?_⟩;rw[mN a x _ y ha ⟨by omega,hy⟩,Kg (by omega),WE _ _ AR,Nr _ _ (by omega),←G.Am h2 hx hy,e1,Nf];rfl
  have iv:∀{a},El (L::T) a→∃b,El (L::T) b∧mul (L::T) a b=one (L::T)∧mul (L::T) b a=one (L::T):=by
   intro a ha;obtain⟨b,hb,e1⟩:=ivR ha;obtain⟨c,hc,e2⟩:=ivR hb;refine⟨b,hb,e1,?_⟩;have:a=c:=by
    rw[←eR ha,←e2,←Am ha hb hc,e1,eL hc]
   rw[this];exact e2
  have G':CV (El (L::T)) (mul (L::T)) (one (L::T)):=⟨cl,me,Am,eL,eR,iv⟩;refine⟨G',fun x hx=>?_⟩;obtain⟨a,x,rfl⟩:=hEl hx;have e0:∀k,k<L.o→npow (mul (L::T)) (one (L::T)) (unit (L::T) 0) k=k::one T:=fun k=>by
   induction k with
   |zero=>intro _;rfl
   |succ k ihk=>
    intro hk;rw[Dz,ihk (by omega),Xv,mN k _ 1 _ ⟨by omega,G.me⟩ ⟨by omega,G.me⟩,k1,G.eL G.me,Nr _ _ hk]
  have m0:∀y z,El T y→El T z→mul (L::T) (0::y) (0::z)=0::mul T y z:=fun y z hy hz=>by
   rw[mN 0 y 0 z ⟨ho,hy⟩ ⟨ho,hz⟩,it,Nr _ _ (by omega)]
  rw[AAo,ev,e0 a hx.1,←MX (f:=(0:: ·)) (m':=mul (L::T)) (e':=one (L::T)) G rfl (fun y z hy hz=>(m0 y z hy hz).symm) eZ x,U x hx.2,mN a _ 0 x ⟨hx.1,G.me⟩ ⟨ho,hx.2⟩,it,G.eL hx.2,Oc,Nr _ _ hx.1]
theorem BO {T:Tw}(h:Wf T)(hg:Good T):CV (El T) (mul T) (one T):=(ABJ h hg).1
theorem fU {T:Tw}(h:Wf T)(hg:Good T){x:List Nat}(hx:El T x):ev (mul T) (one T) (Eh T) x=x:=(ABJ h hg).2 x hx
end Go.Proofs.YtaadbccidfdniaaGreat.AB
namespace Go.Proofs.YtaadbccidfdniaaGreat.AB
instance:Inhabited Lv:=⟨⟨0,[],[]⟩⟩
def pad (s:Nat)(x:List Nat):List Nat:=List.replicate s 0++x
theorem AII (x:List Nat):pad 0 x=x:=rfl
theorem pX (s:Nat)(x:List Nat):pad (s+1) x=0::pad s x:=rfl
theorem Qz (s t:Nat)(x:List Nat):pad s (pad t x)=pad (s+t) x:=by
 simp[pad,←Ih]
theorem Bg (s:Nat)(x:List Nat):(pad s x).length=s+x.length:=by simp[pad]
theorem BJ (s:Nat)(x:List Nat):(pad s x).drop s=x:=by simp[pad]
theorem FK {T:Tw}(h:Wf T)(s:Nat):Wf (T.drop s):=by
 induction s generalizing T with
 |zero=>exact h
 |succ s ih=>cases T with
  |nil=>exact h
  |cons L T=>exact ih h.2.2.2.2
theorem PZ {T:Tw}(h:Good T)(s:Nat):Good (T.drop s):=by
 induction s generalizing T with
 |zero=>exact h
 |succ s ih=>cases T with
  |nil=>exact h
  |cons L T=>exact ih h.1
theorem KY {T:Tw}{x:List Nat}(h:El T x)(s:Nat):El (T.drop s) (x.drop s):=by
 induction s generalizing T x with
 |zero=>exact h
 |succ s ih=>cases T with
  |nil=>cases x with
   |nil=>exact h
   |cons a x=>exact absurd h (by simp[El])
  |cons L T=>cases x with
   |nil=>exact absurd h (by simp[El])
   |cons a x=>exact ih h.2
theorem TD {T:Tw}(h:Wf T)(s:Nat){x:List Nat}(hx:El (T.drop s) x)(hs:s≤T.length):El T (pad s x):=by
 induction s generalizing T with
 |zero=>exact hx
 |succ s ih=>cases T with
  |nil=>simp at hs
  |cons L T=>exact⟨by have:=h.1;omega,ih h.2.2.2.2 hx (by simpa using hs)⟩
theorem YA (T:Tw)(s:Nat)(h:s≤T.length):pad s (AB.one (T.drop s))=AB.one T:=by
 simp[pad,AB.one,Kg h]
theorem fA (T:Tw)(s j:Nat)(h:s≤T.length):pad s (unit (T.drop s) j)=unit T (s+j):=by
 induction s generalizing T with
 |zero=>simp[AII]
 |succ s ih=>cases T with
  |nil=>simp at h
  |cons L T=>
   rw[pX,Nat.succ_add,eF,←ih T (by simpa using h)];rfl
theorem fV {T:Tw}(h:Wf T)(s:Nat){x y:List Nat}(hx:El T x)(hy:El (T.drop s) y)(hs:s≤T.length):mul T x (pad s y)=x.take s++mul (T.drop s) (x.drop s) y:=by
 induction s generalizing T x with
 |zero=>rfl
 |succ s ih=>cases T with
  |nil=>simp at hs
  |cons L T=>cases x with
   |nil=>exact absurd hx (by simp[El])
   |cons a x=>
    have:=hx.1;rw[pX,JN,BD (by omega),it,ih h.2.2.2.2 hx.2 hy (by simpa using hs)];rfl
theorem AIJ {T:Tw}(h:Wf T)(s:Nat){x y:List Nat}(hx:El (T.drop s) x)(hy:El (T.drop s) y)(hs:s≤T.length):mul T (pad s x) (pad s y)=pad s (mul (T.drop s) x y):=by
 rw[fV h s (TD h s hx hs) hy hs,BJ];simp[pad]
theorem o9 {α:Type}(m:α→α→α)(u:α)(cs:List α)(s:Nat)(y:List Nat)(hs:s≤cs.length):BX m u cs (pad s y)=BX m u (cs.drop s) y:=by
 induction s generalizing cs with
 |zero=>rfl
 |succ s ih=>cases cs with
  |nil=>simp at hs
  |cons c cs=>rw[pX,BX,it,ih cs (by simpa using hs)];rfl
theorem AJZ (T:Tw)(c:List (List Nat))(s:Nat)(y:List Nat)(hs:s≤c.length):img T c (pad s y)=BX (mul T) (AB.one T) (c.drop s) y:=o9 _ _ _ _ _ hs
theorem AJa {α:Type}{m:α→α→α}{e:α}{T:Tw}(hT:Wf T){cs:List α}:Rel m e T cs↔cs.length=T.length∧(∀j<T.length,npow m e (cs.getD j e) (T.getD j default).o=ev m e (cs.drop (j+1)) (T.getD j default).w)∧
  (∀j<T.length,∀k,j<k→k<T.length→m (cs.getD k e) (cs.getD j e)=m (cs.getD j e) (ev m e (cs.drop (j+1)) ((T.getD j default).c.getD (k-j-1) []))):=by
 induction T generalizing cs with
 |nil=>cases cs with
  |nil=>exact⟨fun _=>⟨rfl,fun j hj=>absurd hj (CO _),fun j hj=>absurd hj (CO _)⟩,fun _=>trivial⟩
  |cons c cs=>exact⟨fun h=>absurd h (by simp[Rel]),fun h=>absurd h.1 (by simp)⟩
 |cons L T ih=>cases cs with
  |nil=>exact⟨fun h=>absurd h (by simp[Rel]),fun h=>absurd h.1 (by simp)⟩
  |cons c cs=>
   obtain⟨h1,h2,h3,h4,h5⟩:=hT;rw[Rel,ih h5];constructor
   ·rintro⟨a1,a2,b1,b2,b3⟩;refine⟨by simp[b1],fun j hj=>?_,fun j hj k hk hk'=>?_⟩
    ·cases j with
     |zero=>simpa using a1
     |succ j=>simpa using b2 j (by simpa using hj)
    ·cases j with
     |zero=>cases k with
      |zero=>omega
      |succ k=>
       have hk2:k<cs.length:=by simp at hk';omega
       have:=a2 k hk2 (by simp at hk';omega);simpa[BV,AO hk2,AO (show k<L.c.length by simp at hk';omega)]using this
     |succ j=>cases k with
      |zero=>omega
      |succ k=>
       have:=b3 j (by simpa using hj) k (by omega) (by simpa using hk');simpa[Nat.add_sub_add_right,show k+1-(j+1)=k-j by omega]using this
   ·rintro⟨b1,b2,b3⟩;have hl:cs.length=T.length:=by simpa using b1
    refine⟨by simpa using b2 0 (by simp),fun j p q=>?_,hl,fun j hj=>?_,fun j hj k hk hk'=>?_⟩
    ·have:=b3 0 (by simp) (j+1) (by omega) (by simp;omega);simpa[BV,AO p,AO q]using this
    ·simpa using b2 (j+1) (by simpa using hj)
    ·have:=b3 (j+1) (by simpa using hj) (k+1) (by omega) (by simpa using hk');simpa[show k+1-(j+1)-1=k-j-1 by omega]using this
def Gq (L:Lv)(T:Tw):Prop:=Rel (mul T) (AB.one T) T L.c∧img T L.c L.w=L.w∧∀j<T.length,mul T L.w (it (img T L.c) L.o (unit T j))=mul T (unit T j) L.w
theorem AAp (L:Lv)(T:Tw):Good (L::T)↔Good T∧Gq L T:=Iff.rfl
theorem ABK {L:Lv}{T:Tw}(h:Wf (L::T))(hg:Good T):Gq L T↔
  (∀j<T.length,npow (mul T) (AB.one T) (L.c.getD j (AB.one T)) (T.getD j default).o=img T L.c (pad (j+1) (T.getD j default).w))∧
  (∀j<T.length,∀k,j<k→k<T.length→mul T (L.c.getD k (AB.one T)) (L.c.getD j (AB.one T))=mul T (L.c.getD j (AB.one T)) (img T L.c (pad (j+1) ((T.getD j default).c.getD (k-j-1) []))))∧
  img T L.c L.w=L.w∧∀j<T.length,mul T L.w (it (img T L.c) L.o (unit T j))=mul T (unit T j) L.w:=by
 obtain⟨h1,h2,h3,h4,h5⟩:=h;have G:=BO h5 hg;have hp:∀j<T.length,∀y,img T L.c (pad (j+1) y)=ev (mul T) (AB.one T) (L.c.drop (j+1)) y:=fun j hj y=>by
  rw[AJZ T L.c (j+1) y (by omega),G.Pg (fun c hc=>h4 c (KA hc)) y]
 rw[Gq,AJa h5];constructor
 ·rintro⟨⟨_,a1,a2⟩,a3,a4⟩;exact⟨fun j hj=>by rw[hp j hj,a1 j hj],fun j hj k hk hk'=>by rw[hp j hj,a2 j hj k hk hk'],a3,a4⟩
 ·rintro⟨a1,a2,a3,a4⟩;exact⟨⟨h3,fun j hj=>by rw[←hp j hj,a1 j hj],fun j hj k hk hk'=>by rw[←hp j hj,a2 j hj k hk hk']⟩,a3,a4⟩
theorem LP {T:Tw}{x:List Nat}(h:El T x){j a:Nat}(ha:x[j]?=some a):∃L,T[j]?=some L∧a<L.o:=by
 induction T generalizing x j with
 |nil=>cases x with
  |nil=>simp at ha
  |cons b x=>exact absurd h (by simp[El])
 |cons L T ih=>cases x with
  |nil=>exact absurd h (by simp[El])
  |cons b x=>cases j with
   |zero=>simp at ha;subst ha;exact⟨L,rfl,h.1⟩
   |succ j=>simpa using ih h.2 (by simpa using ha)
def Small (T:Tw):Prop:=T.length≤6∧∀L∈T,L.o≤7
theorem Small.lt {T:Tw}(hs:Small T){s:Nat}{x:List Nat}(h:El (T.drop s) (x.drop s)){j a:Nat}(hj:s≤j)(ha:x[j]?=some a):a<7:=by
 obtain⟨L,hL,hlt⟩:=LP h (j:=j-s) (a:=a) (by rw[Ho,Kg hj];exact ha);have:=hs.2 L (KA (Ak hL));omega
def Iq {α:Type}(m:α→α→α)(u d:α)(cs:List α)(y:List Nat)(j k:Nat):α:=it (fun z=>m z (cs.getD j d)) k (BX m u (cs.take j) (y.take j))
theorem Sv {α:Type}(m:α→α→α)(u d:α)(cs:List α)(y:List Nat):Iq m u d cs y 0 0=u:=by cases cs<;>rfl
theorem VO {α:Type}(m:α→α→α)(u d:α)(cs:List α)(y:List Nat)(j k:Nat):Iq m u d cs y j (k+1)=m (Iq m u d cs y j k) (cs.getD j d):=GK _ _ _
theorem AAc {α:Type}(m:α→α→α)(u:α)(cs:List α)(y:List Nat)(j a:Nat)(c:α)(hc:cs[j]?=some c)(hy:y[j]?=some a):BX m u (cs.take (j+1)) (y.take (j+1))=it (fun z=>m z c) a (BX m u (cs.take j) (y.take j)):=by
 induction j generalizing u cs y with
 |zero=>cases cs with
  |nil=>simp at hc
  |cons d cs=>cases y with
   |nil=>simp at hy
   |cons b y=>simp at hc hy;subst hc;subst hy;cases cs<;>rfl
 |succ j ih=>cases cs with
  |nil=>simp at hc
  |cons d cs=>cases y with
   |nil=>simp at hy
   |cons b y=>exact ih _ cs y (by simpa using hc) (by simpa using hy)
theorem VP {α:Type}(m:α→α→α)(u d:α)(cs:List α)(y:List Nat)(j a:Nat)(hj:j<cs.length)(hy:y[j]?=some a):Iq m u d cs y j a=Iq m u d cs y (j+1) 0:=by
 have hc:cs[j]?=some (cs.getD j d):=by rw[BV,AO hj];rfl
 exact(AAc m u cs y j a _ hc hy).symm
theorem VT {α:Type}(m:α→α→α)(u d:α)(cs:List α)(y:List Nat)(j:Nat)(hj:cs.length≤j)(hy:y.length≤j):Iq m u d cs y j 0=BX m u cs y:=by
 show BX m u (cs.take j) (y.take j)=_;rw[P6 hj,P6 hy]
theorem VU {α:Type}(M:α→Prop)(m:α→α→α)(hm:∀x y,M x→M y→M (m x y))(u d:α)(cs:List α)(y:List Nat)(hu:M u)(hd:M d)(hc:∀c∈cs,M c)(j k:Nat):M (Iq m u d cs y j k):=by
 refine JP M _ (fun z hz=>hm _ _ hz ?_) k _ (Sq M m hm _ (fun c h=>hc c (Vo h)) _ _ hu);rw[BV];cases h:cs[j]? with
 |none=>exact hd
 |some c=>exact hc c (Ak h)
theorem CV.AB0 {α:Type}{M:α→Prop}{m:α→α→α}{e:α}(G:CV M m e){b:α}(hb:M b)(h:Nat):AB.npow m e (m b b) h=AB.npow m e b (2*h):=by
 induction h with
 |zero=>rfl
 |succ h ih=>
  rw[Dz,ih,show 2*(h+1)=2*h+1+1 by omega,Dz,Dz,G.Am (G.npow hb _) hb hb]
theorem CV.AAq {α:Type}{M:α→Prop}{m:α→α→α}{e:α}(G:CV M m e){b:α}(hb:M b)(h:Nat):m b (AB.npow m e b h)=AB.npow m e b (h+1):=by
 rw[Ki,G.NV hb 1 h,G.Oa hb]
theorem CV.AIK {α:Type}{M:α→Prop}{m:α→α→α}{e:α}(G:CV M m e){o b:α}(hb:M b){k:Nat}(hk:k%2=0):m o (AB.npow m e b k)=m o (AB.npow m e (m b b) (k/2)):=by
 rw[G.AB0 hb,show 2*(k/2)=k by omega]
theorem CV.AJb {α:Type}{M:α→Prop}{m:α→α→α}{e:α}(G:CV M m e){o b:α}(ho:M o)(hb:M b){k:Nat}(hk:k%2=1):m o (AB.npow m e b k)=m (m o b) (AB.npow m e (m b b) (k/2)):=by
 rw[G.AB0 hb,G.Am ho hb (G.npow hb _),G.AAq hb,show 2*(k/2)+1=k by omega]
end Go.Proofs.YtaadbccidfdniaaGreat.AB
namespace Go.Proofs.YtaadbccidfdniaaGreat
open Go.RowKit AB
structure AA (S:Nat→Prop)(w w':World):Prop where
 size:w.heap.size≤w'.heap.size
 block:∀k,S k→k<w.heap.size→w'.heap[k]?=w.heap[k]?
theorem AA.refl (S:Nat→Prop)(w:World):AA S w w:=⟨Av _,fun _ _ _=>rfl⟩
theorem AA.trans {S:Nat→Prop}{a b c:World}(h:AA S a b)(k:AA S b c):AA S a c:=
 ⟨Ad h.size k.size,fun i hi hs=>(k.block i hi (Ai hs h.size)).trans (h.block i hi hs)⟩
theorem AA.mono {S S':Nat→Prop}{a b:World}(h:AA S a b)(hS:∀k,S' k→S k):AA S' a b:=⟨h.size,fun k hk=>h.block k (hS k hk)⟩
theorem AA.below {B:Nat}{S:Nat→Prop}{a b:World}(h:Below B a b)(hS:∀k,S k→k<a.heap.size→k<B):AA S a b:=⟨h.size,fun k hk hs=>h.block k (hS k hk hs)⟩
theorem AA.of_below {S:Nat→Prop}{a b:World}(h:Below a.heap.size a b):AA S a b:=⟨h.size,fun k hk hs=>h.block k hs⟩
theorem AA.lt {B:Nat}{a b:World}(h:Below B a b):AA (· <B) a b:=⟨h.size,fun k hk hs=>h.block k hk⟩
theorem AA.grown {S:Nat→Prop}{a b:World}{row:Option Nat}(h:a.grownBy b row)(hS:∀k,S k→some k≠row):AA S a b:=⟨h.size,fun k hk hs=>h.block k hs (hS k hk)⟩
theorem AA.alloc {S:Nat→Prop}{a w:World}(h:AA S a w)(o:Obj):AA S a (w.alloc o):=
 h.trans ⟨by simp,fun k _ hs=>E5 _ _ _ hs⟩
theorem AA.drew {S:Nat→Prop}{a w:World}(h:AA S a w):AA S a w.drew:=⟨h.size,h.block⟩
theorem AA.setCell {S:Nat→Prop}{a w:World}(h:AA S a w){p:Addr}(hp:¬S p.block)(u:Value):AA S a (w.setCell p u):=
 h.trans ⟨by simp[World.setCell],fun k hk _=>Below.heap_setCell _ _ _ _ (fun e=>hp (e▸hk))⟩
theorem AA.cell {S:Nat→Prop}{w w':World}(h:AA S w w'){b o:Nat}(hS:S b)(hb:b<w.heap.size):w'.cell? ⟨b,o,none⟩=w.cell? ⟨b,o,none⟩:=
 World.cell?_of_block (w:=w) (h.block b hS hb)
def Aq {α:Type}(E:World→Value→α→Prop)(S:Nat→Prop)(w:World)(v:Value)(l:List α):Prop:=
 ∃ao c,v= .slice ao l.length c∧l.length≤c∧c≤maxLen∧(ao=none→c=0)∧∀i x,l[i]?=some x→∃b o,ao=some ⟨b,o,none⟩∧S b∧b<w.heap.size∧∃u,w.cell? ⟨b,o+i,none⟩=some u∧E w u x
theorem Aq.keep {α:Type}{E:World→Value→α→Prop}{S:Nat→Prop}{w w':World}{v:Value}{l:List α}(h:Aq E S w v l)(hk:AA S w w')(hE:∀u x,E w u x→E w' u x):Aq E S w' v l:=by
 obtain⟨ao,c,h1,h2,h3,h0,h4⟩:=h;refine⟨ao,c,h1,h2,h3,h0,fun i x hx=>?_⟩;obtain⟨b,o,e1,e2,e3,u,e4,e5⟩:=h4 i x hx;exact⟨b,o,e1,e2,Ai e3 hk.size,u,by rw[hk.cell e2 e3];exact e4,hE _ _ e5⟩
theorem Aq.mono {α:Type}{E E':World→Value→α→Prop}{S S':Nat→Prop}{w:World}{v:Value}{l:List α}(h:Aq E S w v l)(hS:∀k,S k→S' k)(hE:∀u x,E w u x→E' w u x):Aq E' S' w v l:=by
 obtain⟨ao,c,h1,h2,h3,h0,h4⟩:=h;refine⟨ao,c,h1,h2,h3,h0,fun i x hx=>?_⟩;obtain⟨b,o,e1,e2,e3,u,e4,e5⟩:=h4 i x hx;exact⟨b,o,e1,hS _ e2,e3,u,e4,hE _ _ e5⟩
def AL (S:Nat→Prop)(w:World)(v:Value)(l:List Int):Prop:=Aq (fun _ u x=>u= .int .i64 x) S w v l
def AP (S:Nat→Prop)(w:World)(v:Value)(l:List (List Int)):Prop:=Aq (fun w u x=>AL S w u x) S w v l
def GA (S:Nat→Prop)(w:World)(v:Value)(l:List (List (List Int))):Prop:=Aq (fun w u x=>AP S w u x) S w v l
theorem AL.keep {S:Nat→Prop}{w w':World}{v:Value}{l:List Int}(h:AL S w v l)(hk:AA S w w'):AL S w' v l:=Aq.keep h hk (fun _ _ e=>e)
theorem AP.keep {S:Nat→Prop}{w w':World}{v:Value}{l:List (List Int)}(h:AP S w v l)(hk:AA S w w'):AP S w' v l:=Aq.keep h hk (fun _ _ e=>AL.keep e hk)
theorem GA.keep {S:Nat→Prop}{w w':World}{v:Value}{l:List (List (List Int))}(h:GA S w v l)(hk:AA S w w'):GA S w' v l:=Aq.keep h hk (fun _ _ e=>AP.keep e hk)
theorem AL.mono {S S':Nat→Prop}{w:World}{v:Value}{l:List Int}(h:AL S w v l)(hS:∀k,S k→S' k):AL S' w v l:=Aq.mono h hS (fun _ _ e=>e)
theorem AP.mono {S S':Nat→Prop}{w:World}{v:Value}{l:List (List Int)}(h:AP S w v l)(hS:∀k,S k→S' k):AP S' w v l:=Aq.mono h hS (fun _ _ e=>AL.mono e hS)
theorem GA.mono {S S':Nat→Prop}{w:World}{v:Value}{l:List (List (List Int))}(h:GA S w v l)(hS:∀k,S k→S' k):GA S' w v l:=Aq.mono h hS (fun _ _ e=>AP.mono e hS)
def ints (l:List Nat):List Int:=l.map Int.ofNat
theorem BL (l:List Nat):(ints l).length=l.length:=by simp[ints]
theorem Fx (l:List Nat)(i:Nat):(ints l)[i]?=(l[i]?).map Int.ofNat:=by simp[ints]
structure Bu where
 os:List Int
 ps:List (List Int)
 cs:List (List (List Int))
structure BC (S:Nat→Prop)(w:World)(vO vP vC:Value)(P:Bu):Prop where
 os:AL S w vO P.os
 ps:AP S w vP P.ps
 cs:GA S w vC P.cs
theorem BC.keep {S:Nat→Prop}{w w':World}{vO vP vC:Value}{P:Bu}(h:BC S w vO vP vC P)(hk:AA S w w'):BC S w' vO vP vC P:=⟨h.os.keep hk,h.ps.keep hk,h.cs.keep hk⟩
theorem BC.mono {S S':Nat→Prop}{w:World}{vO vP vC:Value}{P:Bu}(h:BC S w vO vP vC P)(hS:∀k,S k→S' k):BC S' w vO vP vC P:=⟨h.os.mono hS,h.ps.mono hS,h.cs.mono hS⟩
def BN (S:Nat→Prop)(w:World)(b o:Nat)(P:Bu):Prop:=
 S b∧b<w.heap.size∧∃vO vP vC,w.cell? ⟨b,o,none⟩=some vO∧w.cell? ⟨b,o+1,none⟩=some vP∧w.cell? ⟨b,o+2,none⟩=some vC∧BC S w vO vP vC P
theorem BN.keep {S:Nat→Prop}{w w':World}{b o:Nat}{P:Bu}(h:BN S w b o P)(hk:AA S w w'):BN S w' b o P:=by
 obtain⟨h1,h2,vO,vP,vC,c1,c2,c3,hv⟩:=h;exact⟨h1,Ai h2 hk.size,vO,vP,vC,by rw[hk.cell h1 h2];exact c1,by rw[hk.cell h1 h2];exact c2,by rw[hk.cell h1 h2];exact c3,hv.keep hk⟩
theorem BN.mono {S S':Nat→Prop}{w:World}{b o:Nat}{P:Bu}(h:BN S w b o P)(hS:∀k,S k→S' k):BN S' w b o P:=by
 obtain⟨h1,h2,vO,vP,vC,c1,c2,c3,hv⟩:=h;exact⟨hS _ h1,h2,vO,vP,vC,c1,c2,c3,hv.mono hS⟩
def KE:Nat→Tw→List (List Int)
 |_,[]=>[]
 |s,L::T=>ints (pad (s+1) L.w)::KE (s+1) T
def JY:Nat→Tw→List (List (List Int))
 |_,[]=>[]
 |s,L::T=>L.c.map (fun y=>ints (pad (s+1) y))::JY (s+1) T
def AQ (T:Tw):Bu:=⟨T.map (fun L=>(L.o:Int)),KE 0 T,JY 0 T⟩
theorem AG4 (s:Nat)(T:Tw):(KE s T).length=T.length:=by
 induction T generalizing s with
 |nil=>rfl
 |cons L T ih=>simp[KE,ih]
theorem AAN (s:Nat)(T:Tw):(JY s T).length=T.length:=by
 induction T generalizing s with
 |nil=>rfl
 |cons L T ih=>simp[JY,ih]
theorem ABL (s:Nat)(T:Tw)(j:Nat):(KE s T)[j]?=(T[j]?).map fun L=>ints (pad (s+j+1) L.w):=by
 induction T generalizing s j with
 |nil=>simp[KE]
 |cons L T ih=>cases j with
  |zero=>simp[KE]
  |succ j=>simp only[KE,Bz,ih];rw[show s+1+j+1=s+(j+1)+1 by omega]
theorem ABM (s:Nat)(T:Tw)(j:Nat):(JY s T)[j]?=(T[j]?).map fun L=>L.c.map fun y=>ints (pad (s+j+1) y):=by
 induction T generalizing s j with
 |nil=>simp[JY]
 |cons L T ih=>cases j with
  |zero=>simp[JY]
  |succ j=>simp only[JY,Bz,ih];rw[show s+1+j+1=s+(j+1)+1 by omega]
theorem qQ (T:Tw):(AQ T).os.length=T.length:=by simp[AQ]
theorem qR (T:Tw):(AQ T).ps.length=T.length:=AG4 _ _
theorem AB1 (T:Tw):(AQ T).cs.length=T.length:=AAN _ _
theorem nu (T:Tw)(j:Nat)(L:Lv)(h:T[j]?=some L):(AQ T).os[j]?=some (L.o:Int):=by simp[AQ,h]
theorem AAO (T:Tw)(j:Nat)(L:Lv)(h:T[j]?=some L):(AQ T).ps[j]?=some (ints (pad (j+1) L.w)):=by
 show(KE 0 T)[j]?=_;rw[ABL,h];simp
theorem AAP (T:Tw)(j:Nat)(L:Lv)(h:T[j]?=some L):(AQ T).cs[j]?=some (L.c.map fun y=>ints (pad (j+1) y)):=by
 show(JY 0 T)[j]?=_;rw[ABM,h];simp
theorem BC.open {S:Nat→Prop}{w:World}{vO vP vC:Value}{T:Tw}(h:BC S w vO vP vC (AQ T)):∃aO cO aP cP aC cC,vO= .slice aO T.length cO∧vP= .slice aP T.length cP∧vC= .slice aC T.length cC∧
  T.length≤cO∧T.length≤cP∧T.length≤cC:=by
 obtain⟨aO,cO,e1,l1,_⟩:=h.os;obtain⟨aP,cP,e2,l2,_⟩:=h.ps;obtain⟨aC,cC,e3,l3,_⟩:=h.cs;rw[qQ]at e1 l1;rw[qR]at e2 l2;rw[AB1]at e3 l3;exact⟨aO,cO,aP,cP,aC,cC,e1,e2,e3,l1,l2,l3⟩
theorem BC.ord {S:Nat→Prop}{w:World}{aO:Option Addr}{n cO:Nat}{vP vC:Value}{T:Tw}(h:BC S w (.slice aO n cO) vP vC (AQ T)){j:Nat}{L:Lv}(hL:T[j]?=some L):
  ∃b o,aO=some ⟨b,o,none⟩∧S b∧b<w.heap.size∧w.cell? ⟨b,o+j,none⟩=some (.int .i64 (L.o:Int)):=by
 obtain⟨ao,c,e,_,_,_,hx⟩:=h.os;obtain⟨rfl,_,_⟩:aO=ao∧n=(AQ T).os.length∧cO=c:=by simpa using e
 obtain⟨b,o,e1,e2,e3,u,e4,rfl⟩:=hx j _ (nu T j L hL);exact⟨b,o,e1,e2,e3,e4⟩
theorem BC.pow {S:Nat→Prop}{w:World}{aP:Option Addr}{n cP:Nat}{vO vC:Value}{T:Tw}(h:BC S w vO (.slice aP n cP) vC (AQ T)){j:Nat}{L:Lv}(hL:T[j]?=some L):
  ∃b o u,aP=some ⟨b,o,none⟩∧S b∧b<w.heap.size∧w.cell? ⟨b,o+j,none⟩=some u∧AL S w u (ints (pad (j+1) L.w)):=by
 obtain⟨ao,c,e,_,_,_,hx⟩:=h.ps;obtain⟨rfl,_,_⟩:aP=ao∧n=(AQ T).ps.length∧cP=c:=by simpa using e
 obtain⟨b,o,e1,e2,e3,u,e4,e5⟩:=hx j _ (AAO T j L hL);exact⟨b,o,u,e1,e2,e3,e4,e5⟩
theorem BC.Mt {S:Nat→Prop}{w:World}{aC:Option Addr}{n cC:Nat}{vO vP:Value}{T:Tw}(h:BC S w vO vP (.slice aC n cC) (AQ T)){j:Nat}{L:Lv}(hL:T[j]?=some L):
  ∃b o a2 c2,aC=some ⟨b,o,none⟩∧S b∧b<w.heap.size∧w.cell? ⟨b,o+j,none⟩=some (.slice a2 L.c.length c2)∧L.c.length≤c2∧
   ∀k y,L.c[k]?=some y→∃b2 o2 u,a2=some ⟨b2,o2,none⟩∧S b2∧b2<w.heap.size∧w.cell? ⟨b2,o2+k,none⟩=some u∧AL S w u (ints (pad (j+1) y)):=by
 obtain⟨ao,c,e,_,_,_,hx⟩:=h.cs;obtain⟨rfl,_,_⟩:aC=ao∧n=(AQ T).cs.length∧cC=c:=by simpa using e
 obtain⟨b,o,e1,e2,e3,u,e4,e5⟩:=hx j _ (AAP T j L hL);obtain⟨a2,c2,rfl,l2,_,_,h2⟩:=e5;rw[Bh]at e4 l2;refine⟨b,o,a2,c2,e1,e2,e3,e4,l2,fun k y hy=>?_⟩;obtain⟨b2,o2,f1,f2,f3,u,f4,f5⟩:=h2 k (ints (pad (j+1) y)) (by simp[hy]);exact⟨b2,o2,u,f1,f2,f3,f4,f5⟩
theorem AL.at {S:Nat→Prop}{w:World}{a:Option Addr}{n c:Nat}{x:List Nat}(h:AL S w (.slice a n c) (ints x)){j q:Nat}(hq:x[j]?=some q):
  ∃b o,a=some ⟨b,o,none⟩∧S b∧b<w.heap.size∧w.cell? ⟨b,o+j,none⟩=some (.int .i64 (q:Int)):=by
 obtain⟨ao,c',e,_,_,_,hx⟩:=h;obtain⟨rfl,_,_⟩:a=ao∧n=(ints x).length∧c=c':=by simpa using e
 obtain⟨b,o,e1,e2,e3,u,e4,rfl⟩:=hx j (q:Int) (by rw[Fx,hq];rfl);exact⟨b,o,e1,e2,e3,e4⟩
theorem AL.open {S:Nat→Prop}{w:World}{v:Value}{x:List Nat}(h:AL S w v (ints x)):∃a c,v= .slice a x.length c∧x.length≤c:=by
 obtain⟨a,c,e,l,_⟩:=h;rw[BL]at e l;exact⟨a,c,e,l⟩
end Go.Proofs.YtaadbccidfdniaaGreat
namespace Go.Proofs.YtaadbccidfdniaaGreat
theorem AJ{S:Nat→Prop}{w:World}:AA S w w:=AA.refl _ _
end Go.Proofs.YtaadbccidfdniaaGreat
namespace Go.Proofs.YtaadbccidfdniaaGreat.AB
theorem lvl' {T:Tw}(hT:Wf T){i:Nat}{L:Lv}(hL:T[i]?=some L):Wf (T.drop (i+1))∧L.c.length=T.length-(i+1)∧(∀y∈L.c,El (T.drop (i+1)) y)∧El (T.drop (i+1)) L.w∧2≤L.o:=by
 have hi:i<T.length:=(Ag.1 hL).1;have e:T.drop i=L::T.drop (i+1):=by rw[EX hi,(Ag.1 hL).2]
 have:=FK hT i;rw[e]at this;exact⟨this.2.2.2.2,by rw[this.2.2.1];simp,this.2.2.2.1,this.2.1,this.1⟩
theorem Fw {T:Tw}{i:Nat}{L:Lv}(hL:T[i]?=some L):T.drop i=L::T.drop (i+1):=by
 have hi:i<T.length:=(Ag.1 hL).1;rw[EX hi,(Ag.1 hL).2]
def tg:Tw→List Nat→List Nat
 |L::T,a::r=>(if a+1=L.o then 0 else a+1)::BX (mul T) (if a+1=L.o then L.w else AB.one T) L.c r
 |_,_=>[]
theorem YG {L:Lv}{T:Tw}(h:Wf (L::T))(hg:Good T){x:List Nat}(hx:El (L::T) x):tg (L::T) x=mul (L::T) x (unit (L::T) 0):=by
 cases x with
 |nil=>exact absurd hx (by simp[El])
 |cons a r=>
  obtain⟨h1,h2,h3,h4,h5⟩:=h;have G:=BO h5 hg;have ha:=hx.1;rw[Xv,JN,tg,show it (img T L.c) 1 r=img T L.c r from rfl,G.eR (Pk h5 h4 r)];have hi:img T L.c r=ev (mul T) (AB.one T) L.c r:=G.Pg h4 r;by_cases hc:a+1=L.o
  ·rw[Bo hc,Bo hc,Bo (by omega),G.BX h4 r h2,hi,show a+1-L.o=0 by omega]
  ·rw[BD hc,BD hc,BD (by omega),G.BX h4 r G.me,hi,G.eL (G.ev h4 r)]
def vv (T:Tw)(s:Nat)(u e f:List Nat)(j k:Nat):List Nat:=if j<s then u++e else u++Iq (mul (T.drop s)) e (AB.one (T.drop s)) (Eh (T.drop s)) f (j-s) k
theorem AAQ (T:Tw):(Eh T).length=T.length:=by simp[Eh]
theorem fZ {T:Tw}(h:Wf T):∀c∈Eh T,El T c:=by intro c hc;obtain⟨j,_,rfl⟩:=Cy.1 hc;exact MV h j
theorem AHi {T:Tw}{j:Nat}(h:j<T.length):(Eh T).getD j (AB.one T)=unit T j:=by
 rw[BV];simp[Eh,h]
theorem AIL (T:Tw)(s:Nat)(u e f:List Nat):vv T s u e f 0 0=u++e:=by
 unfold vv;split
 ·rfl
 ·rw[Nat.zero_sub,Sv]
theorem AJc (T:Tw)(s:Nat)(u e f:List Nat)(j:Nat)(h:j<s):vv T s u e f (j+1) 0=vv T s u e f j 0:=by
 unfold vv;rw[Bo h];split
 ·rfl
 ·rw[show j+1-s=0 by omega,Sv]
theorem rE {T:Tw}(h:Wf T){e:List Nat}(he:El T e)(f:List Nat)(j k:Nat):El T (Iq (mul T) e (AB.one T) (Eh T) f j k):=
 VU (El T) (mul T) (fun _ _ p q=>C8 h p q) _ _ _ _ he (D5 h) (fZ h) j k
theorem ALR {T:Tw}(h:Wf T){s:Nat}{u e:List Nat}(hu:u.length=s)(he:El (T.drop s) e)(f:List Nat)(j k:Nat):El (T.drop s) ((vv T s u e f j k).drop s):=by
 unfold vv;split
 ·rw[List.drop_left' hu];exact he
 ·rw[List.drop_left' hu];exact rE (FK h s) he f _ k
theorem AHj {T:Tw}(h:Wf T){s:Nat}(hs:s≤T.length){u e:List Nat}(hu:u.length=s)(he:El (T.drop s) e)(f:List Nat)(j k:Nat):(vv T s u e f j k).length=T.length:=by
 unfold vv;split
 ·rw[Cs,AZ he,hu,Cx];omega
 ·rw[Cs,AZ (rE (FK h s) he f _ k),hu,Cx];omega
theorem AJd {T:Tw}(h:Wf T){s:Nat}(hg:Good (T.drop s)){u e:List Nat}(hu:u.length=s)(he:El (T.drop s) e)(f:List Nat){j:Nat}(hj:s≤j)(hjn:j<T.length)(k:Nat):
  (vv T s u e f j k).take j++tg (T.drop j) ((vv T s u e f j k).drop j)=vv T s u e f j (k+1):=by
 have hwf:=FK h s;have hjl:j-s<(T.drop s).length:=by simp;omega
 obtain⟨t,rfl⟩:∃t,j=s+t:=⟨j-s,by omega⟩;rw[Nat.add_sub_cancel_left]at hjl;unfold vv;rw[BD (by omega),BD (by omega),Nat.add_sub_cancel_left,VO,AHi hjl];have hv:=rE hwf he f t k;generalize Iq (mul (T.drop s)) e (AB.one (T.drop s)) (Eh (T.drop s)) f t k=v at hv ⊢;have hd:(T.drop s).drop t=T.drop (s+t):=by rw[Fe]
 have hL:T.drop (s+t)=T[s+t]::T.drop (s+t+1):=EX hjn;have hvd:=KY hv t;rw[hd]at hvd;rw[show unit (T.drop s) t=pad t (unit ((T.drop s).drop t) 0) from(fA (T.drop s) t 0 (by omega)).symm,fV hwf t hv (MV (FK hwf t) 0) (by omega),hd];have e1:(u++v).take (s+t)=u++v.take t:=by rw[←hu,List.take_length_add_append]
 have e2:(u++v).drop (s+t)=v.drop t:=by rw[←hu,List.drop_length_add_append]
 have hgt:Good (T.drop (s+t+1)):=by have:=PZ hg (t+1);rwa[Fe,show s+(t+1)=s+t+1 by omega]at this
 rw[e1,e2,Ih];rw[hL]at hvd ⊢;rw[YG (by rw[←hL];exact FK h (s+t)) hgt hvd]
theorem AJe {T:Tw}{s:Nat}{u e f:List Nat}{j a:Nat}(hj:s≤j)(hjn:j<T.length)(ha:f[j-s]?=some a):vv T s u e f j a=vv T s u e f (j+1) 0:=by
 unfold vv;rw[BD (by omega),BD (by omega),VP _ _ _ _ _ _ a (by rw[AAQ];simp;omega) ha,show j+1-s=j-s+1 by omega]
theorem AKp {T:Tw}(h:Wf T){s:Nat}(hs:s≤T.length)(hg:Good (T.drop s)){u e f:List Nat}(he:El (T.drop s) e)(hf:El (T.drop s) f):vv T s u e f T.length 0=u++mul (T.drop s) e f:=by
 have hwf:=FK h s;have G:=BO hwf hg;unfold vv;rw[BD (by omega),VT _ _ _ _ _ _ (by rw[AAQ];simp) (by rw[AZ hf];simp),G.BX (fZ hwf) f he,fU hwf hg hf]
end Go.Proofs.YtaadbccidfdniaaGreat.AB
namespace Go.Proofs.YtaadbccidfdniaaGreat.RL
open Go.Proofs.YtaadbccidfdniaaGreat AB
def C1 (L:Lv)(T':Tw)(j:Nat):Prop:=npow (mul T') (AB.one T') (L.c.getD j (AB.one T')) (T'.getD j default).o=img T' L.c (pad (j+1) (T'.getD j default).w)
def C2 (L:Lv)(T':Tw)(j k:Nat):Prop:=mul T' (L.c.getD k (AB.one T')) (L.c.getD j (AB.one T'))=mul T' (L.c.getD j (AB.one T')) (img T' L.c (pad (j+1) ((T'.getD j default).c.getD (k-j-1) [])))
def C4 (L:Lv)(T':Tw)(j:Nat):Prop:=mul T' L.w (it (img T' L.c) L.o (unit T' j))=mul T' (unit T' j) L.w
def C3 (L:Lv)(T':Tw):Prop:=img T' L.c L.w=L.w
theorem pY {L:Lv}{T':Tw}(h:Wf (L::T'))(hg:AB.Good T'):Gq L T'↔(∀j<T'.length,C1 L T' j)∧(∀j<T'.length,∀k,j<k→k<T'.length→C2 L T' j k)∧C3 L T'∧∀j<T'.length,C4 L T' j:=ABK h hg
theorem Sw {a b:List Nat}:ints a=ints b↔a=b:=by
 constructor
 ·intro h;exact(List.map_inj_right (fun x y e=>Int.ofNat.inj e)).1 h
 ·intro h;rw[h]
theorem fo {s:Nat}{a b:List Nat}:pad s a=pad s b↔a=b:=by simp[pad]
theorem Jz (s:Nat)(a b:List Nat):decide (ints (pad s a)=ints (pad s b))=decide (a=b):=by
 apply decide_eq_decide.2;rw[Sw,fo]
theorem ABN {T':Tw}(G:CV (El T') (mul T') (AB.one T'))(s:Nat){a c z im:List Nat}(hc:El T' c)(hz:El T' z)(hi:El T' im)(h:mul T' c z=mul T' a c):decide (ints (pad s z)=ints (pad s im))=decide (mul T' a c=mul T' c im):=by
 rw[Jz];apply decide_eq_decide.2;constructor
 ·intro e;rw[←e,h]
 ·intro e;exact G.Ob hc hz hi (h.trans e)
theorem AHk {T':Tw}(G:CV (El T') (mul T') (AB.one T'))(s:Nat){a c z im:List Nat}(hc:El T' c)(hz:El T' z)(hi:El T' im)(h:mul T' c z=mul T' a c):decide (ints (pad s im)=ints (pad s z))=decide (mul T' c im=mul T' a c):=by
 rw[Jz];apply decide_eq_decide.2;constructor
 ·intro e;rw[e,h]
 ·intro e;exact G.Ob hc hi hz (e.trans h.symm)
end Go.Proofs.YtaadbccidfdniaaGreat.RL
namespace Go.Proofs.YtaadbccidfdniaaGreat.Val
open Go.Proofs.YtaadbccidfdniaaGreat AB
def CL (x:Int):Bool:=x==2||x==3||x==5||x==7
theorem Pd {x:Int}(h:CL x=true):2≤x∧x≤7:=by
 simp[CL]at h;omega
def Cj (os:List Int)(z:Nat)(v:List Int):Prop:=v.length=os.length∧∀j x o,v[j]?=some x→os[j]?=some o→0≤x∧x<o∧(j<z→x=0)
def DR:List Int→Int
 |[]=>1
 |o::os=>o*DR os
structure Valid (P:Bu):Prop where
 n6:P.os.length≤6
 pl:P.ps.length=P.os.length
 cl:P.cs.length=P.os.length
 pr:∀o∈P.os,CL o=true
 le:DR P.os≤729
 pv:∀i p,P.ps[i]?=some p→Cj P.os (i+1) p
 cv:∀i c,P.cs[i]?=some c→c.length=P.os.length-1-i∧∀y∈c,Cj P.os (i+1) y
def Gs (l:List Int):List Nat:=l.map Int.toNat
def Lb:Nat→List Int→List (List Int)→List (List (List Int))→Tw
 |s,o::os,p::ps,c::cs=>⟨o.toNat,Gs (p.drop (s+1)),c.map fun y=>Gs (y.drop (s+1))⟩::Lb (s+1) os ps cs
 |_,_,_,_=>[]
theorem AAR (s:Nat)(os:List Int)(ps:List (List Int))(cs:List (List (List Int)))(h1:ps.length=os.length)(h2:cs.length=os.length):(Lb s os ps cs).length=os.length:=by
 induction os generalizing s ps cs with
 |nil=>cases ps<;>cases cs<;>rfl
 |cons o os ih=>cases ps with
  |nil=>simp at h1
  |cons p ps=>cases cs with
   |nil=>simp at h2
   |cons c cs=>simp only[Lb,Hl];rw[ih (s+1) ps cs (by simpa using h1) (by simpa using h2)]
theorem AB2 (s:Nat)(os:List Int)(ps:List (List Int))(cs:List (List (List Int)))(h1:ps.length=os.length)(h2:cs.length=os.length)(hp:∀o∈os,CL o=true):(Lb s os ps cs).map (fun L=>(L.o:Int))=os:=by
 induction os generalizing s ps cs with
 |nil=>cases ps<;>cases cs<;>rfl
 |cons o os ih=>cases ps with
  |nil=>simp at h1
  |cons p ps=>cases cs with
   |nil=>simp at h2
   |cons c cs=>
    simp only[Lb,GZ];rw[ih (s+1) ps cs (by simpa using h1) (by simpa using h2) (fun x hx=>hp x (Dj _ hx))];have:=Pd (hp o DJ);congr 1;omega
theorem AB3 {T:Tw}{os:List Int}(hT:T.map (fun L=>(L.o:Int))=os){v:List Int}(hl:v.length=os.length)(h:∀(j:Nat) (x o:Int),v[j]?=some x→os[j]?=some o→0≤x∧x<o):El T (Gs v):=by
 induction T generalizing os v with
 |nil=>
  simp only[Ng]at hT;subst hT;have:v=[]:=D8 hl;subst this;trivial
 |cons L T ih=>
  simp only[GZ]at hT;subst hT;cases v with
  |nil=>simp at hl
  |cons x v=>
   have h0:=h 0 x L.o rfl rfl;refine⟨?_,ih rfl (by simpa using hl) (fun j y o hy ho=>h (j+1) y o (by simpa using hy) (by simpa using ho))⟩;show x.toNat<L.o;omega
theorem pE {v:List Int}(h:∀x∈v,0≤x):ints (Gs v)=v:=by
 induction v with
 |nil=>rfl
 |cons x v ih=>
  have:=h x DJ;simp only[Gs,ints,GZ]at ih ⊢;rw[ih (fun y hy=>h y (Dj _ hy))];congr 1;exact Int.toNat_of_nonneg this
theorem ABO {OS v:List Int}{z:Nat}(h:Cj OS z v)(hz:z≤OS.length):ints (pad z (Gs (v.drop z)))=v:=by
 have hl:=h.1;have h0:∀j,j<z→v[j]?=some 0:=fun j hj=>by
  have hx:v[j]?=some v[j]:=AO (by omega);have ho:OS[j]?=some OS[j]:=AO (by omega);rw[hx,((h.2 j _ _ hx ho).2.2 hj)]
 have hn:∀x∈v.drop z,0≤x:=fun x hx=>by
  obtain⟨j,hj,rfl⟩:=RJ (KA hx);exact(h.2 j _ _ (AO hj) (AO (by omega))).1
 have e1:ints (pad z (Gs (v.drop z)))=List.replicate z 0++ints (Gs (v.drop z)):=by simp[ints,pad]
 rw[e1,pE hn]
 conv=>rhs;rw[←List.take_append_drop z v]
 congr 1;apply Oi;intro j;rw[Pq,Nl];split
 ·next hj=>rw[h0 j hj]
 ·rfl
theorem AB4 {OS v:List Int}{s:Nat}(h:Cj OS (s+1) v){T:Tw}(hT:T.map (fun L=>(L.o:Int))=OS.drop (s+1)):El T (Gs (v.drop (s+1))):=
 AB3 hT (by simp[h.1]) (fun j x o hx ho=>by
  rw[Ho]at hx ho;have:=h.2 _ x o hx ho;exact⟨this.1,this.2.1⟩)
theorem AJf (OS:List Int)(s:Nat)(os:List Int)(ps:List (List Int))(cs:List (List (List Int)))(hos:os=OS.drop s)(h1:ps.length=os.length)(h2:cs.length=os.length)(hp:∀o∈os,CL o=true)
  (hv:∀i p,ps[i]?=some p→Cj OS (s+i+1) p) (hc:∀i c,cs[i]?=some c→c.length=OS.length-1-(s+i)∧∀y∈c,Cj OS (s+i+1) y):
  Wf (Lb s os ps cs)∧KE s (Lb s os ps cs)=ps∧JY s (Lb s os ps cs)=cs:=by
 induction os generalizing s ps cs with
 |nil=>
  have e1:ps=[]:=D8 h1;have e2:cs=[]:=D8 h2;subst e1;subst e2;exact⟨trivial,rfl,rfl⟩
 |cons o os ih=>cases ps with
  |nil=>simp at h1
  |cons p ps=>cases cs with
   |nil=>simp at h2
   |cons c cs=>
    have hl:s<OS.length:=by
     have:=BM List.length hos;simp at this;omega
    have sW:os=OS.drop (s+1):=by
     rw[EX hl]at hos;exact(List.cons.inj hos).2
    have hp':∀x∈os,CL x=true:=fun x hx=>hp x (Dj _ hx);have h1':ps.length=os.length:=by simpa using h1
    have h2':cs.length=os.length:=by simpa using h2
    obtain⟨w1,w2,w3⟩:=ih (s+1) ps cs sW h1' h2' hp' (fun i q hq=>by have:=hv (i+1) q (by simpa using hq);rwa[show s+(i+1)+1=s+1+i+1 by omega]at this)
     (fun i d hd=>by have:=hc (i+1) d (by simpa using hd);rwa[show s+(i+1)+1=s+1+i+1 by omega,show OS.length-1-(s+(i+1))=OS.length-1-(s+1+i) by omega]at this)
    have hT:(Lb (s+1) os ps cs).map (fun L=>(L.o:Int))=OS.drop (s+1):=by rw[AB2 _ _ _ _ h1' h2' hp',sW]
    have hpv:=hv 0 p rfl;have hcv:=hc 0 c rfl;simp only[Oc]at hpv hcv;have hln:(Lb (s+1) os ps cs).length=OS.length-(s+1):=by rw[AAR _ _ _ _ h1' h2',sW];simp
    refine⟨⟨?_,?_,?_,?_,w1⟩,?_,?_⟩
    ·have:=Pd (hp o DJ);show 2≤o.toNat;omega
    ·exact AB4 hpv hT
    ·show(c.map _).length=_;rw[Bh,hcv.1,hln];omega
    ·intro y hy;simp only[Cy]at hy;obtain⟨y',hy',rfl⟩:=hy;exact AB4 (hcv.2 y' hy') hT
    ·simp only[Lb,KE];rw[w2,ABO hpv (by omega)]
    ·simp only[Lb,JY];rw[w3];congr 1;rw[List.map_map]
     conv=>rhs;rw[←List.map_id c]
     apply TP;intro y hy;exact ABO (hcv.2 y hy) (by omega)
theorem Valid.tower {P:Bu}(h:Valid P):∃T,Wf T∧Small T∧P=AQ T:=by
 obtain⟨w1,w2,w3⟩:=AJf P.os 0 P.os P.ps P.cs rfl h.pl h.cl h.pr (fun i p hp=>by rw[Cg];exact h.pv i p hp) (fun i c hc=>by rw[Cg];exact h.cv i c hc);have ho:=AB2 0 P.os P.ps P.cs h.pl h.cl h.pr;refine⟨Lb 0 P.os P.ps P.cs,w1,⟨by rw[AAR _ _ _ _ h.pl h.cl];exact h.n6,fun L hL=>?_⟩,?_⟩
 ·have hm:(L.o:Int)∈P.os:=by rw[←ho];exact Cy.2 ⟨L,hL,rfl⟩
  have:=Pd (h.pr _ hm);omega
 ·unfold AQ;rw[ho,w2,w3]
theorem AAr {os:List Int}(h:∀o∈os,CL o=true):1≤DR os:=by
 induction os with
 |nil=>exact Int.le_refl _
 |cons o os ih=>
  have h1:=ih (fun x hx=>h x (Dj _ hx));have h2:=Pd (h o DJ);have h3:1*1≤o*DR os:=Int.mul_le_mul (by omega) h1 (by omega) (by omega);simpa[DR]using h3
theorem AAJ (a b:List Int):DR (a++b)=DR a*DR b:=by
 induction a with
 |nil=>simp[DR]
 |cons o a ih=>simp[DR,ih,Int.mul_assoc]
theorem dZ {os:List Int}{k:Nat}{o:Int}(h:os[k]?=some o):DR (os.take (k+1))=DR (os.take k)*o:=by
 rw[IJ,h,AAJ];simp[DR]
theorem AGv {os:List Int}(h:∀o∈os,CL o=true)(k:Nat):DR (os.take k)≤DR os:=by
 conv=>rhs;rw[←List.take_append_drop k os,AAJ]
 have h1:=AAr (os:=os.take k) (fun o ho=>h o (Vo ho));have h2:=AAr (os:=os.drop k) (fun o ho=>h o (KA ho));have h3:DR (os.take k)*1≤DR (os.take k)*DR (os.drop k):=Int.mul_le_mul (Int.le_refl _) h2 (by omega) (by omega);simpa using h3
end Go.Proofs.YtaadbccidfdniaaGreat.Val
namespace Go.Proofs.YtaadbccidfdniaaGreat.Ct
open Go.RowKit Go.Proofs.YtaadbccidfdniaaGreat AB Val
theorem map_inj {α β:Type}{f:α→β}(hf:∀a b,f a=f b→a=b):∀{l l':List α},l.map f=l'.map f→l=l'
 |[],[],_=>rfl
 |[],_::_,h=>by simp at h
 |_::_,[],h=>by simp at h
 |a::l,b::l',h=>by
  simp only[GZ,RA]at h;rw[hf a b h.1,map_inj hf h.2]
theorem AAK {n:Nat}{a b:List Nat}(h:ints (pad n a)=ints (pad n b)):a=b:=by
 have h1:=RL.Sw.1 h;exact RL.fo.1 h1
theorem AAs:∀(s:Nat) (T T':Tw),T.map (fun L=>(L.o:Int))=T'.map (fun L=>(L.o:Int))→KE s T=KE s T'→JY s T=JY s T'→T=T'
 |_,[],[],_,_,_=>rfl
 |_,[],_::_,h,_,_=>by simp at h
 |_,_::_,[],h,_,_=>by simp at h
 |s,⟨o,w,c⟩::T,⟨o',w',c'⟩::T',h1,h2,h3=>by
  simp only[GZ,RA]at h1;simp only[KE,RA]at h2;simp only[JY,RA]at h3;obtain rfl:=AAs (s+1) T T' h1.2 h2.2 h3.2;obtain rfl:o=o':=by have:=h1.1;omega
  obtain rfl:w=w':=AAK h2.1;obtain rfl:c=c':=by
   have:=h3.1;exact map_inj (fun a b h=>AAK h) this
  rfl
theorem KX {T T':Tw}(h:AQ T=AQ T'):T=T':=by
 simp only[AQ,Bu.mk.injEq]at h;exact AAs 0 T T' h.1 h.2.1 h.2.2
def Bb (P:Bu):Prop:=∃T,Wf T∧Small T∧P=AQ T∧Valid P∧AB.Good T
theorem Bb.good {T:Tw}(h:Bb (AQ T)):AB.Good T:=by
 obtain⟨T',h1,h2,h3,_,h4⟩:=h;have:=KX h3;exact this▸h4
end Go.Proofs.YtaadbccidfdniaaGreat.Ct
namespace Go.Proofs.YtaadbccidfdniaaGreat.CU
open AB Go.Proofs.YtaadbccidfdniaaGreat Val
def sz:Tw→Nat
 |[]=>1
 |L::T=>L.o*sz T
def num:Tw→List Nat→Nat
 |L::T,a::x=>a*sz T+num T x
 |_,_=>0
def at_:Tw→Nat→List Nat
 |[],_=>[]
 |L::T,k=>(k/sz T%L.o)::at_ T k
theorem JQ {T:Tw}(h:Wf T):0<sz T:=by
 induction T with
 |nil=>simp[sz]
 |cons L T ih=>exact Nat.mul_pos (by have:=h.1;omega) (ih h.2.2.2.2)
theorem VK (T:Tw)(k:Nat):(at_ T k).length=T.length:=by
 induction T with
 |nil=>rfl
 |cons L T ih=>simp[at_,ih]
theorem D7 {T:Tw}(h:Wf T)(k:Nat):El T (at_ T k):=by
 induction T with
 |nil=>trivial
 |cons L T ih=>exact⟨Nat.mod_lt _ (by have:=h.1;omega),ih h.2.2.2.2⟩
theorem KZ {T:Tw}{x:List Nat}(hx:El T x)(h:Wf T):num T x<sz T:=by
 induction T generalizing x with
 |nil=>simp[num,sz]
 |cons L T ih=>
  cases x with
  |nil=>exact hx.elim
  |cons a x=>
   have h1:=ih hx.2 h.2.2.2.2;have h2:=hx.1;show a*sz T+num T x<L.o*sz T;have:(a+1)*sz T≤L.o*sz T:=RI _ h2;rw[Nat.add_mul,Nat.one_mul]at this;omega
theorem Q5 (T:Tw)(k:Nat):num T (at_ T k)=k%sz T:=by
 induction T with
 |nil=>simp[num,sz,Nat.mod_one]
 |cons L T ih=>
  show(k/sz T%L.o)*sz T+num T (at_ T k)=k%(L.o*sz T);rw[ih,Oh L.o,Nat.mod_mul,Oh (sz T)];omega
theorem AJg {T:Tw}(h:Wf T){x y:List Nat}(hx:El T x)(hy:El T y)(e:num T x=num T y):x=y:=by
 induction T generalizing x y with
 |nil=>cases x<;>cases y<;>first|rfl|exact hx.elim|exact hy.elim
 |cons L T ih=>
  cases x with
  |nil=>exact hx.elim
  |cons a x=>
   cases y with
   |nil=>exact hy.elim
   |cons b y=>
    have h1:=KZ hx.2 h.2.2.2.2;have h2:=KZ hy.2 h.2.2.2.2;have e':a*sz T+num T x=b*sz T+num T y:=e;have hab:a=b:=by
     have:(a*sz T+num T x)/sz T=(b*sz T+num T y)/sz T:=by rw[e']
     rw[Ki,Ki (b*sz T),Nat.add_mul_div_right _ _ (by omega),Nat.add_mul_div_right _ _ (by omega),Nat.div_eq_of_lt h1,Nat.div_eq_of_lt h2]at this;omega
    subst hab;rw[ih h.2.2.2.2 hx.2 hy.2 (by omega)]
theorem J4 {T:Tw}(h:Wf T){x:List Nat}(hx:El T x):at_ T (num T x)=x:=
 AJg h (D7 h _) hx (by rw[Q5,Ez (KZ hx h)])
theorem rF {T:Tw}{j k:Nat}(hj:j<sz T)(hk:k<sz T)(e:at_ T j=at_ T k):j=k:=by
 have:=BM (num T) e;rwa[Q5,Q5,Ez hj,Ez hk]at this
theorem qU {T:Tw}:num T (AB.one T)=0:=by
 induction T with
 |nil=>rfl
 |cons L T ih=>show 0*sz T+num T (AB.one T)=0;rw[ih];omega
theorem S9 {T:Tw}{i:Nat}{L:Lv}(hL:T[i]?=some L):sz (T.drop i)=L.o*sz (T.drop (i+1)):=by rw[Fw hL];rfl
theorem ABP {T:Tw}{i:Nat}{L:Lv}(hL:T[i]?=some L){x:List Nat}{a:Nat}(ha:x[i]?=some a):num (T.drop i) (x.drop i)=a*sz (T.drop (i+1))+num (T.drop (i+1)) (x.drop (i+1)):=by
 rw[Fw hL];have:x.drop i=a::x.drop (i+1):=by
  have:=Ag.1 ha;rw[EX this.1,this.2]
 rw[this];rfl
theorem Vf (T:Tw):sz (T.drop T.length)=1:=by simp[sz]
theorem AB5 (T:Tw)(x:List Nat):num (T.drop T.length) x=0:=by simp[num]
theorem AB6 {T:Tw}{i:Nat}{L:Lv}(hL:T[i]?=some L)(k:Nat):at_ (T.drop i) k=(k/sz (T.drop (i+1))%L.o)::at_ (T.drop (i+1)) k:=by rw[Fw hL];rfl
theorem ABQ {T:Tw}{i:Nat}{L:Lv}(hL:T[i]?=some L)(k:Nat):k/sz (T.drop (i+1))/L.o=k/sz (T.drop i):=by
 rw[S9 hL,Nat.div_div_eq_div_mul,Oh L.o]
theorem AAS (T:Tw)(hT:Wf T)(i:Nat):sz (T.drop i)≤sz T:=by
 induction T generalizing i with
 |nil=>simp
 |cons L T ih=>
  cases i with
  |zero=>exact Av _
  |succ i=>
   show sz (T.drop i)≤L.o*sz T;have h1:=ih hT.2.2.2.2 i;have h2:1*sz T≤L.o*sz T:=RI _ (by have:=hT.1;omega);omega
theorem pg (T:Tw):DR (T.map fun L=>(L.o:Int))=(sz T:Int):=by
 induction T with
 |nil=>rfl
 |cons L T ih=>show(L.o:Int)*DR _=_;rw[ih];simp[sz]
theorem fB {T:Tw}(h:Valid (AQ T)):sz T≤729:=by
 have:=h.le;rw[show(AQ T).os=T.map fun L=>(L.o:Int) from rfl,pg]at this;omega
end Go.Proofs.YtaadbccidfdniaaGreat.CU
