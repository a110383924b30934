import Derived.Test.YtlmlamcoeegkbaaGreatZ0
import Derived.WalkKit
import Derived.Below
import Derived.Laws.OwnMore
import Derived.Lib.Hide
/-
  Lemmas for the law FnOrbits, in short spelling.
-/
open Go.Lib (hid)
set_option linter.unusedVariables false
set_option linter.unusedSimpArgs false
set_option maxRecDepth 100000
set_option maxHeartbeats 40000000
namespace Go.Proofs.YtlmlamcoeegkbaaGreat.Tow
structure Lv where
 o:Nat
 w:List Nat
 c:List (List Nat)
abbrev Tw:=List Lv
def El:Tw→List Nat→Prop
 |[],[]=>True
 |L::T,a::x=>a<L.o∧El T x
 |_,_=>False
def Wf:Tw→Prop
 |[]=>True
 |L::T=>2≤L.o∧El T L.w∧L.c.length=T.length∧(∀y∈L.c,El T y)∧Wf T
def one (T:Tw):List Nat:=List.replicate T.length 0
def it {α:Type}(f:α→α):Nat→α→α
 |0,x=>x
 |k+1,x=>it f k (f x)
def prodL {α:Type}(m:α→α→α):α→List α→List Nat→α
 |u,c::cs,a::x=>prodL m (it (fun z=>m z c) a u) cs x
 |u,_,_=>u
def mul:Tw→List Nat→List Nat→List Nat
 |[],_,_=>[]
 |L::T,a::x,b::y=>
  if L.o≤a+b then(a+b-L.o)::mul T L.w (mul T (it (fun z=>prodL (mul T) (one T) L.c z) b x) y)
  else(a+b)::mul T (it (fun z=>prodL (mul T) (one T) L.c z) b x) y
 |_,_,_=>[]
def img (T:Tw)(c:List (List Nat))(z:List Nat):List Nat:=prodL (mul T) (one T) c z
theorem mul_cons (L:Lv)(T:Tw)(a b:Nat)(x y:List Nat):mul (L::T) (a::x) (b::y)=
  if L.o≤a+b then(a+b-L.o)::mul T L.w (mul T (it (img T L.c) b x) y)else(a+b)::mul T (it (img T L.c) b x) y:=rfl
theorem it_succ' {α:Type}(f:α→α)(k:Nat)(x:α):it f (k+1) x=f (it f k x):=by
 induction k generalizing x with
 |zero=>rfl
 |succ k ih=>rw[it,ih,it]
theorem it_add {α:Type}(f:α→α)(a b:Nat)(x:α):it f (a+b) x=it f a (it f b x):=by
 induction a with
 |zero=>simp[it]
 |succ a ih=>rw[Nat.succ_add,it_succ',ih,it_succ']
theorem it_inv {α:Type}(M:α→Prop)(f:α→α)(hf:∀x,M x→M (f x))(k:Nat)(x:α)(hx:M x):M (it f k x):=by
 induction k generalizing x with
 |zero=>exact hx
 |succ k ih=>exact ih _ (hf _ hx)
theorem El_length {T:Tw}{x:List Nat}(h:El T x):x.length=T.length:=by
 induction T generalizing x with
 |nil=>cases x with
  |nil=>rfl
  |cons a x=>exact absurd h (by simp[El])
 |cons L T ih=>cases x with
  |nil=>exact absurd h (by simp[El])
  |cons a x=>simp[ih h.2]
theorem El_one {T:Tw}(h:Wf T):El T (one T):=by
 induction T with
 |nil=>trivial
 |cons L T ih=>exact⟨by have:=h.1;omega,ih h.2.2.2.2⟩
theorem prodL_inv {α:Type}(M:α→Prop)(m:α→α→α)(hm:∀x y,M x→M y→M (m x y))(cs:List α)(hc:∀c∈cs,M c)(x:List Nat)(u:α)(hu:M u):M (prodL m u cs x):=by
 induction cs generalizing u x with
 |nil=>cases x<;>exact hu
 |cons c cs ih=>cases x with
  |nil=>exact hu
  |cons a x=>exact ih (fun d hd=>hc d (zq23 _ hd)) x _ (it_inv M _ (fun z hz=>hm _ _ hz (hc c zq24)) a u hu)
theorem El_mul {T:Tw}(h:Wf T){x y:List Nat}(hx:El T x)(hy:El T y):El T (mul T x y):=by
 induction T generalizing x y with
 |nil=>trivial
 |cons L T ih=>cases x with
  |nil=>exact absurd hx (by simp[El])
  |cons a x=>cases y with
   |nil=>exact absurd hy (by simp[El])
   |cons b y=>
    obtain⟨h1,h2,h3,h4,h5⟩:=h;have hi:∀z,El T z→El T (img T L.c z):=fun z _=>prodL_inv (El T) _ (fun _ _ p q=>ih h5 p q) _ h4 z _ (El_one h5);have hz:=it_inv (El T) _ hi b x hx.2;have hr:=ih h5 hz hy.2;rw[mul_cons];have ha:=hx.1;have hb:=hy.1;split
    ·exact⟨by omega,ih h5 h2 hr⟩
    ·exact⟨by omega,hr⟩
theorem El_img {T:Tw}(h:Wf T){c:List (List Nat)}(hc:∀y∈c,El T y)(z:List Nat):El T (img T c z):=
 prodL_inv (El T) _ (fun _ _ p q=>El_mul h p q) _ hc z _ (El_one h)
structure IsG {α:Type}(M:α→Prop)(m:α→α→α)(e:α):Prop where
 cl:∀{a b},M a→M b→M (m a b)
 me:M e
 asc:∀{a b c},M a→M b→M c→m (m a b) c=m a (m b c)
 eL:∀{a},M a→m e a=a
 eR:∀{a},M a→m a e=a
 iv:∀{a},M a→∃b,M b∧m a b=e∧m b a=e
theorem IsG.cancelL {α:Type}{M:α→Prop}{m:α→α→α}{e:α}(G:IsG M m e){a b c:α}(ha:M a)(hb:M b)(hc:M c)(h:m a b=m a c):b=c:=by
 obtain⟨d,hd,_,h2⟩:=G.iv ha;have:=zq38 (m d) h;rwa[←G.asc hd ha hb,←G.asc hd ha hc,h2,G.eL hb,G.eL hc]at this
theorem IsG.cancelR {α:Type}{M:α→Prop}{m:α→α→α}{e:α}(G:IsG M m e){a b c:α}(ha:M a)(hb:M b)(hc:M c)(h:m b a=m c a):b=c:=by
 obtain⟨d,hd,h1,_⟩:=G.iv ha;have:=zq38 (fun z=>m z d) h;simp only[G.asc hb ha hd,G.asc hc ha hd,h1,G.eR hb,G.eR hc]at this;exact this
def npow {α:Type}(m:α→α→α)(e:α)(x:α)(k:Nat):α:=it (fun z=>m z x) k e
theorem npow_zero {α:Type}(m:α→α→α)(e x:α):npow m e x 0=e:=rfl
theorem npow_succ {α:Type}(m:α→α→α)(e x:α)(k:Nat):npow m e x (k+1)=m (npow m e x k) x:=it_succ' _ _ _
theorem IsG.npow {α:Type}{M:α→Prop}{m:α→α→α}{e:α}(G:IsG M m e){x:α}(hx:M x)(k:Nat):M (npow m e x k):=
 it_inv M _ (fun _ hz=>G.cl hz hx) k e G.me
theorem IsG.it_mul {α:Type}{M:α→Prop}{m:α→α→α}{e:α}(G:IsG M m e){x u:α}(hx:M x)(hu:M u)(k:Nat):it (fun z=>m z x) k u=m u (Tow.npow m e x k):=by
 induction k with
 |zero=>exact(G.eR hu).symm
 |succ k ih=>rw[it_succ',ih,npow_succ,G.asc hu (G.npow hx k) hx]
theorem IsG.npow_add {α:Type}{M:α→Prop}{m:α→α→α}{e:α}(G:IsG M m e){x:α}(hx:M x)(j k:Nat):Tow.npow m e x (j+k)=m (Tow.npow m e x j) (Tow.npow m e x k):=by
 rw[←G.it_mul hx (G.npow hx j),zq89,Tow.npow,it_add];rfl
theorem IsG.npow_one {α:Type}{M:α→Prop}{m:α→α→α}{e:α}(G:IsG M m e){x:α}(hx:M x):Tow.npow m e x 1=x:=G.eL hx
def ev {α:Type}(m:α→α→α)(e:α):List α→List Nat→α
 |c::cs,a::x=>m (npow m e c a) (ev m e cs x)
 |_,_=>e
theorem IsG.ev {α:Type}{M:α→Prop}{m:α→α→α}{e:α}(G:IsG M m e){cs:List α}(hc:∀c∈cs,M c)(x:List Nat):M (ev m e cs x):=by
 induction cs generalizing x with
 |nil=>cases x<;>exact G.me
 |cons c cs ih=>cases x with
  |nil=>exact G.me
  |cons a x=>exact G.cl (G.npow (hc c zq24) a) (ih (fun d hd=>hc d (zq23 _ hd)) x)
theorem IsG.prodL {α:Type}{M:α→Prop}{m:α→α→α}{e:α}(G:IsG M m e){cs:List α}(hc:∀c∈cs,M c)(x:List Nat){u:α}(hu:M u):prodL m u cs x=m u (Tow.ev m e cs x):=by
 induction cs generalizing x u with
 |nil=>cases x<;>exact(G.eR hu).symm
 |cons c cs ih=>cases x with
  |nil=>exact(G.eR hu).symm
  |cons a x=>
   have h1:=hc c zq24;have h2:∀d∈cs,M d:=fun d hd=>hc d (zq23 _ hd);rw[Tow.prodL,ih h2 x (it_inv M _ (fun _ hz=>G.cl hz h1) a u hu),G.it_mul h1 hu,Tow.ev,G.asc hu (G.npow h1 a) (G.ev h2 x)]
theorem IsG.prodL_e {α:Type}{M:α→Prop}{m:α→α→α}{e:α}(G:IsG M m e){cs:List α}(hc:∀c∈cs,M c)(x:List Nat):Tow.prodL m e cs x=Tow.ev m e cs x:=by
 rw[G.prodL hc x G.me,G.eL (G.ev hc x)]
def Rel {α:Type}(m:α→α→α)(e:α):Tw→List α→Prop
 |[],[]=>True
 |L::T,c0::cs=>npow m e c0 L.o=ev m e cs L.w∧(∀j,(h:j<cs.length)→(h':j<L.c.length)→m cs[j] c0=m c0 (ev m e cs L.c[j]))∧Rel m e T cs
 |_,_=>False
theorem Rel_length {α:Type}{m:α→α→α}{e:α}{T:Tw}{cs:List α}(h:Rel m e T cs):cs.length=T.length:=by
 induction T generalizing cs with
 |nil=>cases cs with
  |nil=>rfl
  |cons c cs=>exact absurd h (by simp[Rel])
 |cons L T ih=>cases cs with
  |nil=>exact absurd h (by simp[Rel])
  |cons c cs=>simp[ih h.2.2]
theorem IsG.ev_past {α:Type}{M:α→Prop}{m:α→α→α}{e:α}(G:IsG M m e){c:α}(hc:M c){es fs:List α}(he:∀d∈es,M d)(hf:∀d∈fs,M d)(hl:es.length=fs.length)
  (h:∀j,(h:j<es.length)→(h':j<fs.length)→m es[j] c=m c fs[j]) (z:List Nat):m (Tow.ev m e es z) c=m c (Tow.ev m e fs z):=by
 induction es generalizing fs z with
 |nil=>
  obtain rfl:fs=[]:=by cases fs with
   |nil=>rfl
   |cons _ _=>simp at hl
  cases z<;>exact(G.eL hc).trans (G.eR hc).symm
 |cons d es ih=>cases fs with
  |nil=>simp at hl
  |cons f fs=>cases z with
   |nil=>exact(G.eL hc).trans (G.eR hc).symm
   |cons a z=>
    have d1:=he d zq24;have f1:=hf f zq24;have d2:∀x∈es,M x:=fun x hx=>he x (zq23 _ hx);have f2:∀x∈fs,M x:=fun x hx=>hf x (zq23 _ hx);have h0:m d c=m c f:=h 0 (by simp) (by simp);have hp:∀k,m (Tow.npow m e d k) c=m c (Tow.npow m e f k):=fun k=>by
     induction k with
     |zero=>exact(G.eL hc).trans (G.eR hc).symm
     |succ k ihk=>rw[npow_succ,npow_succ,G.asc (G.npow d1 k) d1 hc,h0,←G.asc (G.npow d1 k) hc f1,ihk,G.asc hc (G.npow f1 k) f1]
    have hi:=ih d2 f2 (by simpa using hl) (fun j p q=>h (j+1) (by simp;omega) (by simp;omega)) z;rw[Tow.ev,Tow.ev,G.asc (G.npow d1 a) (G.ev d2 z) hc,hi,←G.asc (G.npow d1 a) hc (G.ev f2 z),hp,G.asc hc (G.npow f1 a) (G.ev f2 z)]
theorem IsG.hom {α:Type}{M:α→Prop}{m:α→α→α}{e:α}(G:IsG M m e){T:Tw}(hT:Wf T){cs:List α}(hc:∀c∈cs,M c)(hR:Rel m e T cs){x y:List Nat}(hx:El T x)(hy:El T y):
  Tow.ev m e cs (mul T x y)=m (Tow.ev m e cs x) (Tow.ev m e cs y):=by
 induction T generalizing cs x y with
 |nil=>cases cs with
  |nil=>exact(G.eL G.me).symm
  |cons c cs=>exact absurd hR (by simp[Rel])
 |cons L T ih=>cases cs with
  |nil=>exact absurd hR (by simp[Rel])
  |cons c cs=>cases x with
   |nil=>exact absurd hx (by simp[El])
   |cons a x=>cases y with
    |nil=>exact absurd hy (by simp[El])
    |cons b y=>
     obtain⟨h1,h2,h3,h4,h5⟩:=hT;obtain⟨r1,r2,r3⟩:=hR;have c1:=hc c zq24;have c2:∀d∈cs,M d:=fun d hd=>hc d (zq23 _ hd);have hcl:=Rel_length r3;have IH:∀{x y:List Nat},El T x→El T y→Tow.ev m e cs (mul T x y)=m (Tow.ev m e cs x) (Tow.ev m e cs y):=fun p q=>ih h5 c2 r3 p q;have hone:Tow.ev m e cs (one T)=e:=by
      have:∀(cs:List α) n,Tow.ev m e cs (List.replicate n 0)=e:=by
       intro cs
       induction cs with
       |nil=>intro n;cases n<;>rfl
       |cons d ds ihd=>intro n;cases n with
        |zero=>rfl
        |succ n=>exact(zq38 (m _) (ihd n)).trans (by rw[npow_zero,G.eL G.me])
      exact this cs _
     have A:∀(ds:List (List Nat)),(∀d∈ds,El T d)→∀(z:List Nat) (u:List Nat),El T u→Tow.ev m e cs (Tow.prodL (mul T) u ds z)=m (Tow.ev m e cs u) (Tow.ev m e (ds.map (Tow.ev m e cs)) z):=by
      intro ds
      induction ds with
      |nil=>intro _ z u hu;cases z<;>exact(G.eR (G.ev c2 u)).symm
      |cons d ds ihd=>intro hd z u hu;cases z with
       |nil=>exact(G.eR (G.ev c2 u)).symm
       |cons a z=>
        have hd1:=hd d zq24;have hd2:∀x∈ds,El T x:=fun x hx=>hd x (zq23 _ hx);have hit:∀k,El T (it (fun z=>mul T z d) k u):=fun k=>it_inv (El T) _ (fun z hz=>El_mul h5 hz hd1) k u hu;have hk:∀k,Tow.ev m e cs (it (fun z=>mul T z d) k u)=m (Tow.ev m e cs u) (Tow.npow m e (Tow.ev m e cs d) k):=fun k=>by
         induction k with
         |zero=>exact(G.eR (G.ev c2 u)).symm
         |succ k ihk=>rw[it_succ',IH (hit k) hd1,ihk,npow_succ,G.asc (G.ev c2 u) (G.npow (G.ev c2 d) k) (G.ev c2 d)]
        rw[Tow.prodL,ihd hd2 z _ (hit a),hk a,zq81,Tow.ev,G.asc (G.ev c2 u) (G.npow (G.ev c2 d) a) (G.ev (by intro x hx;obtain⟨q,_,rfl⟩:=zq35.1 hx;exact G.ev c2 q) z)]
     have hmap:∀d∈L.c.map (Tow.ev m e cs),M d:=by intro x hx;obtain⟨q,_,rfl⟩:=zq35.1 hx;exact G.ev c2 q
     have B:∀z,El T z→m (Tow.ev m e cs z) c=m c (Tow.ev m e cs (img T L.c z)):=fun z hz=>by
      rw[img,A L.c h4 z _ (El_one h5),hone,G.eL (G.ev hmap z)];exact G.ev_past c1 c2 hmap (by simp[hcl,h3]) (fun j p q=>by
       have:=r2 j p (by simpa using q);simpa using this) z
     have hI:∀k z,El T z→El T (it (img T L.c) k z):=fun k z hz=>it_inv (El T) _ (fun y _=>El_img h5 h4 y) k z hz;have D:∀k z,El T z→m (Tow.ev m e cs z) (Tow.npow m e c k)=m (Tow.npow m e c k) (Tow.ev m e cs (it (img T L.c) k z)):=by
      intro k
      induction k with
      |zero=>intro z hz;exact(G.eR (G.ev c2 z)).trans (G.eL (G.ev c2 _)).symm
      |succ k ihk=>
       intro z hz;rw[npow_succ,←G.asc (G.ev c2 z) (G.npow c1 k) c1,ihk z hz,G.asc (G.npow c1 k) (G.ev c2 _) c1,B _ (hI k z hz),←it_succ' (img T L.c),G.asc (G.npow c1 k) c1 (G.ev c2 _)]
     have hxi:=hI b x hx.2;have hr:=El_mul h5 hxi hy.2;have E:m (Tow.ev m e (c::cs) (a::x)) (Tow.ev m e (c::cs) (b::y))=m (Tow.npow m e c (a+b)) (Tow.ev m e cs (mul T (it (img T L.c) b x) y)):=by
      rw[Tow.ev,Tow.ev,G.asc (G.npow c1 a) (G.ev c2 x) (G.cl (G.npow c1 b) (G.ev c2 y)),←G.asc (G.ev c2 x) (G.npow c1 b) (G.ev c2 y),D b x hx.2,
       G.asc (G.npow c1 b) (G.ev c2 _) (G.ev c2 y),←IH hxi hy.2,←G.asc (G.npow c1 a) (G.npow c1 b) (G.ev c2 _),←G.npow_add c1]
     rw[E,mul_cons];split
     ·next hle=>
      rw[Tow.ev,IH h2 hr,←r1,←G.asc (G.npow c1 _) (G.npow c1 _) (G.ev c2 _),←G.npow_add c1,Nat.sub_add_cancel hle]
     ·rfl
def unit (T:Tw)(j:Nat):List Nat:=(one T).set j 1
theorem one_cons (L:Lv)(T:Tw):one (L::T)=0::one T:=rfl
theorem unit_zero (L:Lv)(T:Tw):unit (L::T) 0=1::one T:=rfl
theorem unit_succ (L:Lv)(T:Tw)(j:Nat):unit (L::T) (j+1)=0::unit T j:=rfl
theorem El_unit {T:Tw}(h:Wf T)(j:Nat):El T (unit T j):=by
 induction T generalizing j with
 |nil=>exact El_one h
 |cons L T ih=>cases j with
  |zero=>exact⟨by have:=h.1;omega,El_one h.2.2.2.2⟩
  |succ j=>exact⟨by have:=h.1;omega,ih h.2.2.2.2 j⟩
def Good:Tw→Prop
 |[]=>True
 |L::T=>Good T∧Rel (mul T) (one T) T L.c∧img T L.c L.w=L.w∧∀j<T.length,mul T L.w (it (img T L.c) L.o (unit T j))=mul T (unit T j) L.w
def gens (T:Tw):List (List Nat):=(List.range T.length).map (unit T)
theorem gens_cons (L:Lv)(T:Tw):gens (L::T)=unit (L::T) 0::(gens T).map (0:: ·):=by
 simp[gens,List.range_succ_eq_map,List.map_map,Function.comp_def,unit_succ]
theorem ev_map {α β:Type}{M:α→Prop}{m:α→α→α}{e:α}{m':β→β→β}{e':β}(G:IsG M m e)(f:α→β)(he:f e=e')(hf:∀a b,M a→M b→f (m a b)=m' (f a) (f b)){cs:List α}(hc:∀c∈cs,M c)(x:List Nat):
  f (ev m e cs x)=ev m' e' (cs.map f) x:=by
 induction cs generalizing x with
 |nil=>cases x<;>exact he
 |cons c cs ih=>cases x with
  |nil=>exact he
  |cons a x=>
   have c1:=hc c zq24;have c2:∀d∈cs,M d:=fun d hd=>hc d (zq23 _ hd);have hp:∀k,f (npow m e c k)=npow m' e' (f c) k:=fun k=>by
    induction k with
    |zero=>exact he
    |succ k ihk=>rw[npow_succ,hf _ _ (G.npow c1 k) c1,ihk,npow_succ]
   rw[ev,hf _ _ (G.npow c1 a) (G.ev c2 x),hp,ih c2 x];rfl
theorem grp_gens {T:Tw}(h:Wf T)(hg:Good T):IsG (El T) (mul T) (one T)∧∀x,El T x→ev (mul T) (one T) (gens T) x=x:=by
 induction T with
 |nil=>
  have h0:∀{x},El [] x→x=[]:=by intro x hx;cases x with
   |nil=>rfl
   |cons a x=>exact absurd hx (by simp[El])
  refine⟨⟨fun _ _=>trivial,trivial,fun _ _ _=>rfl,fun ha=>(h0 ha).symm,fun ha=>(h0 ha).symm,fun ha=>⟨[],trivial,rfl,rfl⟩⟩,fun x hx=>?_⟩;rw[h0 hx];rfl
 |cons L T ih=>
  obtain⟨h1,h2,h3,h4,h5⟩:=h;obtain⟨g0,g1,g2,g3⟩:=hg;obtain⟨G,U⟩:=ih h5 g0;have hw:Wf (L::T):=⟨h1,h2,h3,h4,h5⟩;have ie:∀z,img T L.c z=ev (mul T) (one T) L.c z:=fun z=>G.prodL_e h4 z;have iE:∀z,El T (img T L.c z):=fun z=>El_img h5 h4 z;have im:∀y z,El T y→El T z→img T L.c (mul T y z)=mul T (img T L.c y) (img T L.c z):=fun y z hy hz=>by
   rw[ie,ie,ie];exact G.hom h5 h4 g1 hy hz
  have kE:∀k z,El T z→El T (it (img T L.c) k z):=fun k z hz=>it_inv (El T) _ (fun y _=>iE y) k z hz;have km:∀k y z,El T y→El T z→it (img T L.c) k (mul T y z)=mul T (it (img T L.c) k y) (it (img T L.c) k z):=fun k=>by
   induction k with
   |zero=>intro y z _ _;rfl
   |succ k ihk=>intro y z hy hz;rw[it_succ',ihk y z hy hz,im _ _ (kE k y hy) (kE k z hz),←it_succ' (img T L.c),←it_succ' (img T L.c)]
  have i1:img T L.c (one T)=one T:=by
   have:=im _ _ G.me G.me;rw[G.eL G.me]at this;exact G.cancelL (iE _) (iE _) G.me (this.symm.trans (G.eR (iE _)).symm)
  have k1:∀k,it (img T L.c) k (one T)=one T:=fun k=>by
   induction k with
   |zero=>rfl
   |succ k ihk=>rw[it_succ',ihk,i1]
  have kw:∀k,it (img T L.c) k L.w=L.w:=fun k=>by
   induction k with
   |zero=>rfl
   |succ k ihk=>rw[it_succ',ihk,g2]
  have mem_gens:∀c∈gens T,El T c:=by intro c hc;obtain⟨j,_,rfl⟩:=zq35.1 hc;exact El_unit h5 j
  have inner:∀z,El T z→mul T L.w (it (img T L.c) L.o z)=mul T z L.w:=fun z hz=>by
   have e1:it (img T L.c) L.o z=ev (mul T) (one T) ((gens T).map (it (img T L.c) L.o)) z:=by
    conv=>lhs;rw[←U z hz]
    exact ev_map G _ (k1 _) (fun a b ha hb=>km _ a b ha hb) mem_gens z
   have e2:=G.ev_past h2 (es:=gens T) (fs:=(gens T).map (it (img T L.c) L.o)) mem_gens (by intro d hd;obtain⟨q,hq,rfl⟩:=zq35.1 hd;exact kE _ q (mem_gens q hq)) (by simp)
    (fun j p q=>by
     have:=g3 j (by simpa[gens]using p);simpa[gens]using this.symm) z
   rw[U z hz,←e1]at e2;exact e2.symm
  let N:Nat→List Nat→List Nat:=fun k z=>(k%L.o)::it (mul T L.w) (k/L.o) z
  have ho:0<L.o:=by omega
  have N_lt:∀k z,k<L.o→N k z=k::z:=fun k z hk=>by show _::_=_;rw[zq43 hk,Nat.div_eq_of_lt hk];rfl
  have N_ge:∀k z,L.o≤k→N k z=N (k-L.o) (mul T L.w z):=fun k z hk=>by
   show _::_=_::_;rw[Nat.mod_eq_sub_mod hk,Nat.div_eq_sub_div ho hk];rfl
  have mN:∀a x b y,El (L::T) (a::x)→El (L::T) (b::y)→mul (L::T) (a::x) (b::y)=N (a+b) (mul T (it (img T L.c) b x) y):=fun a x b y hx hy=>by
   have:=hx.1;have:=hy.1;rw[mul_cons];split
   ·next hle=>rw[N_ge _ _ hle,N_lt _ _ (by omega)]
   ·next hle=>rw[N_lt _ _ (by omega)]
  have N_El:∀k z,El T z→El (L::T) (N k z):=fun k z hz=>⟨Nat.mod_lt _ ho,it_inv (El T) _ (fun y hy=>G.cl h2 hy) _ z hz⟩;have Nm:∀q k z c y,k/L.o=q→El T z→El (L::T) (c::y)→mul (L::T) (N k z) (c::y)=N (k+c) (mul T (it (img T L.c) c z) y):=fun q=>by
   induction q with
   |zero=>
    intro k z c y hq hz hy;have hk:k<L.o:=by rcases Nat.div_eq_zero_iff.1 hq with h|h<;>omega
    rw[N_lt k z hk,mN k z c y ⟨hk,hz⟩ hy]
   |succ q ihq=>
    intro k z c y hq hz hy;have hk:L.o≤k:=by
     apply Nat.le_of_not_lt;intro h;rw[Nat.div_eq_of_lt h]at hq;omega
    rw[N_ge k z hk,ihq _ _ _ _ (by rw[Nat.div_eq_sub_div ho hk]at hq;omega) (G.cl h2 hz) hy,N_ge (k+c) _ (by omega),km c _ _ h2 hz,kw,G.asc h2 (kE c z hz) hy.2,Nat.sub_add_comm hk]
  have mN':∀q k z a x,k/L.o=q→El T z→El (L::T) (a::x)→mul (L::T) (a::x) (N k z)=N (a+k) (mul T (it (img T L.c) k x) z):=fun q=>by
   induction q with
   |zero=>
    intro k z a x hq hz hx;have hk:k<L.o:=by rcases Nat.div_eq_zero_iff.1 hq with h|h<;>omega
    rw[N_lt k z hk,mN a x k z hx ⟨hk,hz⟩]
   |succ q ihq=>
    intro k z a x hq hz hx;have hk:L.o≤k:=by
     apply Nat.le_of_not_lt;intro h;rw[Nat.div_eq_of_lt h]at hq;omega
    have e1:mul T (it (img T L.c) (k-L.o) x) L.w=mul T L.w (it (img T L.c) k x):=by
     rw[←inner _ (kE _ x hx.2),←it_add,zq80 hk]
    rw[N_ge k z hk,ihq _ _ _ _ (by rw[Nat.div_eq_sub_div ho hk]at hq;omega) (G.cl h2 hz) hx,N_ge (a+k) _ (by omega),←G.asc (kE _ x hx.2) h2 hz,e1,G.asc h2 (kE k x hx.2) hz,Nat.add_sub_assoc hk]
  have hEl:∀{x},El (L::T) x→∃a y,x=a::y:=by intro x hx;cases x with
   |nil=>exact absurd hx (by simp[El])
   |cons a y=>exact⟨a,y,rfl⟩
  have asc:∀{a b c},El (L::T) a→El (L::T) b→El (L::T) c→mul (L::T) (mul (L::T) a b) c=mul (L::T) a (mul (L::T) b c):=by
   intro a b c ha hb hc;obtain⟨a,x,rfl⟩:=hEl ha;obtain⟨b,y,rfl⟩:=hEl hb;obtain⟨c,z,rfl⟩:=hEl hc;rw[mN a x b y ha hb,mN b y c z hb hc,Nm _ _ _ _ _ rfl (G.cl (kE b x ha.2) hb.2) hc,mN' _ _ _ _ _ rfl (G.cl (kE c y hb.2) hc.2) ha,km c _ _ (kE b x ha.2) hb.2,←it_add,G.asc (kE _ x ha.2) (kE c y hb.2) hc.2,zq89 c b,Nat.add_assoc]
  have me:El (L::T) (one (L::T)):=El_one hw;have eL:∀{a},El (L::T) a→mul (L::T) (one (L::T)) a=a:=by
   intro a ha;obtain⟨a,x,rfl⟩:=hEl ha;rw[one_cons,mN 0 (one T) a x me ha,k1,G.eL ha.2,N_lt _ _ (by have:=ha.1;omega),zq39]
  have eR:∀{a},El (L::T) a→mul (L::T) a (one (L::T))=a:=by
   intro a ha;obtain⟨a,x,rfl⟩:=hEl ha;rw[one_cons,mN a x 0 (one T) ha me,it,G.eR ha.2,N_lt _ _ (by have:=ha.1;omega),zq128]
  have cl:∀{a b},El (L::T) a→El (L::T) b→El (L::T) (mul (L::T) a b):=fun ha hb=>El_mul hw ha hb;have ivR:∀{a},El (L::T) a→∃b,El (L::T) b∧mul (L::T) a b=one (L::T):=by
   intro a ha;obtain⟨a,x,rfl⟩:=hEl ha;by_cases h0:a=0
   ·subst h0;obtain⟨y,hy,e1,_⟩:=G.iv ha.2;refine⟨0::y,⟨ho,hy⟩,?_⟩;rw[mN 0 x 0 y ha ⟨ho,hy⟩,it,e1,N_lt _ _ (by omega)];rfl
   ·have hlt:=ha.1;have hx:=kE (L.o-a) x ha.2;obtain⟨y,hy,e1,_⟩:=G.iv (G.cl h2 hx);refine⟨(L.o-a)::y,⟨by omega,hy⟩,?_⟩;rw[mN a x _ y ha ⟨by omega,hy⟩,zq80 (by omega),N_ge _ _ zqN,N_lt _ _ (by omega),←G.asc h2 hx hy,e1,zq127];rfl
  have iv:∀{a},El (L::T) a→∃b,El (L::T) b∧mul (L::T) a b=one (L::T)∧mul (L::T) b a=one (L::T):=by
   intro a ha;obtain⟨b,hb,e1⟩:=ivR ha;obtain⟨c,hc,e2⟩:=ivR hb;refine⟨b,hb,e1,?_⟩;have:a=c:=by
    rw[←eR ha,←e2,←asc ha hb hc,e1,eL hc]
   rw[this];exact e2
  have G':IsG (El (L::T)) (mul (L::T)) (one (L::T)):=⟨cl,me,asc,eL,eR,iv⟩;refine⟨G',fun x hx=>?_⟩;obtain⟨a,x,rfl⟩:=hEl hx;have e0:∀k,k<L.o→npow (mul (L::T)) (one (L::T)) (unit (L::T) 0) k=k::one T:=fun k=>by
   induction k with
   |zero=>intro _;rfl
   |succ k ihk=>
    intro hk;rw[npow_succ,ihk (by omega),unit_zero,mN k _ 1 _ ⟨by omega,G.me⟩ ⟨by omega,G.me⟩,k1,G.eL G.me,N_lt _ _ hk]
  have m0:∀y z,El T y→El T z→mul (L::T) (0::y) (0::z)=0::mul T y z:=fun y z hy hz=>by
   rw[mN 0 y 0 z ⟨ho,hy⟩ ⟨ho,hz⟩,it,N_lt _ _ (by omega)]
  rw[gens_cons,ev,e0 a hx.1,←ev_map (f:=(0:: ·)) (m':=mul (L::T)) (e':=one (L::T)) G rfl (fun y z hy hz=>(m0 y z hy hz).symm) mem_gens x,U x hx.2,mN a _ 0 x ⟨hx.1,G.me⟩ ⟨ho,hx.2⟩,it,G.eL hx.2,zq128,N_lt _ _ hx.1]
theorem grp {T:Tw}(h:Wf T)(hg:Good T):IsG (El T) (mul T) (one T):=(grp_gens h hg).1
theorem ev_gens {T:Tw}(h:Wf T)(hg:Good T){x:List Nat}(hx:El T x):ev (mul T) (one T) (gens T) x=x:=(grp_gens h hg).2 x hx
end Go.Proofs.YtlmlamcoeegkbaaGreat.Tow
namespace Go.Proofs.YtlmlamcoeegkbaaGreat.Tow
instance:Inhabited Lv:=⟨⟨0,[],[]⟩⟩
def pad (s:Nat)(x:List Nat):List Nat:=List.replicate s 0++x
theorem pad_zero (x:List Nat):pad 0 x=x:=rfl
theorem pad_succ (s:Nat)(x:List Nat):pad (s+1) x=0::pad s x:=rfl
theorem pad_add (s t:Nat)(x:List Nat):pad s (pad t x)=pad (s+t) x:=by
 simp[pad,←zq74]
theorem pad_length (s:Nat)(x:List Nat):(pad s x).length=s+x.length:=by simp[pad]
theorem pad_drop (s:Nat)(x:List Nat):(pad s x).drop s=x:=by simp[pad]
theorem Wf_drop {T:Tw}(h:Wf T)(s:Nat):Wf (T.drop s):=by
 induction s generalizing T with
 |zero=>exact h
 |succ s ih=>cases T with
  |nil=>exact h
  |cons L T=>exact ih h.2.2.2.2
theorem Good_drop {T:Tw}(h:Good T)(s:Nat):Good (T.drop s):=by
 induction s generalizing T with
 |zero=>exact h
 |succ s ih=>cases T with
  |nil=>exact h
  |cons L T=>exact ih h.1
theorem El_drop {T:Tw}{x:List Nat}(h:El T x)(s:Nat):El (T.drop s) (x.drop s):=by
 induction s generalizing T x with
 |zero=>exact h
 |succ s ih=>cases T with
  |nil=>cases x with
   |nil=>exact h
   |cons a x=>exact absurd h (by simp[El])
  |cons L T=>cases x with
   |nil=>exact absurd h (by simp[El])
   |cons a x=>exact ih h.2
theorem El_pad {T:Tw}(h:Wf T)(s:Nat){x:List Nat}(hx:El (T.drop s) x)(hs:s≤T.length):El T (pad s x):=by
 induction s generalizing T with
 |zero=>exact hx
 |succ s ih=>cases T with
  |nil=>simp at hs
  |cons L T=>exact⟨by have:=h.1;omega,ih h.2.2.2.2 hx (by simpa using hs)⟩
theorem one_pad (T:Tw)(s:Nat)(h:s≤T.length):pad s (Tow.one (T.drop s))=Tow.one T:=by
 simp[pad,Tow.one,zq80 h]
theorem unit_pad (T:Tw)(s j:Nat)(h:s≤T.length):pad s (unit (T.drop s) j)=unit T (s+j):=by
 induction s generalizing T with
 |zero=>simp[pad_zero]
 |succ s ih=>cases T with
  |nil=>simp at h
  |cons L T=>
   rw[pad_succ,Nat.succ_add,unit_succ,←ih T (by simpa using h)];rfl
theorem mul_pad {T:Tw}(h:Wf T)(s:Nat){x y:List Nat}(hx:El T x)(hy:El (T.drop s) y)(hs:s≤T.length):mul T x (pad s y)=x.take s++mul (T.drop s) (x.drop s) y:=by
 induction s generalizing T x with
 |zero=>rfl
 |succ s ih=>cases T with
  |nil=>simp at hs
  |cons L T=>cases x with
   |nil=>exact absurd hx (by simp[El])
   |cons a x=>
    have:=hx.1;rw[pad_succ,mul_cons,zq37 (by omega),it,ih h.2.2.2.2 hx.2 hy (by simpa using hs)];rfl
theorem mul_pads {T:Tw}(h:Wf T)(s:Nat){x y:List Nat}(hx:El (T.drop s) x)(hy:El (T.drop s) y)(hs:s≤T.length):mul T (pad s x) (pad s y)=pad s (mul (T.drop s) x y):=by
 rw[mul_pad h s (El_pad h s hx hs) hy hs,pad_drop];simp[pad]
theorem prodL_pad {α:Type}(m:α→α→α)(u:α)(cs:List α)(s:Nat)(y:List Nat)(hs:s≤cs.length):prodL m u cs (pad s y)=prodL m u (cs.drop s) y:=by
 induction s generalizing cs with
 |zero=>rfl
 |succ s ih=>cases cs with
  |nil=>simp at hs
  |cons c cs=>rw[pad_succ,prodL,it,ih cs (by simpa using hs)];rfl
theorem img_pad (T:Tw)(c:List (List Nat))(s:Nat)(y:List Nat)(hs:s≤c.length):img T c (pad s y)=prodL (mul T) (Tow.one T) (c.drop s) y:=prodL_pad _ _ _ _ _ hs
theorem Rel_iff {α:Type}{m:α→α→α}{e:α}{T:Tw}(hT:Wf T){cs:List α}:Rel m e T cs↔cs.length=T.length∧(∀j<T.length,npow m e (cs.getD j e) (T.getD j default).o=ev m e (cs.drop (j+1)) (T.getD j default).w)∧
  (∀j<T.length,∀k,j<k→k<T.length→m (cs.getD k e) (cs.getD j e)=m (cs.getD j e) (ev m e (cs.drop (j+1)) ((T.getD j default).c.getD (k-j-1) []))):=by
 induction T generalizing cs with
 |nil=>cases cs with
  |nil=>exact⟨fun _=>⟨rfl,fun j hj=>absurd hj (zq33 _),fun j hj=>absurd hj (zq33 _)⟩,fun _=>trivial⟩
  |cons c cs=>exact⟨fun h=>absurd h (by simp[Rel]),fun h=>absurd h.1 (by simp)⟩
 |cons L T ih=>cases cs with
  |nil=>exact⟨fun h=>absurd h (by simp[Rel]),fun h=>absurd h.1 (by simp)⟩
  |cons c cs=>
   obtain⟨h1,h2,h3,h4,h5⟩:=hT;rw[Rel,ih h5];constructor
   ·rintro⟨a1,a2,b1,b2,b3⟩;refine⟨by simp[b1],fun j hj=>?_,fun j hj k hk hk'=>?_⟩
    ·cases j with
     |zero=>simpa using a1
     |succ j=>simpa using b2 j (by simpa using hj)
    ·cases j with
     |zero=>cases k with
      |zero=>omega
      |succ k=>
       have hk2:k<cs.length:=by simp at hk';omega
       have:=a2 k hk2 (by simp at hk';omega);simpa[zq9,zq0 hk2,zq0 (show k<L.c.length by simp at hk';omega)]using this
     |succ j=>cases k with
      |zero=>omega
      |succ k=>
       have:=b3 j (by simpa using hj) k (by omega) (by simpa using hk');simpa[Nat.add_sub_add_right,show k+1-(j+1)=k-j by omega]using this
   ·rintro⟨b1,b2,b3⟩;have hl:cs.length=T.length:=by simpa using b1
    refine⟨by simpa using b2 0 (by simp),fun j p q=>?_,hl,fun j hj=>?_,fun j hj k hk hk'=>?_⟩
    ·have:=b3 0 (by simp) (j+1) (by omega) (by simp;omega);simpa[zq9,zq0 p,zq0 q]using this
    ·simpa using b2 (j+1) (by simpa using hj)
    ·have:=b3 (j+1) (by simpa using hj) (k+1) (by omega) (by simpa using hk');simpa[show k+1-(j+1)-1=k-j-1 by omega]using this
def LvOk (L:Lv)(T:Tw):Prop:=Rel (mul T) (Tow.one T) T L.c∧img T L.c L.w=L.w∧∀j<T.length,mul T L.w (it (img T L.c) L.o (unit T j))=mul T (unit T j) L.w
theorem Good_cons (L:Lv)(T:Tw):Good (L::T)↔Good T∧LvOk L T:=Iff.rfl
theorem LvOk_iff {L:Lv}{T:Tw}(h:Wf (L::T))(hg:Good T):LvOk L T↔
  (∀j<T.length,npow (mul T) (Tow.one T) (L.c.getD j (Tow.one T)) (T.getD j default).o=img T L.c (pad (j+1) (T.getD j default).w))∧
  (∀j<T.length,∀k,j<k→k<T.length→mul T (L.c.getD k (Tow.one T)) (L.c.getD j (Tow.one T))=mul T (L.c.getD j (Tow.one T)) (img T L.c (pad (j+1) ((T.getD j default).c.getD (k-j-1) []))))∧
  img T L.c L.w=L.w∧∀j<T.length,mul T L.w (it (img T L.c) L.o (unit T j))=mul T (unit T j) L.w:=by
 obtain⟨h1,h2,h3,h4,h5⟩:=h;have G:=grp h5 hg;have hp:∀j<T.length,∀y,img T L.c (pad (j+1) y)=ev (mul T) (Tow.one T) (L.c.drop (j+1)) y:=fun j hj y=>by
  rw[img_pad T L.c (j+1) y (by omega),G.prodL_e (fun c hc=>h4 c (zq72 hc)) y]
 rw[LvOk,Rel_iff h5];constructor
 ·rintro⟨⟨_,a1,a2⟩,a3,a4⟩;exact⟨fun j hj=>by rw[hp j hj,a1 j hj],fun j hj k hk hk'=>by rw[hp j hj,a2 j hj k hk hk'],a3,a4⟩
 ·rintro⟨a1,a2,a3,a4⟩;exact⟨⟨h3,fun j hj=>by rw[←hp j hj,a1 j hj],fun j hj k hk hk'=>by rw[←hp j hj,a2 j hj k hk hk']⟩,a3,a4⟩
theorem El_lt {T:Tw}{x:List Nat}(h:El T x){j a:Nat}(ha:x[j]?=some a):∃L,T[j]?=some L∧a<L.o:=by
 induction T generalizing x j with
 |nil=>cases x with
  |nil=>simp at ha
  |cons b x=>exact absurd h (by simp[El])
 |cons L T ih=>cases x with
  |nil=>exact absurd h (by simp[El])
  |cons b x=>cases j with
   |zero=>simp at ha;subst ha;exact⟨L,rfl,h.1⟩
   |succ j=>simpa using ih h.2 (by simpa using ha)
def Small (T:Tw):Prop:=T.length≤6∧∀L∈T,L.o≤7
theorem Small.lt {T:Tw}(hs:Small T){s:Nat}{x:List Nat}(h:El (T.drop s) (x.drop s)){j a:Nat}(hj:s≤j)(ha:x[j]?=some a):a<7:=by
 obtain⟨L,hL,hlt⟩:=El_lt h (j:=j-s) (a:=a) (by rw[zq63,zq80 hj];exact ha);have:=hs.2 L (zq72 (zq5 hL));omega
def prR {α:Type}(m:α→α→α)(u d:α)(cs:List α)(y:List Nat)(j k:Nat):α:=it (fun z=>m z (cs.getD j d)) k (prodL m u (cs.take j) (y.take j))
theorem prR_zero {α:Type}(m:α→α→α)(u d:α)(cs:List α)(y:List Nat):prR m u d cs y 0 0=u:=by cases cs<;>rfl
theorem prR_step {α:Type}(m:α→α→α)(u d:α)(cs:List α)(y:List Nat)(j k:Nat):prR m u d cs y j (k+1)=m (prR m u d cs y j k) (cs.getD j d):=it_succ' _ _ _
theorem prodL_take {α:Type}(m:α→α→α)(u:α)(cs:List α)(y:List Nat)(j a:Nat)(c:α)(hc:cs[j]?=some c)(hy:y[j]?=some a):prodL m u (cs.take (j+1)) (y.take (j+1))=it (fun z=>m z c) a (prodL m u (cs.take j) (y.take j)):=by
 induction j generalizing u cs y with
 |zero=>cases cs with
  |nil=>simp at hc
  |cons d cs=>cases y with
   |nil=>simp at hy
   |cons b y=>simp at hc hy;subst hc;subst hy;cases cs<;>rfl
 |succ j ih=>cases cs with
  |nil=>simp at hc
  |cons d cs=>cases y with
   |nil=>simp at hy
   |cons b y=>exact ih _ cs y (by simpa using hc) (by simpa using hy)
theorem prR_next {α:Type}(m:α→α→α)(u d:α)(cs:List α)(y:List Nat)(j a:Nat)(hj:j<cs.length)(hy:y[j]?=some a):prR m u d cs y j a=prR m u d cs y (j+1) 0:=by
 have hc:cs[j]?=some (cs.getD j d):=by rw[zq9,zq0 hj];rfl
 exact(prodL_take m u cs y j a _ hc hy).symm
theorem prR_end {α:Type}(m:α→α→α)(u d:α)(cs:List α)(y:List Nat)(j:Nat)(hj:cs.length≤j)(hy:y.length≤j):prR m u d cs y j 0=prodL m u cs y:=by
 show prodL m u (cs.take j) (y.take j)=_;rw[zq90 hj,zq90 hy]
theorem prR_inv {α:Type}(M:α→Prop)(m:α→α→α)(hm:∀x y,M x→M y→M (m x y))(u d:α)(cs:List α)(y:List Nat)(hu:M u)(hd:M d)(hc:∀c∈cs,M c)(j k:Nat):M (prR m u d cs y j k):=by
 refine it_inv M _ (fun z hz=>hm _ _ hz ?_) k _ (prodL_inv M m hm _ (fun c h=>hc c (zq137 h)) _ _ hu);rw[zq9];cases h:cs[j]? with
 |none=>exact hd
 |some c=>exact hc c (zq5 h)
theorem IsG.npow_sq {α:Type}{M:α→Prop}{m:α→α→α}{e:α}(G:IsG M m e){b:α}(hb:M b)(h:Nat):Tow.npow m e (m b b) h=Tow.npow m e b (2*h):=by
 induction h with
 |zero=>rfl
 |succ h ih=>
  rw[npow_succ,ih,show 2*(h+1)=2*h+1+1 by omega,npow_succ,npow_succ,G.asc (G.npow hb _) hb hb]
theorem IsG.npow_comm {α:Type}{M:α→Prop}{m:α→α→α}{e:α}(G:IsG M m e){b:α}(hb:M b)(h:Nat):m b (Tow.npow m e b h)=Tow.npow m e b (h+1):=by
 rw[zq89,G.npow_add hb 1 h,G.npow_one hb]
theorem IsG.rep_even {α:Type}{M:α→Prop}{m:α→α→α}{e:α}(G:IsG M m e){o b:α}(hb:M b){k:Nat}(hk:k%2=0):m o (Tow.npow m e b k)=m o (Tow.npow m e (m b b) (k/2)):=by
 rw[G.npow_sq hb,show 2*(k/2)=k by omega]
theorem IsG.rep_odd {α:Type}{M:α→Prop}{m:α→α→α}{e:α}(G:IsG M m e){o b:α}(ho:M o)(hb:M b){k:Nat}(hk:k%2=1):m o (Tow.npow m e b k)=m (m o b) (Tow.npow m e (m b b) (k/2)):=by
 rw[G.npow_sq hb,G.asc ho hb (G.npow hb _),G.npow_comm hb,show 2*(k/2)+1=k by omega]
end Go.Proofs.YtlmlamcoeegkbaaGreat.Tow
namespace Go.Proofs.YtlmlamcoeegkbaaGreat
open Go.RowKit Tow
structure Keep (S:Nat→Prop)(w w':World):Prop where
 size:w.heap.size≤w'.heap.size
 block:∀k,S k→k<w.heap.size→w'.heap[k]?=w.heap[k]?
theorem Keep.refl (S:Nat→Prop)(w:World):Keep S w w:=⟨zq1 _,fun _ _ _=>rfl⟩
theorem Keep.trans {S:Nat→Prop}{a b c:World}(h:Keep S a b)(k:Keep S b c):Keep S a c:=
 ⟨zq11 h.size k.size,fun i hi hs=>(k.block i hi (zq7 hs h.size)).trans (h.block i hi hs)⟩
theorem Keep.mono {S S':Nat→Prop}{a b:World}(h:Keep S a b)(hS:∀k,S' k→S k):Keep S' a b:=⟨h.size,fun k hk=>h.block k (hS k hk)⟩
theorem Keep.of_below {S:Nat→Prop}{a b:World}(h:Below a.heap.size a b):Keep S a b:=⟨h.size,fun k hk hs=>h.block k hs⟩
theorem Keep.lt {B:Nat}{a b:World}(h:Below B a b):Keep (· <B) a b:=⟨h.size,fun k hk hs=>h.block k hk⟩
theorem Keep.grown {S:Nat→Prop}{a b:World}{row:Option Nat}(h:a.grownBy b row)(hS:∀k,S k→some k≠row):Keep S a b:=⟨h.size,fun k hk hs=>h.block k hs (hS k hk)⟩
theorem Keep.alloc {S:Nat→Prop}{a w:World}(h:Keep S a w)(o:Obj):Keep S a (w.alloc o):=
 h.trans ⟨by simp,fun k _ hs=>zq48 _ _ _ hs⟩
theorem Keep.drew {S:Nat→Prop}{a w:World}(h:Keep S a w):Keep S a w.drew:=⟨h.size,h.block⟩
theorem Keep.setCell {S:Nat→Prop}{a w:World}(h:Keep S a w){p:Addr}(hp:¬S p.block)(u:Value):Keep S a (w.setCell p u):=
 h.trans ⟨by simp[World.setCell],fun k hk _=>Below.heap_setCell _ _ _ _ (fun e=>hp (e▸hk))⟩
theorem Keep.cell {S:Nat→Prop}{w w':World}(h:Keep S w w'){b o:Nat}(hS:S b)(hb:b<w.heap.size):w'.cell? ⟨b,o,none⟩=w.cell? ⟨b,o,none⟩:=
 World.cell?_of_block (w:=w) (h.block b hS hb)
def SlG {α:Type}(E:World→Value→α→Prop)(S:Nat→Prop)(w:World)(v:Value)(l:List α):Prop:=
 ∃ao c,v= .slice ao l.length c∧l.length≤c∧c≤maxLen∧(ao=none→c=0)∧∀i x,l[i]?=some x→∃b o,ao=some ⟨b,o,none⟩∧S b∧b<w.heap.size∧∃u,w.cell? ⟨b,o+i,none⟩=some u∧E w u x
theorem SlG.keep {α:Type}{E:World→Value→α→Prop}{S:Nat→Prop}{w w':World}{v:Value}{l:List α}(h:SlG E S w v l)(hk:Keep S w w')(hE:∀u x,E w u x→E w' u x):SlG E S w' v l:=by
 obtain⟨ao,c,h1,h2,h3,h0,h4⟩:=h;refine⟨ao,c,h1,h2,h3,h0,fun i x hx=>?_⟩;obtain⟨b,o,e1,e2,e3,u,e4,e5⟩:=h4 i x hx;exact⟨b,o,e1,e2,zq7 e3 hk.size,u,by rw[hk.cell e2 e3];exact e4,hE _ _ e5⟩
theorem SlG.mono {α:Type}{E E':World→Value→α→Prop}{S S':Nat→Prop}{w:World}{v:Value}{l:List α}(h:SlG E S w v l)(hS:∀k,S k→S' k)(hE:∀u x,E w u x→E' w u x):SlG E' S' w v l:=by
 obtain⟨ao,c,h1,h2,h3,h0,h4⟩:=h;refine⟨ao,c,h1,h2,h3,h0,fun i x hx=>?_⟩;obtain⟨b,o,e1,e2,e3,u,e4,e5⟩:=h4 i x hx;exact⟨b,o,e1,hS _ e2,e3,u,e4,hE _ _ e5⟩
def SlI (S:Nat→Prop)(w:World)(v:Value)(l:List Int):Prop:=SlG (fun _ u x=>u= .int .i64 x) S w v l
def Sl2 (S:Nat→Prop)(w:World)(v:Value)(l:List (List Int)):Prop:=SlG (fun w u x=>SlI S w u x) S w v l
def Sl3 (S:Nat→Prop)(w:World)(v:Value)(l:List (List (List Int))):Prop:=SlG (fun w u x=>Sl2 S w u x) S w v l
theorem SlI.keep {S:Nat→Prop}{w w':World}{v:Value}{l:List Int}(h:SlI S w v l)(hk:Keep S w w'):SlI S w' v l:=SlG.keep h hk (fun _ _ e=>e)
theorem Sl2.keep {S:Nat→Prop}{w w':World}{v:Value}{l:List (List Int)}(h:Sl2 S w v l)(hk:Keep S w w'):Sl2 S w' v l:=SlG.keep h hk (fun _ _ e=>SlI.keep e hk)
theorem Sl3.keep {S:Nat→Prop}{w w':World}{v:Value}{l:List (List (List Int))}(h:Sl3 S w v l)(hk:Keep S w w'):Sl3 S w' v l:=SlG.keep h hk (fun _ _ e=>Sl2.keep e hk)
theorem SlI.mono {S S':Nat→Prop}{w:World}{v:Value}{l:List Int}(h:SlI S w v l)(hS:∀k,S k→S' k):SlI S' w v l:=SlG.mono h hS (fun _ _ e=>e)
theorem Sl2.mono {S S':Nat→Prop}{w:World}{v:Value}{l:List (List Int)}(h:Sl2 S w v l)(hS:∀k,S k→S' k):Sl2 S' w v l:=SlG.mono h hS (fun _ _ e=>SlI.mono e hS)
theorem Sl3.mono {S S':Nat→Prop}{w:World}{v:Value}{l:List (List (List Int))}(h:Sl3 S w v l)(hS:∀k,S k→S' k):Sl3 S' w v l:=SlG.mono h hS (fun _ _ e=>Sl2.mono e hS)
def ints (l:List Nat):List Int:=l.map Int.ofNat
theorem ints_length (l:List Nat):(ints l).length=l.length:=by simp[ints]
theorem ints_get (l:List Nat)(i:Nat):(ints l)[i]?=(l[i]?).map Int.ofNat:=by simp[ints]
structure Pres where
 os:List Int
 ps:List (List Int)
 cs:List (List (List Int))
structure ValP (S:Nat→Prop)(w:World)(vO vP vC:Value)(P:Pres):Prop where
 os:SlI S w vO P.os
 ps:Sl2 S w vP P.ps
 cs:Sl3 S w vC P.cs
theorem ValP.keep {S:Nat→Prop}{w w':World}{vO vP vC:Value}{P:Pres}(h:ValP S w vO vP vC P)(hk:Keep S w w'):ValP S w' vO vP vC P:=⟨h.os.keep hk,h.ps.keep hk,h.cs.keep hk⟩
theorem ValP.mono {S S':Nat→Prop}{w:World}{vO vP vC:Value}{P:Pres}(h:ValP S w vO vP vC P)(hS:∀k,S k→S' k):ValP S' w vO vP vC P:=⟨h.os.mono hS,h.ps.mono hS,h.cs.mono hS⟩
def PtrP (S:Nat→Prop)(w:World)(b o:Nat)(P:Pres):Prop:=
 S b∧b<w.heap.size∧∃vO vP vC,w.cell? ⟨b,o,none⟩=some vO∧w.cell? ⟨b,o+1,none⟩=some vP∧w.cell? ⟨b,o+2,none⟩=some vC∧ValP S w vO vP vC P
theorem PtrP.keep {S:Nat→Prop}{w w':World}{b o:Nat}{P:Pres}(h:PtrP S w b o P)(hk:Keep S w w'):PtrP S w' b o P:=by
 obtain⟨h1,h2,vO,vP,vC,c1,c2,c3,hv⟩:=h;exact⟨h1,zq7 h2 hk.size,vO,vP,vC,by rw[hk.cell h1 h2];exact c1,by rw[hk.cell h1 h2];exact c2,by rw[hk.cell h1 h2];exact c3,hv.keep hk⟩
theorem PtrP.mono {S S':Nat→Prop}{w:World}{b o:Nat}{P:Pres}(h:PtrP S w b o P)(hS:∀k,S k→S' k):PtrP S' w b o P:=by
 obtain⟨h1,h2,vO,vP,vC,c1,c2,c3,hv⟩:=h;exact⟨hS _ h1,h2,vO,vP,vC,c1,c2,c3,hv.mono hS⟩
def powF:Nat→Tw→List (List Int)
 |_,[]=>[]
 |s,L::T=>ints (pad (s+1) L.w)::powF (s+1) T
def conF:Nat→Tw→List (List (List Int))
 |_,[]=>[]
 |s,L::T=>L.c.map (fun y=>ints (pad (s+1) y))::conF (s+1) T
def ofTw (T:Tw):Pres:=⟨T.map (fun L=>(L.o:Int)),powF 0 T,conF 0 T⟩
theorem powF_length (s:Nat)(T:Tw):(powF s T).length=T.length:=by
 induction T generalizing s with
 |nil=>rfl
 |cons L T ih=>simp[powF,ih]
theorem conF_length (s:Nat)(T:Tw):(conF s T).length=T.length:=by
 induction T generalizing s with
 |nil=>rfl
 |cons L T ih=>simp[conF,ih]
theorem powF_get (s:Nat)(T:Tw)(j:Nat):(powF s T)[j]?=(T[j]?).map fun L=>ints (pad (s+j+1) L.w):=by
 induction T generalizing s j with
 |nil=>simp[powF]
 |cons L T ih=>cases j with
  |zero=>simp[powF]
  |succ j=>simp only[powF,zq14,ih];rw[show s+1+j+1=s+(j+1)+1 by omega]
theorem conF_get (s:Nat)(T:Tw)(j:Nat):(conF s T)[j]?=(T[j]?).map fun L=>L.c.map fun y=>ints (pad (s+j+1) y):=by
 induction T generalizing s j with
 |nil=>simp[conF]
 |cons L T ih=>cases j with
  |zero=>simp[conF]
  |succ j=>simp only[conF,zq14,ih];rw[show s+1+j+1=s+(j+1)+1 by omega]
theorem ofTw_os (T:Tw):(ofTw T).os.length=T.length:=by simp[ofTw]
theorem ofTw_ps (T:Tw):(ofTw T).ps.length=T.length:=powF_length _ _
theorem ofTw_cs (T:Tw):(ofTw T).cs.length=T.length:=conF_length _ _
theorem ofTw_os_get (T:Tw)(j:Nat)(L:Lv)(h:T[j]?=some L):(ofTw T).os[j]?=some (L.o:Int):=by simp[ofTw,h]
theorem ofTw_ps_get (T:Tw)(j:Nat)(L:Lv)(h:T[j]?=some L):(ofTw T).ps[j]?=some (ints (pad (j+1) L.w)):=by
 show(powF 0 T)[j]?=_;rw[powF_get,h];simp
theorem ofTw_cs_get (T:Tw)(j:Nat)(L:Lv)(h:T[j]?=some L):(ofTw T).cs[j]?=some (L.c.map fun y=>ints (pad (j+1) y)):=by
 show(conF 0 T)[j]?=_;rw[conF_get,h];simp
theorem ValP.open {S:Nat→Prop}{w:World}{vO vP vC:Value}{T:Tw}(h:ValP S w vO vP vC (ofTw T)):∃aO cO aP cP aC cC,vO= .slice aO T.length cO∧vP= .slice aP T.length cP∧vC= .slice aC T.length cC∧
  T.length≤cO∧T.length≤cP∧T.length≤cC:=by
 obtain⟨aO,cO,e1,l1,_⟩:=h.os;obtain⟨aP,cP,e2,l2,_⟩:=h.ps;obtain⟨aC,cC,e3,l3,_⟩:=h.cs;rw[ofTw_os]at e1 l1;rw[ofTw_ps]at e2 l2;rw[ofTw_cs]at e3 l3;exact⟨aO,cO,aP,cP,aC,cC,e1,e2,e3,l1,l2,l3⟩
theorem ValP.ord {S:Nat→Prop}{w:World}{aO:Option Addr}{n cO:Nat}{vP vC:Value}{T:Tw}(h:ValP S w (.slice aO n cO) vP vC (ofTw T)){j:Nat}{L:Lv}(hL:T[j]?=some L):
  ∃b o,aO=some ⟨b,o,none⟩∧S b∧b<w.heap.size∧w.cell? ⟨b,o+j,none⟩=some (.int .i64 (L.o:Int)):=by
 obtain⟨ao,c,e,_,_,_,hx⟩:=h.os;obtain⟨rfl,_,_⟩:aO=ao∧n=(ofTw T).os.length∧cO=c:=by simpa using e
 obtain⟨b,o,e1,e2,e3,u,e4,rfl⟩:=hx j _ (ofTw_os_get T j L hL);exact⟨b,o,e1,e2,e3,e4⟩
theorem ValP.pow {S:Nat→Prop}{w:World}{aP:Option Addr}{n cP:Nat}{vO vC:Value}{T:Tw}(h:ValP S w vO (.slice aP n cP) vC (ofTw T)){j:Nat}{L:Lv}(hL:T[j]?=some L):
  ∃b o u,aP=some ⟨b,o,none⟩∧S b∧b<w.heap.size∧w.cell? ⟨b,o+j,none⟩=some u∧SlI S w u (ints (pad (j+1) L.w)):=by
 obtain⟨ao,c,e,_,_,_,hx⟩:=h.ps;obtain⟨rfl,_,_⟩:aP=ao∧n=(ofTw T).ps.length∧cP=c:=by simpa using e
 obtain⟨b,o,e1,e2,e3,u,e4,e5⟩:=hx j _ (ofTw_ps_get T j L hL);exact⟨b,o,u,e1,e2,e3,e4,e5⟩
theorem ValP.con {S:Nat→Prop}{w:World}{aC:Option Addr}{n cC:Nat}{vO vP:Value}{T:Tw}(h:ValP S w vO vP (.slice aC n cC) (ofTw T)){j:Nat}{L:Lv}(hL:T[j]?=some L):
  ∃b o a2 c2,aC=some ⟨b,o,none⟩∧S b∧b<w.heap.size∧w.cell? ⟨b,o+j,none⟩=some (.slice a2 L.c.length c2)∧L.c.length≤c2∧
   ∀k y,L.c[k]?=some y→∃b2 o2 u,a2=some ⟨b2,o2,none⟩∧S b2∧b2<w.heap.size∧w.cell? ⟨b2,o2+k,none⟩=some u∧SlI S w u (ints (pad (j+1) y)):=by
 obtain⟨ao,c,e,_,_,_,hx⟩:=h.cs;obtain⟨rfl,_,_⟩:aC=ao∧n=(ofTw T).cs.length∧cC=c:=by simpa using e
 obtain⟨b,o,e1,e2,e3,u,e4,e5⟩:=hx j _ (ofTw_cs_get T j L hL);obtain⟨a2,c2,rfl,l2,_,_,h2⟩:=e5;rw[zq18]at e4 l2;refine⟨b,o,a2,c2,e1,e2,e3,e4,l2,fun k y hy=>?_⟩;obtain⟨b2,o2,f1,f2,f3,u,f4,f5⟩:=h2 k (ints (pad (j+1) y)) (by simp[hy]);exact⟨b2,o2,u,f1,f2,f3,f4,f5⟩
theorem SlI.at {S:Nat→Prop}{w:World}{a:Option Addr}{n c:Nat}{x:List Nat}(h:SlI S w (.slice a n c) (ints x)){j q:Nat}(hq:x[j]?=some q):
  ∃b o,a=some ⟨b,o,none⟩∧S b∧b<w.heap.size∧w.cell? ⟨b,o+j,none⟩=some (.int .i64 (q:Int)):=by
 obtain⟨ao,c',e,_,_,_,hx⟩:=h;obtain⟨rfl,_,_⟩:a=ao∧n=(ints x).length∧c=c':=by simpa using e
 obtain⟨b,o,e1,e2,e3,u,e4,rfl⟩:=hx j (q:Int) (by rw[ints_get,hq];rfl);exact⟨b,o,e1,e2,e3,e4⟩
theorem SlI.open {S:Nat→Prop}{w:World}{v:Value}{x:List Nat}(h:SlI S w v (ints x)):∃a c,v= .slice a x.length c∧x.length≤c:=by
 obtain⟨a,c,e,l,_⟩:=h;rw[ints_length]at e l;exact⟨a,c,e,l⟩
end Go.Proofs.YtlmlamcoeegkbaaGreat
namespace Go.Proofs.YtlmlamcoeegkbaaGreat
theorem zqK{S:Nat→Prop}{w:World}:Keep S w w:=Keep.refl _ _
end Go.Proofs.YtlmlamcoeegkbaaGreat
namespace Go.Proofs.YtlmlamcoeegkbaaGreat.Tow
theorem lvl' {T:Tw}(hT:Wf T){i:Nat}{L:Lv}(hL:T[i]?=some L):Wf (T.drop (i+1))∧L.c.length=T.length-(i+1)∧(∀y∈L.c,El (T.drop (i+1)) y)∧El (T.drop (i+1)) L.w∧2≤L.o:=by
 have hi:i<T.length:=(zq2.1 hL).1;have e:T.drop i=L::T.drop (i+1):=by rw[zq32 hi,(zq2.1 hL).2]
 have:=Wf_drop hT i;rw[e]at this;exact⟨this.2.2.2.2,by rw[this.2.2.1];simp,this.2.2.2.1,this.2.1,this.1⟩
theorem drop_cons' {T:Tw}{i:Nat}{L:Lv}(hL:T[i]?=some L):T.drop i=L::T.drop (i+1):=by
 have hi:i<T.length:=(zq2.1 hL).1;rw[zq32 hi,(zq2.1 hL).2]
def tg:Tw→List Nat→List Nat
 |L::T,a::r=>(if a+1=L.o then 0 else a+1)::prodL (mul T) (if a+1=L.o then L.w else Tow.one T) L.c r
 |_,_=>[]
theorem tg_mul {L:Lv}{T:Tw}(h:Wf (L::T))(hg:Good T){x:List Nat}(hx:El (L::T) x):tg (L::T) x=mul (L::T) x (unit (L::T) 0):=by
 cases x with
 |nil=>exact absurd hx (by simp[El])
 |cons a r=>
  obtain⟨h1,h2,h3,h4,h5⟩:=h;have G:=grp h5 hg;have ha:=hx.1;rw[unit_zero,mul_cons,tg,show it (img T L.c) 1 r=img T L.c r from rfl,G.eR (El_img h5 h4 r)];have hi:img T L.c r=ev (mul T) (Tow.one T) L.c r:=G.prodL_e h4 r;by_cases hc:a+1=L.o
  ·rw[zq57 hc,zq57 hc,zq57 (by omega),G.prodL h4 r h2,hi,show a+1-L.o=0 by omega]
  ·rw[zq37 hc,zq37 hc,zq37 (by omega),G.prodL h4 r G.me,hi,G.eL (G.ev h4 r)]
def vv (T:Tw)(s:Nat)(u e f:List Nat)(j k:Nat):List Nat:=if j<s then u++e else u++prR (mul (T.drop s)) e (Tow.one (T.drop s)) (gens (T.drop s)) f (j-s) k
theorem gens_length (T:Tw):(gens T).length=T.length:=by simp[gens]
theorem gens_El {T:Tw}(h:Wf T):∀c∈gens T,El T c:=by intro c hc;obtain⟨j,_,rfl⟩:=zq35.1 hc;exact El_unit h j
theorem gens_getD {T:Tw}{j:Nat}(h:j<T.length):(gens T).getD j (Tow.one T)=unit T j:=by
 rw[zq9];simp[gens,h]
theorem vv_start (T:Tw)(s:Nat)(u e f:List Nat):vv T s u e f 0 0=u++e:=by
 unfold vv;split
 ·rfl
 ·rw[Nat.zero_sub,prR_zero]
theorem vv_skip (T:Tw)(s:Nat)(u e f:List Nat)(j:Nat)(h:j<s):vv T s u e f (j+1) 0=vv T s u e f j 0:=by
 unfold vv;rw[zq57 h];split
 ·rfl
 ·rw[show j+1-s=0 by omega,prR_zero]
theorem prR_El {T:Tw}(h:Wf T){e:List Nat}(he:El T e)(f:List Nat)(j k:Nat):El T (prR (mul T) e (Tow.one T) (gens T) f j k):=
 prR_inv (El T) (mul T) (fun _ _ p q=>El_mul h p q) _ _ _ _ he (El_one h) (gens_El h) j k
theorem vv_El {T:Tw}(h:Wf T){s:Nat}{u e:List Nat}(hu:u.length=s)(he:El (T.drop s) e)(f:List Nat)(j k:Nat):El (T.drop s) ((vv T s u e f j k).drop s):=by
 unfold vv;split
 ·rw[List.drop_left' hu];exact he
 ·rw[List.drop_left' hu];exact prR_El (Wf_drop h s) he f _ k
theorem vv_length {T:Tw}(h:Wf T){s:Nat}(hs:s≤T.length){u e:List Nat}(hu:u.length=s)(he:El (T.drop s) e)(f:List Nat)(j k:Nat):(vv T s u e f j k).length=T.length:=by
 unfold vv;split
 ·rw[zq31,El_length he,hu,zq34];omega
 ·rw[zq31,El_length (prR_El (Wf_drop h s) he f _ k),hu,zq34];omega
theorem vv_step {T:Tw}(h:Wf T){s:Nat}(hg:Good (T.drop s)){u e:List Nat}(hu:u.length=s)(he:El (T.drop s) e)(f:List Nat){j:Nat}(hj:s≤j)(hjn:j<T.length)(k:Nat):
  (vv T s u e f j k).take j++tg (T.drop j) ((vv T s u e f j k).drop j)=vv T s u e f j (k+1):=by
 have hwf:=Wf_drop h s;have hjl:j-s<(T.drop s).length:=by simp;omega
 obtain⟨t,rfl⟩:∃t,j=s+t:=⟨j-s,by omega⟩;rw[Nat.add_sub_cancel_left]at hjl;unfold vv;rw[zq37 (by omega),zq37 (by omega),Nat.add_sub_cancel_left,prR_step,gens_getD hjl];have hv:=prR_El hwf he f t k;generalize prR (mul (T.drop s)) e (Tow.one (T.drop s)) (gens (T.drop s)) f t k=v at hv ⊢;have hd:(T.drop s).drop t=T.drop (s+t):=by rw[zq66]
 have hL:T.drop (s+t)=T[s+t]::T.drop (s+t+1):=zq32 hjn;have hvd:=El_drop hv t;rw[hd]at hvd;rw[show unit (T.drop s) t=pad t (unit ((T.drop s).drop t) 0) from(unit_pad (T.drop s) t 0 (by omega)).symm,mul_pad hwf t hv (El_unit (Wf_drop hwf t) 0) (by omega),hd];have e1:(u++v).take (s+t)=u++v.take t:=by rw[←hu,List.take_length_add_append]
 have e2:(u++v).drop (s+t)=v.drop t:=by rw[←hu,List.drop_length_add_append]
 have hgt:Good (T.drop (s+t+1)):=by have:=Good_drop hg (t+1);rwa[zq66,show s+(t+1)=s+t+1 by omega]at this
 rw[e1,e2,zq74];rw[hL]at hvd ⊢;rw[tg_mul (by rw[←hL];exact Wf_drop h (s+t)) hgt hvd]
theorem vv_next {T:Tw}{s:Nat}{u e f:List Nat}{j a:Nat}(hj:s≤j)(hjn:j<T.length)(ha:f[j-s]?=some a):vv T s u e f j a=vv T s u e f (j+1) 0:=by
 unfold vv;rw[zq37 (by omega),zq37 (by omega),prR_next _ _ _ _ _ _ a (by rw[gens_length];simp;omega) ha,show j+1-s=j-s+1 by omega]
theorem vv_end {T:Tw}(h:Wf T){s:Nat}(hs:s≤T.length)(hg:Good (T.drop s)){u e f:List Nat}(he:El (T.drop s) e)(hf:El (T.drop s) f):vv T s u e f T.length 0=u++mul (T.drop s) e f:=by
 have hwf:=Wf_drop h s;have G:=grp hwf hg;unfold vv;rw[zq37 (by omega),prR_end _ _ _ _ _ _ (by rw[gens_length];simp) (by rw[El_length hf];simp),G.prodL (gens_El hwf) f he,ev_gens hwf hg hf]
end Go.Proofs.YtlmlamcoeegkbaaGreat.Tow
namespace Go.Proofs.YtlmlamcoeegkbaaGreat.TowD
open Go.Proofs.YtlmlamcoeegkbaaGreat Tow
def C1 (L:Lv)(T':Tw)(j:Nat):Prop:=npow (mul T') (Tow.one T') (L.c.getD j (Tow.one T')) (T'.getD j default).o=img T' L.c (pad (j+1) (T'.getD j default).w)
def C2 (L:Lv)(T':Tw)(j k:Nat):Prop:=mul T' (L.c.getD k (Tow.one T')) (L.c.getD j (Tow.one T'))=mul T' (L.c.getD j (Tow.one T')) (img T' L.c (pad (j+1) ((T'.getD j default).c.getD (k-j-1) [])))
def C4 (L:Lv)(T':Tw)(j:Nat):Prop:=mul T' L.w (it (img T' L.c) L.o (unit T' j))=mul T' (unit T' j) L.w
def C3 (L:Lv)(T':Tw):Prop:=img T' L.c L.w=L.w
theorem lvOk_iff {L:Lv}{T':Tw}(h:Wf (L::T'))(hg:Tow.Good T'):LvOk L T'↔(∀j<T'.length,C1 L T' j)∧(∀j<T'.length,∀k,j<k→k<T'.length→C2 L T' j k)∧C3 L T'∧∀j<T'.length,C4 L T' j:=LvOk_iff h hg
theorem ints_inj {a b:List Nat}:ints a=ints b↔a=b:=by
 constructor
 ·intro h;exact(List.map_inj_right (fun x y e=>Int.ofNat.inj e)).1 h
 ·intro h;rw[h]
theorem pad_inj {s:Nat}{a b:List Nat}:pad s a=pad s b↔a=b:=by simp[pad]
theorem dec_pads (s:Nat)(a b:List Nat):decide (ints (pad s a)=ints (pad s b))=decide (a=b):=by
 apply decide_eq_decide.2;rw[ints_inj,pad_inj]
theorem conj_dec {T':Tw}(G:IsG (El T') (mul T') (Tow.one T'))(s:Nat){a c z im:List Nat}(hc:El T' c)(hz:El T' z)(hi:El T' im)(h:mul T' c z=mul T' a c):decide (ints (pad s z)=ints (pad s im))=decide (mul T' a c=mul T' c im):=by
 rw[dec_pads];apply decide_eq_decide.2;constructor
 ·intro e;rw[←e,h]
 ·intro e;exact G.cancelL hc hz hi (h.trans e)
theorem conj_dec' {T':Tw}(G:IsG (El T') (mul T') (Tow.one T'))(s:Nat){a c z im:List Nat}(hc:El T' c)(hz:El T' z)(hi:El T' im)(h:mul T' c z=mul T' a c):decide (ints (pad s im)=ints (pad s z))=decide (mul T' c im=mul T' a c):=by
 rw[dec_pads];apply decide_eq_decide.2;constructor
 ·intro e;rw[e,h]
 ·intro e;exact G.cancelL hc hi hz (e.trans h.symm)
end Go.Proofs.YtlmlamcoeegkbaaGreat.TowD
namespace Go.Proofs.YtlmlamcoeegkbaaGreat.Val
open Go.Proofs.YtlmlamcoeegkbaaGreat Tow
def primeB (x:Int):Bool:=x==2||x==3||x==5||x==7
theorem primeB_le {x:Int}(h:primeB x=true):2≤x∧x≤7:=by
 simp[primeB]at h;omega
def TailV (os:List Int)(z:Nat)(v:List Int):Prop:=v.length=os.length∧∀j x o,v[j]?=some x→os[j]?=some o→0≤x∧x<o∧(j<z→x=0)
def prodI:List Int→Int
 |[]=>1
 |o::os=>o*prodI os
structure Valid (P:Pres):Prop where
 n6:P.os.length≤6
 pl:P.ps.length=P.os.length
 cl:P.cs.length=P.os.length
 pr:∀o∈P.os,primeB o=true
 le:prodI P.os≤729
 pv:∀i p,P.ps[i]?=some p→TailV P.os (i+1) p
 cv:∀i c,P.cs[i]?=some c→c.length=P.os.length-1-i∧∀y∈c,TailV P.os (i+1) y
def nats (l:List Int):List Nat:=l.map Int.toNat
def toTw:Nat→List Int→List (List Int)→List (List (List Int))→Tw
 |s,o::os,p::ps,c::cs=>⟨o.toNat,nats (p.drop (s+1)),c.map fun y=>nats (y.drop (s+1))⟩::toTw (s+1) os ps cs
 |_,_,_,_=>[]
theorem toTw_length (s:Nat)(os:List Int)(ps:List (List Int))(cs:List (List (List Int)))(h1:ps.length=os.length)(h2:cs.length=os.length):(toTw s os ps cs).length=os.length:=by
 induction os generalizing s ps cs with
 |nil=>cases ps<;>cases cs<;>rfl
 |cons o os ih=>cases ps with
  |nil=>simp at h1
  |cons p ps=>cases cs with
   |nil=>simp at h2
   |cons c cs=>simp only[toTw,zq58];rw[ih (s+1) ps cs (by simpa using h1) (by simpa using h2)]
theorem toTw_os (s:Nat)(os:List Int)(ps:List (List Int))(cs:List (List (List Int)))(h1:ps.length=os.length)(h2:cs.length=os.length)(hp:∀o∈os,primeB o=true):(toTw s os ps cs).map (fun L=>(L.o:Int))=os:=by
 induction os generalizing s ps cs with
 |nil=>cases ps<;>cases cs<;>rfl
 |cons o os ih=>cases ps with
  |nil=>simp at h1
  |cons p ps=>cases cs with
   |nil=>simp at h2
   |cons c cs=>
    simp only[toTw,zq81];rw[ih (s+1) ps cs (by simpa using h1) (by simpa using h2) (fun x hx=>hp x (zq23 _ hx))];have:=primeB_le (hp o zq24);congr 1;omega
theorem El_nats {T:Tw}{os:List Int}(hT:T.map (fun L=>(L.o:Int))=os){v:List Int}(hl:v.length=os.length)(h:∀(j:Nat) (x o:Int),v[j]?=some x→os[j]?=some o→0≤x∧x<o):El T (nats v):=by
 induction T generalizing os v with
 |nil=>
  simp only[zq129]at hT;subst hT;have:v=[]:=zq21 hl;subst this;trivial
 |cons L T ih=>
  simp only[zq81]at hT;subst hT;cases v with
  |nil=>simp at hl
  |cons x v=>
   have h0:=h 0 x L.o rfl rfl;refine⟨?_,ih rfl (by simpa using hl) (fun j y o hy ho=>h (j+1) y o (by simpa using hy) (by simpa using ho))⟩;show x.toNat<L.o;omega
theorem ints_nats {v:List Int}(h:∀x∈v,0≤x):ints (nats v)=v:=by
 induction v with
 |nil=>rfl
 |cons x v ih=>
  have:=h x zq24;simp only[nats,ints,zq81]at ih ⊢;rw[ih (fun y hy=>h y (zq23 _ hy))];congr 1;exact Int.toNat_of_nonneg this
theorem tail_pad {OS v:List Int}{z:Nat}(h:TailV OS z v)(hz:z≤OS.length):ints (pad z (nats (v.drop z)))=v:=by
 have hl:=h.1;have h0:∀j,j<z→v[j]?=some 0:=fun j hj=>by
  have hx:v[j]?=some v[j]:=zq0 (by omega);have ho:OS[j]?=some OS[j]:=zq0 (by omega);rw[hx,((h.2 j _ _ hx ho).2.2 hj)]
 have hn:∀x∈v.drop z,0≤x:=fun x hx=>by
  obtain⟨j,hj,rfl⟩:=zq87 (zq72 hx);exact(h.2 j _ _ (zq0 hj) (zq0 (by omega))).1
 have e1:ints (pad z (nats (v.drop z)))=List.replicate z 0++ints (nats (v.drop z)):=by simp[ints,pad]
 rw[e1,ints_nats hn]
 conv=>rhs;rw[←List.take_append_drop z v]
 congr 1;apply zq99;intro j;rw[zq106,zq64];split
 ·next hj=>rw[h0 j hj]
 ·rfl
theorem tail_El {OS v:List Int}{s:Nat}(h:TailV OS (s+1) v){T:Tw}(hT:T.map (fun L=>(L.o:Int))=OS.drop (s+1)):El T (nats (v.drop (s+1))):=
 El_nats hT (by simp[h.1]) (fun j x o hx ho=>by
  rw[zq63]at hx ho;have:=h.2 _ x o hx ho;exact⟨this.1,this.2.1⟩)
theorem toTw_of (OS:List Int)(s:Nat)(os:List Int)(ps:List (List Int))(cs:List (List (List Int)))(hos:os=OS.drop s)(h1:ps.length=os.length)(h2:cs.length=os.length)(hp:∀o∈os,primeB o=true)
  (hv:∀i p,ps[i]?=some p→TailV OS (s+i+1) p) (hc:∀i c,cs[i]?=some c→c.length=OS.length-1-(s+i)∧∀y∈c,TailV OS (s+i+1) y):
  Wf (toTw s os ps cs)∧powF s (toTw s os ps cs)=ps∧conF s (toTw s os ps cs)=cs:=by
 induction os generalizing s ps cs with
 |nil=>
  have e1:ps=[]:=zq21 h1;have e2:cs=[]:=zq21 h2;subst e1;subst e2;exact⟨trivial,rfl,rfl⟩
 |cons o os ih=>cases ps with
  |nil=>simp at h1
  |cons p ps=>cases cs with
   |nil=>simp at h2
   |cons c cs=>
    have hl:s<OS.length:=by
     have:=zq38 List.length hos;simp at this;omega
    have hos':os=OS.drop (s+1):=by
     rw[zq32 hl]at hos;exact(List.cons.inj hos).2
    have hp':∀x∈os,primeB x=true:=fun x hx=>hp x (zq23 _ hx);have h1':ps.length=os.length:=by simpa using h1
    have h2':cs.length=os.length:=by simpa using h2
    obtain⟨w1,w2,w3⟩:=ih (s+1) ps cs hos' h1' h2' hp' (fun i q hq=>by have:=hv (i+1) q (by simpa using hq);rwa[show s+(i+1)+1=s+1+i+1 by omega]at this)
     (fun i d hd=>by have:=hc (i+1) d (by simpa using hd);rwa[show s+(i+1)+1=s+1+i+1 by omega,show OS.length-1-(s+(i+1))=OS.length-1-(s+1+i) by omega]at this)
    have hT:(toTw (s+1) os ps cs).map (fun L=>(L.o:Int))=OS.drop (s+1):=by rw[toTw_os _ _ _ _ h1' h2' hp',hos']
    have hpv:=hv 0 p rfl;have hcv:=hc 0 c rfl;simp only[zq128]at hpv hcv;have hln:(toTw (s+1) os ps cs).length=OS.length-(s+1):=by rw[toTw_length _ _ _ _ h1' h2',hos'];simp
    refine⟨⟨?_,?_,?_,?_,w1⟩,?_,?_⟩
    ·have:=primeB_le (hp o zq24);show 2≤o.toNat;omega
    ·exact tail_El hpv hT
    ·show(c.map _).length=_;rw[zq18,hcv.1,hln];omega
    ·intro y hy;simp only[zq35]at hy;obtain⟨y',hy',rfl⟩:=hy;exact tail_El (hcv.2 y' hy') hT
    ·simp only[toTw,powF];rw[w2,tail_pad hpv (by omega)]
    ·simp only[toTw,conF];rw[w3];congr 1;rw[List.map_map]
     conv=>rhs;rw[←List.map_id c]
     apply zq126;intro y hy;exact tail_pad (hcv.2 y hy) (by omega)
theorem Valid.tower {P:Pres}(h:Valid P):∃T,Wf T∧Small T∧P=ofTw T:=by
 obtain⟨w1,w2,w3⟩:=toTw_of P.os 0 P.os P.ps P.cs rfl h.pl h.cl h.pr (fun i p hp=>by rw[zq39];exact h.pv i p hp) (fun i c hc=>by rw[zq39];exact h.cv i c hc);have ho:=toTw_os 0 P.os P.ps P.cs h.pl h.cl h.pr;refine⟨toTw 0 P.os P.ps P.cs,w1,⟨by rw[toTw_length _ _ _ _ h.pl h.cl];exact h.n6,fun L hL=>?_⟩,?_⟩
 ·have hm:(L.o:Int)∈P.os:=by rw[←ho];exact zq35.2 ⟨L,hL,rfl⟩
  have:=primeB_le (h.pr _ hm);omega
 ·unfold ofTw;rw[ho,w2,w3]
theorem prodI_pos {os:List Int}(h:∀o∈os,primeB o=true):1≤prodI os:=by
 induction os with
 |nil=>exact Int.le_refl _
 |cons o os ih=>
  have h1:=ih (fun x hx=>h x (zq23 _ hx));have h2:=primeB_le (h o zq24);have h3:1*1≤o*prodI os:=Int.mul_le_mul (by omega) h1 (by omega) (by omega);simpa[prodI]using h3
theorem prodI_append (a b:List Int):prodI (a++b)=prodI a*prodI b:=by
 induction a with
 |nil=>simp[prodI]
 |cons o a ih=>simp[prodI,ih,Int.mul_assoc]
theorem prodI_take_succ {os:List Int}{k:Nat}{o:Int}(h:os[k]?=some o):prodI (os.take (k+1))=prodI (os.take k)*o:=by
 rw[zq69,h,prodI_append];simp[prodI]
theorem prodI_take_le {os:List Int}(h:∀o∈os,primeB o=true)(k:Nat):prodI (os.take k)≤prodI os:=by
 conv=>rhs;rw[←List.take_append_drop k os,prodI_append]
 have h1:=prodI_pos (os:=os.take k) (fun o ho=>h o (zq137 ho));have h2:=prodI_pos (os:=os.drop k) (fun o ho=>h o (zq72 ho));have h3:prodI (os.take k)*1≤prodI (os.take k)*prodI (os.drop k):=Int.mul_le_mul (Int.le_refl _) h2 (by omega) (by omega);simpa using h3
end Go.Proofs.YtlmlamcoeegkbaaGreat.Val
namespace Go.Proofs.YtlmlamcoeegkbaaGreat.Grps
open Go.RowKit Go.Proofs.YtlmlamcoeegkbaaGreat Tow Val
theorem map_inj {α β:Type}{f:α→β}(hf:∀a b,f a=f b→a=b):∀{l l':List α},l.map f=l'.map f→l=l'
 |[],[],_=>rfl
 |[],_::_,h=>by simp at h
 |_::_,[],h=>by simp at h
 |a::l,b::l',h=>by
  simp only[zq81,zq116]at h;rw[hf a b h.1,map_inj hf h.2]
theorem ints_pad_inj {n:Nat}{a b:List Nat}(h:ints (pad n a)=ints (pad n b)):a=b:=by
 have h1:=TowD.ints_inj.1 h;exact TowD.pad_inj.1 h1
theorem ofTw_inj':∀(s:Nat) (T T':Tw),T.map (fun L=>(L.o:Int))=T'.map (fun L=>(L.o:Int))→powF s T=powF s T'→conF s T=conF s T'→T=T'
 |_,[],[],_,_,_=>rfl
 |_,[],_::_,h,_,_=>by simp at h
 |_,_::_,[],h,_,_=>by simp at h
 |s,⟨o,w,c⟩::T,⟨o',w',c'⟩::T',h1,h2,h3=>by
  simp only[zq81,zq116]at h1;simp only[powF,zq116]at h2;simp only[conF,zq116]at h3;obtain rfl:=ofTw_inj' (s+1) T T' h1.2 h2.2 h3.2;obtain rfl:o=o':=by have:=h1.1;omega
  obtain rfl:w=w':=ints_pad_inj h2.1;obtain rfl:c=c':=by
   have:=h3.1;exact map_inj (fun a b h=>ints_pad_inj h) this
  rfl
theorem ofTw_inj {T T':Tw}(h:ofTw T=ofTw T'):T=T':=by
 simp only[ofTw,Pres.mk.injEq]at h;exact ofTw_inj' 0 T T' h.1 h.2.1 h.2.2
def Grp (P:Pres):Prop:=∃T,Wf T∧Small T∧P=ofTw T∧Valid P∧Tow.Good T
theorem Grp.good {T:Tw}(h:Grp (ofTw T)):Tow.Good T:=by
 obtain⟨T',h1,h2,h3,_,h4⟩:=h;have:=ofTw_inj h3;exact this▸h4
end Go.Proofs.YtlmlamcoeegkbaaGreat.Grps
namespace Go.Proofs.YtlmlamcoeegkbaaGreat.NumT
open Tow Go.Proofs.YtlmlamcoeegkbaaGreat Val
def sz:Tw→Nat
 |[]=>1
 |L::T=>L.o*sz T
def num:Tw→List Nat→Nat
 |L::T,a::x=>a*sz T+num T x
 |_,_=>0
def at_:Tw→Nat→List Nat
 |[],_=>[]
 |L::T,k=>(k/sz T%L.o)::at_ T k
theorem sz_pos {T:Tw}(h:Wf T):0<sz T:=by
 induction T with
 |nil=>simp[sz]
 |cons L T ih=>exact Nat.mul_pos (by have:=h.1;omega) (ih h.2.2.2.2)
theorem at_length (T:Tw)(k:Nat):(at_ T k).length=T.length:=by
 induction T with
 |nil=>rfl
 |cons L T ih=>simp[at_,ih]
theorem at_El {T:Tw}(h:Wf T)(k:Nat):El T (at_ T k):=by
 induction T with
 |nil=>trivial
 |cons L T ih=>exact⟨Nat.mod_lt _ (by have:=h.1;omega),ih h.2.2.2.2⟩
theorem num_lt {T:Tw}{x:List Nat}(hx:El T x)(h:Wf T):num T x<sz T:=by
 induction T generalizing x with
 |nil=>simp[num,sz]
 |cons L T ih=>
  cases x with
  |nil=>exact hx.elim
  |cons a x=>
   have h1:=ih hx.2 h.2.2.2.2;have h2:=hx.1;show a*sz T+num T x<L.o*sz T;have:(a+1)*sz T≤L.o*sz T:=zq84 _ h2;rw[Nat.add_mul,Nat.one_mul]at this;omega
theorem num_at (T:Tw)(k:Nat):num T (at_ T k)=k%sz T:=by
 induction T with
 |nil=>simp[num,sz,Nat.mod_one]
 |cons L T ih=>
  show(k/sz T%L.o)*sz T+num T (at_ T k)=k%(L.o*sz T);rw[ih,zq97 L.o,Nat.mod_mul,zq97 (sz T)];omega
theorem num_inj {T:Tw}(h:Wf T){x y:List Nat}(hx:El T x)(hy:El T y)(e:num T x=num T y):x=y:=by
 induction T generalizing x y with
 |nil=>cases x<;>cases y<;>first|rfl|exact hx.elim|exact hy.elim
 |cons L T ih=>
  cases x with
  |nil=>exact hx.elim
  |cons a x=>
   cases y with
   |nil=>exact hy.elim
   |cons b y=>
    have h1:=num_lt hx.2 h.2.2.2.2;have h2:=num_lt hy.2 h.2.2.2.2;have e':a*sz T+num T x=b*sz T+num T y:=e;have hab:a=b:=by
     have:(a*sz T+num T x)/sz T=(b*sz T+num T y)/sz T:=by rw[e']
     rw[zq89,zq89 (b*sz T),Nat.add_mul_div_right _ _ (by omega),Nat.add_mul_div_right _ _ (by omega),Nat.div_eq_of_lt h1,Nat.div_eq_of_lt h2]at this;omega
    subst hab;rw[ih h.2.2.2.2 hx.2 hy.2 (by omega)]
theorem at_num {T:Tw}(h:Wf T){x:List Nat}(hx:El T x):at_ T (num T x)=x:=
 num_inj h (at_El h _) hx (by rw[num_at,zq43 (num_lt hx h)])
theorem at_inj {T:Tw}{j k:Nat}(hj:j<sz T)(hk:k<sz T)(e:at_ T j=at_ T k):j=k:=by
 have:=zq38 (num T) e;rwa[num_at,num_at,zq43 hj,zq43 hk]at this
theorem num_one {T:Tw}:num T (Tow.one T)=0:=by
 induction T with
 |nil=>rfl
 |cons L T ih=>show 0*sz T+num T (Tow.one T)=0;rw[ih];omega
theorem sz_step {T:Tw}{i:Nat}{L:Lv}(hL:T[i]?=some L):sz (T.drop i)=L.o*sz (T.drop (i+1)):=by rw[drop_cons' hL];rfl
theorem num_step {T:Tw}{i:Nat}{L:Lv}(hL:T[i]?=some L){x:List Nat}{a:Nat}(ha:x[i]?=some a):num (T.drop i) (x.drop i)=a*sz (T.drop (i+1))+num (T.drop (i+1)) (x.drop (i+1)):=by
 rw[drop_cons' hL];have:x.drop i=a::x.drop (i+1):=by
  have:=zq2.1 ha;rw[zq32 this.1,this.2]
 rw[this];rfl
theorem sz_end (T:Tw):sz (T.drop T.length)=1:=by simp[sz]
theorem num_end (T:Tw)(x:List Nat):num (T.drop T.length) x=0:=by simp[num]
theorem at_step {T:Tw}{i:Nat}{L:Lv}(hL:T[i]?=some L)(k:Nat):at_ (T.drop i) k=(k/sz (T.drop (i+1))%L.o)::at_ (T.drop (i+1)) k:=by rw[drop_cons' hL];rfl
theorem quo_step {T:Tw}{i:Nat}{L:Lv}(hL:T[i]?=some L)(k:Nat):k/sz (T.drop (i+1))/L.o=k/sz (T.drop i):=by
 rw[sz_step hL,Nat.div_div_eq_div_mul,zq97 L.o]
theorem sz_drop_dvd (T:Tw)(hT:Wf T)(i:Nat):sz (T.drop i)≤sz T:=by
 induction T generalizing i with
 |nil=>simp
 |cons L T ih=>
  cases i with
  |zero=>exact zq1 _
  |succ i=>
   show sz (T.drop i)≤L.o*sz T;have h1:=ih hT.2.2.2.2 i;have h2:1*sz T≤L.o*sz T:=zq84 _ (by have:=hT.1;omega);omega
theorem prodI_sz (T:Tw):prodI (T.map fun L=>(L.o:Int))=(sz T:Int):=by
 induction T with
 |nil=>rfl
 |cons L T ih=>show(L.o:Int)*prodI _=_;rw[ih];simp[sz]
theorem valid_sz {T:Tw}(h:Valid (ofTw T)):sz T≤729:=by
 have:=h.le;rw[show(ofTw T).os=T.map fun L=>(L.o:Int) from rfl,prodI_sz]at this;omega
end Go.Proofs.YtlmlamcoeegkbaaGreat.NumT
