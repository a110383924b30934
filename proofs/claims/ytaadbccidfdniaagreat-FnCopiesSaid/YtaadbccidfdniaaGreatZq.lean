import Derived.Test.YtaadbccidfdniaaGreatZ0
import Derived.Test.YtaadbccidfdniaaGreatZp
import Derived.Test.YtaadbccidfdniaaGreatZl
import Derived.Test.YtaadbccidfdniaaGreatZb
import Derived.ChangeSlices
import Derived.Deep.Slices
import Derived.Lib.SmallJoins
/-
  Lemmas for the law FnCopies, in short spelling.
-/
open Go.Lib (hid)
set_option linter.unusedVariables false
set_option linter.unusedSimpArgs false
set_option maxRecDepth 100000
set_option maxHeartbeats 40000000
namespace Go.Proofs.YtaadbccidfdniaaGreat.bD
open Go.Proofs.YtaadbccidfdniaaGreat AB Gen Cu CU Gf I9 Qi yZ SfB
def BR:List Nat→List Nat→Int
 |[],[]=>0
 |[],_::_=> -1
 |_::_,[]=>1
 |a::x,b::y=>if a<b then -1 else if b<a then 1 else BR x y
theorem eY:∀x:List Nat,BR x x=0
 |[]=>rfl
 |a::x=>by rw[BR,BD (Nc _),BD (Nc _),eY x]
theorem YE (a b:Nat)(x y:List Nat):BR (a::x) (b::y)<0↔a<b∨(a=b∧BR x y<0):=by
 rw[BR];split
 ·simp;omega
 ·split
  ·simp;omega
  ·have:a=b:=by omega
   simp[this]
theorem eD:∀x y z:List Nat,BR x y<0→BR y z<0→BR x z<0
 |[],[],z,h,_=>by simp[BR]at h
 |[],_::_,[],_,h=>by simp[BR]at h
 |[],_::_,_::_,_,_=>by simp[BR]
 |_::_,[],z,h,_=>by simp[BR]at h
 |_::_,_::_,[],_,h=>by simp[BR]at h
 |a::x,b::y,c::z,h1,h2=>by
  rw[YE]at h1 h2 ⊢;rcases h1 with h1|⟨h1,h3⟩<;>rcases h2 with h2|⟨h2,h4⟩
  ·exact .inl (by omega)
  ·exact .inl (by omega)
  ·exact .inl (by omega)
  ·exact .inr ⟨by omega,eD x y z h3 h4⟩
theorem dw:∀x y z:List Nat,¬BR x y<0→¬BR y z<0→¬BR x z<0
 |[],[],z,_,h2=>h2
 |[],_::_,z,h,_=>absurd (by simp[BR]) h
 |_::_,[],[],h,_=>h
 |_::_,[],_::_,_,h=>absurd (by simp[BR]) h
 |_::_,_::_,[],_,_=>by simp[BR]
 |a::x,b::y,c::z,h1,h2=>by
  rw[YE,not_or,not_and]at h1 h2 ⊢;refine⟨by omega,fun h=>?_⟩;have h3:a=b:=by omega
  have h4:b=c:=by omega
  exact dw x y z (h1.2 h3) (h2.2 h4)
def key (n:Nat)(S:Tw)(L:Lv):List Nat:=(L.w::L.c).flatMap (pad (n-S.length))
def Has (Q S:Tw):Prop:=∃t,DI Q S t
def Std (Q:Tw)(q:Nat):Tw→Prop
 |[]=>True
 |L::S=>Std Q q S∧L.o=q∧Wf (L::S)∧AB.Good (L::S)∧Has Q (L::S)∧∀L',L'.o=q→Wf (L'::S)→Has Q (L'::S)→¬BR (key Q.length S L') (key Q.length S L)<0
theorem Std.good {Q:Tw}{q:Nat}:∀{S:Tw},Std Q q S→Wf S∧AB.Good S∧(∀L∈S,L.o=q)∧Has Q S
 |[],_=>⟨trivial,trivial,fun L h=>by simp at h,[],qd⟩
 |L::S,⟨h1,h2,h3,h4,h5,_⟩=>⟨h3,h4,fun K hK=>by
  rcases F8.1 hK with rfl|hK
  ·exact h2
  ·exact(Std.good h1).2.2.1 K hK,h5⟩
theorem ACP {P Q:Tw}(hP:Wf P)(mU:AB.Good P)(hQ:Wf Q)(bG:AB.Good Q){c:List (List Nat)}(h:DI Q P c)(hs:sz Q=sz P)(S:Tw):Has P S↔Has Q S:=by
 constructor
 ·rintro⟨t,ht⟩;exact⟨_,comp hQ bG hP mU h ht⟩
 ·rintro⟨t,ht⟩;obtain⟨cs,hcs,_⟩:=factor hQ bG hP mU h ht fun c hc=>qF hQ bG hP h (by omega) (ht.el c hc);exact⟨cs,hcs⟩
theorem ACQ {P Q:Tw}(hP:Wf P)(mU:AB.Good P)(hQ:Wf Q)(bG:AB.Good Q)(hp:Er P):0<(Bf Q P P.length []).length↔∃c,DI Q P c:=by
 rw[List.length_pos_iff_exists_mem];exact exists_congr fun c=>Pf hQ bG hP mU hp c
end Go.Proofs.YtaadbccidfdniaaGreat.bD
namespace Go.Proofs.YtaadbccidfdniaaGreat
open Go.RowKit
def ED {α:Type}(e:TypeId)(R:World→Value→α→Prop)(w:World)(g n:Nat)(tl:List α):Prop:=
 ∃us:List Value,w.ownsRow 0 e 1 (.slice (some ⟨g,0,none⟩) n n) n us∧us.length=n∧∀(i:Nat) (x:α),tl[i]?=some x→∃u,us[i]?=some u∧R w u x
theorem ED.lt {α:Type}{e:TypeId}{R:World→Value→α→Prop}{w:World}{g n:Nat}{tl:List α}(h:ED e R w g n tl):g<w.heap.size:=by
 obtain⟨us,h1,_⟩:=h;exact(Af h1 g rfl).2
theorem ED.cap {α:Type}{e:TypeId}{R:World→Value→α→Prop}{w:World}{g n:Nat}{tl:List α}(h:ED e R w g n tl):n≤maxLen:=by
 obtain⟨us,h1,_⟩:=h;rcases h1.2 with⟨h,_⟩|⟨g',cap,cur,h,hb,hgg,_,hm,_⟩
 ·cases h
 ·cases h;exact hm
theorem ED.made {α:Type}{e:TypeId}{R:World→Value→α→Prop}(w:World)(z:Value)(n:Nat)(hn:n≤maxLen):ED e R (w.alloc (.cells (madeCells #[z] n) e)) w.heap.size n []:=by
 refine⟨List.replicate n z,?_,by simp,fun i x hx=>by simp at hx⟩;have:=Nq (base:=0) (e:=e) (size:=1) w (madeCells #[z] n) n (AU _) hn (by simp[madeCells]);rw[Q7]at this;exact this
theorem ED.keep {α:Type}{e:TypeId}{R:World→Value→α→Prop}{S:Nat→Prop}{w w':World}{g n:Nat}{tl:List α}(h:ED e R w g n tl)(hk:AA S w w')(hg:S g)(hR:∀v r,R w v r→R w' v r):ED e R w' g n tl:=by
 obtain⟨us,h1,h2,h3⟩:=h;refine⟨us,⟨h1.1,?_⟩,h2,fun i r hr=>?_⟩
 ·rcases h1.2 with⟨h,_⟩|⟨g',cap,cur,h,hb,hgg,hrest⟩
  ·cases h
  ·cases h;refine .inr ⟨g,_,cur,rfl,hb,?_,hrest⟩;rw[hk.block g hg (Ba.1 hgg).1];exact hgg
 ·obtain⟨u,hu,hr'⟩:=h3 i r hr;exact⟨u,hu,hR _ _ hr'⟩
theorem ED.push {α:Type}{e:TypeId}{R:World→Value→α→Prop}{w:World}{g n:Nat}{tl:List α}(h:ED e R w g n tl){k:Nat}(hk:tl.length=k)(hn:k<n){u:Value}{x:α}
  (hR:∀v r,R w v r→R (w.setCell ⟨g,k,none⟩ u) v r) (hu:R w u x):ED e R (w.setCell ⟨g,k,none⟩ u) g n (tl++[x]):=by
 obtain⟨us,h1,h2,h3⟩:=h;refine⟨us.set k u,(Q8 h1 k u).1,by simp[h2],fun i y hy=>?_⟩;rcases CP i tl.length with hi|hi
 ·rw[EA hi]at hy;obtain⟨v,hv,hr⟩:=h3 i y hy;exact⟨v,by rw[Q9 (by omega)];exact hv,hR _ _ hr⟩
 ·rw[D9 hi]at hy;obtain rfl:i=k:=by
   rcases hj:i-tl.length with _|j
   ·omega
   ·rw[hj]at hy;simp at hy
  rw[show i-tl.length=0 by omega]at hy;simp at hy;subst hy;exact⟨u,P7 (by omega),hR _ _ hu⟩
theorem ED.sl {α:Type}{e:TypeId}{R:World→Value→α→Prop}{S:Nat→Prop}{w:World}{g:Nat}{tl:List α}(h:ED e R w g tl.length tl)(hg:S g):Aq R S w (.slice (some ⟨g,0,none⟩) tl.length tl.length) tl:=by
 have hlt:=h.lt;have hm:=h.cap;obtain⟨us,h1,h2,h3⟩:=h;refine⟨some ⟨g,0,none⟩,tl.length,rfl,Av _,hm,by simp,fun i x hx=>?_⟩;obtain⟨u,hu,hr⟩:=h3 i x hx;refine⟨g,0,rfl,hg,hlt,u,?_,hr⟩;rw[Cg,Ig h1 i (by have:=(Ag.1 hx).1;omega)];exact hu
theorem take_succ {α:Type}{l:List α}{k:Nat}{x:α}(h:l[k]?=some x):l.take (k+1)=l.take k++[x]:=by rw[IJ,h];rfl
theorem Aq.form {α:Type}{E:World→Value→α→Prop}{S:Nat→Prop}{w:World}{v:Value}{l:List α}(h:Aq E S w v l):∃a c,v= .slice a l.length c∧l.length≤c∧c≤maxLen:=by
 obtain⟨a,c,h1,h2,h3,_⟩:=h;exact⟨a,c,h1,h2,h3⟩
theorem Aq.get {α:Type}{E:World→Value→α→Prop}{S:Nat→Prop}{w:World}{a:Option Addr}{n c:Nat}{l:List α}(h:Aq E S w (.slice a n c) l){k:Nat}{x:α}(hx:l[k]?=some x):
  ∃b o u,a=some ⟨b,o,none⟩∧S b∧b<w.heap.size∧w.cell? ⟨b,o+k,none⟩=some u∧E w u x:=by
 obtain⟨ao,c',e,_,_,_,h4⟩:=h;obtain⟨rfl,_,_⟩:a=ao∧n=l.length∧c=c':=by simpa using e
 obtain⟨b,o,e1,e2,e3,u,e4,e5⟩:=h4 k x hx;exact⟨b,o,u,e1,e2,e3,e4,e5⟩
theorem AAM {w:World}{a:Addr}{v:Value}(h:w.cell? a=some v):a=⟨a.block,a.off,none⟩∧a.block<w.heap.size:=by
 refine⟨?_,World.block_lt_of_cell? w a h⟩;unfold World.cell? at h;split at h
 ·next c _ _ hb=>
  split at h
  ·cases h
  ·next hs=>
   cases a with
   |mk b o s=>
    cases s with
    |none=>rfl
    |some s=>simp at hs
 ·cases h
section
variable {H:Type} {enc:TypeId×Value→H} {w:World} {base:Nat} {spare:Nat→Bool} {held:Bool}
end
end Go.Proofs.YtaadbccidfdniaaGreat
