import Derived.Test.YtgjadpmbnejaoaaGreatZn
import Derived.Lib.SmallJoins
/-
  Lemmas for the law FnAutomorphisms, in short spelling.
-/
set_option linter.unusedVariables false
set_option linter.unusedSimpArgs false
set_option maxRecDepth 100000
set_option maxHeartbeats 40000000
namespace Go.Proofs.YtgjadpmbnejaoaaGreat
open RowKit
def DU {α:Type}(e:TypeId)(R:World->Value->α->Prop)(w:World)(g n:Nat)(tl:List α):Prop:=
 ∃us:List Value,w.ownsRow 0 e 1 (.slice (some ⟨g,0,none⟩) n n) n us/\us.length=n/\∀(i:Nat) (x:α),tl[i]?=some x->∃u,us[i]?=some u/\R w u x
theorem DU.lt {α:Type}{e:TypeId}{R:World->Value->α->Prop}{w:World}{g n:Nat}{tl:List α}(h:DU e R w g n tl):g<w.heap.size:=by
 obtain⟨us,B,_⟩:=h;exact(Aq B g rfl).2
theorem DU.cap {α:Type}{e:TypeId}{R:World->Value->α->Prop}{w:World}{g n:Nat}{tl:List α}(h:DU e R w g n tl):n<=maxLen:=by
 obtain⟨us,B,_⟩:=h;rcases B.2 with⟨h,_⟩|⟨J,cap,I,h,F,D,_,C,_⟩
 .cases h
 .cases h;exact C
theorem DU.made {α:Type}{e:TypeId}{R:World->Value->α->Prop}(w:World)(z:Value)(n:Nat)(B:n<=maxLen):DU e R (w.alloc (.cells (madeCells #[z] n) e)) w.heap.size n []:=by
 refine⟨List.replicate n z,?_,by simp,λi x C=>by simp at C⟩;have:=JD (base:=0) (e:=e) (size:=1) w (madeCells #[z] n) n (AX _) B (by simp[madeCells]);rw[Kc]at this;exact this
theorem DU.keep {α:Type}{e:TypeId}{R:World->Value->α->Prop}{S:Nat->Prop}{w w':World}{g n:Nat}{tl:List α}(h:DU e R w g n tl)(K:Keep S w w')(hg:S g)(J:∀v r,R w v r->R w' v r):DU e R w' g n tl:=by
 obtain⟨us,B,L,O⟩:=h;refine⟨us,⟨B.1,?_⟩,L,λi r F=>?_⟩
 .rcases B.2 with⟨h,_⟩|⟨V,cap,U,h,I,C,D⟩
  .cases h
  .cases h;refine .inr ⟨g,_,U,rfl,I,?_,D⟩;rw[K.block g hg (Bt.1 C).1];exact C
 .obtain⟨u,N,Q⟩:=O i r F;exact⟨u,N,J _ _ Q⟩
theorem DU.push {α:Type}{e:TypeId}{R:World->Value->α->Prop}{w:World}{g n:Nat}{tl:List α}(h:DU e R w g n tl){k:Nat}(O:tl.length=k)(Q:k<n){u:Value}{x:α}
  (C:∀v r,R w v r->R (w.setCell ⟨g,k,none⟩ u) v r) (J:R w u x):DU e R (w.setCell ⟨g,k,none⟩ u) g n (tl++[x]):=by
 obtain⟨us,F,I,L⟩:=h;refine⟨us.set k u,(Jz F k u).1,by simp[I],λi y B=>?_⟩;rcases CU i tl.length with hi|hi
 .rw[DK hi]at B;obtain⟨v,K,D⟩:=L i y B;exact⟨v,by rw[KA (by omega)];exact K,C _ _ D⟩
 .rw[DC hi]at B;obtain rfl:i=k:=by
   rcases N:i-tl.length with _|j
   .omega
   .rw[N]at B;simp at B
  rw[show i-tl.length=0 by omega]at B;simp at B;subst B;exact⟨u,Jj (by omega),C _ _ J⟩
theorem DU.sl {α:Type}{e:TypeId}{R:World->Value->α->Prop}{S:Nat->Prop}{w:World}{g:Nat}{tl:List α}(h:DU e R w g tl.length tl)(hg:S g):Am R S w (.slice (some ⟨g,0,none⟩) tl.length tl.length) tl:=by
 have F:=h.lt;have J:=h.cap;obtain⟨us,D,L,K⟩:=h;refine⟨some ⟨g,0,none⟩,tl.length,rfl,Al _,J,by simp,λi x B=>?_⟩;obtain⟨u,I,C⟩:=K i x B;refine⟨g,0,rfl,hg,F,u,?_,C⟩;rw[CK,FZ D i (by have:=(Ak.1 B).1;omega)];exact I
theorem take_succ {α:Type}{l:List α}{k:Nat}{x:α}(h:l[k]?=some x):l.take (k+1)=l.take k++[x]:=by rw[EL,h];rfl
theorem take_len {α:Type}{l:List α}{k:Nat}(h:k<=l.length):(l.take k).length=k:=by rw[Ec];omega
theorem Am.form {α:Type}{E:World->Value->α->Prop}{S:Nat->Prop}{w:World}{v:Value}{l:List α}(h:Am E S w v l):∃a c,v= .slice a l.length c/\l.length<=c/\c<=maxLen:=by
 obtain⟨a,c,B,C,D,_⟩:=h;exact⟨a,c,B,C,D⟩
theorem Am.get {α:Type}{E:World->Value->α->Prop}{S:Nat->Prop}{w:World}{a:Option Addr}{n c:Nat}{l:List α}(h:Am E S w (.slice a n c) l){k:Nat}{x:α}(B:l[k]?=some x):
  ∃b o u,a=some ⟨b,o,none⟩/\S b/\b<w.heap.size/\w.cell? ⟨b,o+k,none⟩=some u/\E w u x:=by
 obtain⟨L,K,e,_,_,_,D⟩:=h;obtain⟨rfl,_,_⟩:a=L/\n=l.length/\c=K:=by simpa using e
 obtain⟨b,o,C,e2,F,u,J,I⟩:=D k x B;exact⟨b,o,u,C,e2,F,J,I⟩
theorem WG {w:World}{a:Addr}{v:Value}(h:w.cell? a=some v):a=⟨a.block,a.off,none⟩/\a.block<w.heap.size:=by
 refine⟨?_,World.block_lt_of_cell? w a h⟩;unfold World.cell? at h;split at h
 .next c _ _ hb=>
  split at h
  .cases h
  .next hs=>
   cases a with
   |mk b o s=>
    cases s with
    |none=>rfl
    |some s=>simp at hs
 .cases h
section
variable {H:Type} {enc:TypeId×Value->H} {w:World} {base:Nat} {spare:Nat->Bool} {held:Bool}
end
end Go.Proofs.YtgjadpmbnejaoaaGreat
