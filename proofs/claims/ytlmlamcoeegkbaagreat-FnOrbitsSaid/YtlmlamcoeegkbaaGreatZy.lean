import Derived.Test.YtlmlamcoeegkbaaGreatZ0
import Derived.Test.YtlmlamcoeegkbaaGreatZo
import Derived.Test.YtlmlamcoeegkbaaGreatZb
import Derived.ChangeSlices
import Derived.Deep.Slices
import Derived.Lib.SmallJoins
import Derived.Test.YtlmlamcoeegkbaaGreatZx
import Derived.Deep.AppendLies
import Derived.Test.YtlmlamcoeegkbaaGreatZv
import Derived.Test.YtlmlamcoeegkbaaGreatZu
import Derived.Test.YtlmlamcoeegkbaaGreatZt
/-
  Lemmas for the law FnOrbits, in short spelling.
-/
open Go.Lib (hid)
set_option linter.unusedVariables false
set_option linter.unusedSimpArgs false
set_option maxRecDepth 100000
set_option maxHeartbeats 40000000
namespace Go.Proofs.YtlmlamcoeegkbaaGreat
open Go.RowKit
def TabG {α:Type}(e:TypeId)(R:World→Value→α→Prop)(w:World)(g n:Nat)(tl:List α):Prop:=
 ∃us:List Value,w.ownsRow 0 e 1 (.slice (some ⟨g,0,none⟩) n n) n us∧us.length=n∧∀(i:Nat) (x:α),tl[i]?=some x→∃u,us[i]?=some u∧R w u x
theorem TabG.lt {α:Type}{e:TypeId}{R:World→Value→α→Prop}{w:World}{g n:Nat}{tl:List α}(h:TabG e R w g n tl):g<w.heap.size:=by
 obtain⟨us,h1,_⟩:=h;exact(zq8 h1 g rfl).2
theorem TabG.cap {α:Type}{e:TypeId}{R:World→Value→α→Prop}{w:World}{g n:Nat}{tl:List α}(h:TabG e R w g n tl):n≤maxLen:=by
 obtain⟨us,h1,_⟩:=h;rcases h1.2 with⟨h,_⟩|⟨g',cap,cur,h,hb,hgg,_,hm,_⟩
 ·cases h
 ·cases h;exact hm
theorem TabG.made {α:Type}{e:TypeId}{R:World→Value→α→Prop}(w:World)(z:Value)(n:Nat)(hn:n≤maxLen):TabG e R (w.alloc (.cells (madeCells #[z] n) e)) w.heap.size n []:=by
 refine⟨List.replicate n z,?_,by simp,fun i x hx=>by simp at hx⟩;have:=zq98 (base:=0) (e:=e) (size:=1) w (madeCells #[z] n) n (zq4 _) hn (by simp[madeCells]);rw[zq108]at this;exact this
theorem TabG.keep {α:Type}{e:TypeId}{R:World→Value→α→Prop}{S:Nat→Prop}{w w':World}{g n:Nat}{tl:List α}(h:TabG e R w g n tl)(hk:Keep S w w')(hg:S g)(hR:∀v r,R w v r→R w' v r):TabG e R w' g n tl:=by
 obtain⟨us,h1,h2,h3⟩:=h;refine⟨us,⟨h1.1,?_⟩,h2,fun i r hr=>?_⟩
 ·rcases h1.2 with⟨h,_⟩|⟨g',cap,cur,h,hb,hgg,hrest⟩
  ·cases h
  ·cases h;refine .inr ⟨g,_,cur,rfl,hb,?_,hrest⟩;rw[hk.block g hg (zq10.1 hgg).1];exact hgg
 ·obtain⟨u,hu,hr'⟩:=h3 i r hr;exact⟨u,hu,hR _ _ hr'⟩
theorem TabG.push {α:Type}{e:TypeId}{R:World→Value→α→Prop}{w:World}{g n:Nat}{tl:List α}(h:TabG e R w g n tl){k:Nat}(hk:tl.length=k)(hn:k<n){u:Value}{x:α}
  (hR:∀v r,R w v r→R (w.setCell ⟨g,k,none⟩ u) v r) (hu:R w u x):TabG e R (w.setCell ⟨g,k,none⟩ u) g n (tl++[x]):=by
 obtain⟨us,h1,h2,h3⟩:=h;refine⟨us.set k u,(zq109 h1 k u).1,by simp[h2],fun i y hy=>?_⟩;rcases zq36 i tl.length with hi|hi
 ·rw[zq28 hi]at hy;obtain⟨v,hv,hr⟩:=h3 i y hy;exact⟨v,by rw[zq111 (by omega)];exact hv,hR _ _ hr⟩
 ·rw[zq27 hi]at hy;obtain rfl:i=k:=by
   rcases hj:i-tl.length with _|j
   ·omega
   ·rw[hj]at hy;simp at hy
  rw[show i-tl.length=0 by omega]at hy;simp at hy;subst hy;exact⟨u,zq94 (by omega),hR _ _ hu⟩
theorem TabG.sl {α:Type}{e:TypeId}{R:World→Value→α→Prop}{S:Nat→Prop}{w:World}{g:Nat}{tl:List α}(h:TabG e R w g tl.length tl)(hg:S g):SlG R S w (.slice (some ⟨g,0,none⟩) tl.length tl.length) tl:=by
 have hlt:=h.lt;have hm:=h.cap;obtain⟨us,h1,h2,h3⟩:=h;refine⟨some ⟨g,0,none⟩,tl.length,rfl,zq1 _,hm,by simp,fun i x hx=>?_⟩;obtain⟨u,hu,hr⟩:=h3 i x hx;refine⟨g,0,rfl,hg,hlt,u,?_,hr⟩;rw[zq39,zq59 h1 i (by have:=(zq2.1 hx).1;omega)];exact hu
theorem take_succ {α:Type}{l:List α}{k:Nat}{x:α}(h:l[k]?=some x):l.take (k+1)=l.take k++[x]:=by rw[zq69,h];rfl
theorem take_len {α:Type}{l:List α}{k:Nat}(h:k≤l.length):(l.take k).length=k:=by rw[zq75];omega
theorem SlG.form {α:Type}{E:World→Value→α→Prop}{S:Nat→Prop}{w:World}{v:Value}{l:List α}(h:SlG E S w v l):∃a c,v= .slice a l.length c∧l.length≤c∧c≤maxLen:=by
 obtain⟨a,c,h1,h2,h3,_⟩:=h;exact⟨a,c,h1,h2,h3⟩
theorem SlG.get {α:Type}{E:World→Value→α→Prop}{S:Nat→Prop}{w:World}{a:Option Addr}{n c:Nat}{l:List α}(h:SlG E S w (.slice a n c) l){k:Nat}{x:α}(hx:l[k]?=some x):
  ∃b o u,a=some ⟨b,o,none⟩∧S b∧b<w.heap.size∧w.cell? ⟨b,o+k,none⟩=some u∧E w u x:=by
 obtain⟨ao,c',e,_,_,_,h4⟩:=h;obtain⟨rfl,_,_⟩:a=ao∧n=l.length∧c=c':=by simpa using e
 obtain⟨b,o,e1,e2,e3,u,e4,e5⟩:=h4 k x hx;exact⟨b,o,u,e1,e2,e3,e4,e5⟩
theorem spot_of_cell {w:World}{a:Addr}{v:Value}(h:w.cell? a=some v):a=⟨a.block,a.off,none⟩∧a.block<w.heap.size:=by
 refine⟨?_,World.block_lt_of_cell? w a h⟩;unfold World.cell? at h;split at h
 ·next c _ _ hb=>
  split at h
  ·cases h
  ·next hs=>
   cases a with
   |mk b o s=>
    cases s with
    |none=>rfl
    |some s=>simp at hs
 ·cases h
section
variable {H:Type} {enc:TypeId×Value→H} {w:World} {base:Nat} {spare:Nat→Bool} {held:Bool}
end
end Go.Proofs.YtlmlamcoeegkbaaGreat
namespace Go.Proofs.YtlmlamcoeegkbaaGreat.GenG
open Go.Proofs.YtlmlamcoeegkbaaGreat Tow NumT GenD SpecR SpecS
theorem flatMap_filter {α:Type}(p:Nat→Bool)(f:Nat→List α):∀l:List Nat,(l.flatMap fun t=>if p t=true then f t else [])=(l.filter p).flatMap f
 |[]=>rfl
 |a::l=>by
  rw[zq92,flatMap_filter p f l,List.filter_cons];by_cases h:p a=true
  ·rw[zq57 h,zq57 h,zq92]
  ·rw[zq37 h,zq37 h,List.nil_append]
theorem growV_succ {Q T:Tw}{k:Nat}{L:Lv}(hL:T[k]?=some L)(im:List (List Nat)):growV Q T (k+1) im=(ChL Q L im).flatMap fun x=>growV Q T k (x::im):=by
 classical
 have hd:T.getD k ⟨0,[],[]⟩=L:=by rw[zq9,hL];rfl
 rw[growV,hd];unfold ChL nums;rw[List.flatMap_map,←flatMap_filter];congr 1;funext t;by_cases h:may Q L im t=true
 ·rw[zq57 h,zq57 (may_iff.1 h)]
 ·rw[zq37 h,zq37 (fun h'=>h (may_iff.2 h'))]
theorem growV_bound {Q T:Tw}(hz:sz Q≤27):∀(k:Nat),k≤T.length→∀im,(growV Q T k im).length≤27^k
 |0,_,im=>by simp[growV]
 |k+1,hk,im=>by
  obtain⟨L,hL⟩:∃L,T[k]?=some L:=⟨_,zq0 (by omega)⟩;rw[growV_succ hL];have hl:(ChL Q L im).length≤27:=by unfold ChL;rw[zq18];exact zq11 (nums_length _ _) hz
  have:∀l:List (List Nat),(l.flatMap fun x=>growV Q T k (x::im)).length≤l.length*27^k:=by
   intro l
   induction l with
   |nil=>simp
   |cons a l ih=>
    rw[zq92,zq31,zq58,Nat.succ_mul];rw[zq89 (l.length*27^k)];exact Nat.add_le_add (growV_bound hz k (by omega) (a::im)) ih
  refine zq11 (this _) ?_;rw[zq112,zq97];exact zq125 _ hl
end Go.Proofs.YtlmlamcoeegkbaaGreat.GenG
namespace Go.Proofs.YtlmlamcoeegkbaaGreat
open Go.RowKit
theorem infoR3:(Tryz.prog.info? 25).map (fun i=>(i.zero,i.size,i.bytes))=some (some (.slice none 0 0),1,24):=by kernel_rfl
theorem Keep.ext {S:Nat→Prop}{w w':World}(h:Keep S w w'):Keep (fun k=>k<w.heap.size→S k) w w':=⟨h.size,fun k hk hl=>h.block k (hk hl) hl⟩
theorem SlI.bnd {S:Nat→Prop}{w:World}{v:Value}{l:List Int}(h:SlI S w v l):SlI (fun k=>S k∧k<w.heap.size) w v l:=by
 obtain⟨ao,c,h1,h2,h3,h0,h4⟩:=h;refine⟨ao,c,h1,h2,h3,h0,fun i x hx=>?_⟩;obtain⟨b,o,e1,e2,e3,u,e4,e5⟩:=h4 i x hx;exact⟨b,o,e1,⟨e2,e3⟩,e3,u,e4,e5⟩
theorem Sl2.bnd {S:Nat→Prop}{w:World}{v:Value}{l:List (List Int)}(h:Sl2 S w v l):Sl2 (fun k=>S k∧k<w.heap.size) w v l:=by
 obtain⟨ao,c,h1,h2,h3,h0,h4⟩:=h;refine⟨ao,c,h1,h2,h3,h0,fun i x hx=>?_⟩;obtain⟨b,o,e1,e2,e3,u,e4,e5⟩:=h4 i x hx;exact⟨b,o,e1,⟨e2,e3⟩,e3,u,e4,e5.bnd⟩
theorem Sl3.bnd {S:Nat→Prop}{w:World}{v:Value}{l:List (List (List Int))}(h:Sl3 S w v l):Sl3 (fun k=>S k∧k<w.heap.size) w v l:=by
 obtain⟨ao,c,h1,h2,h3,h0,h4⟩:=h;refine⟨ao,c,h1,h2,h3,h0,fun i x hx=>?_⟩;obtain⟨b,o,e1,e2,e3,u,e4,e5⟩:=h4 i x hx;exact⟨b,o,e1,⟨e2,e3⟩,e3,u,e4,Sl2.bnd e5⟩
theorem ValP.bnd {S:Nat→Prop}{w:World}{vO vP vC:Value}{P:Pres}(h:ValP S w vO vP vC P):ValP (fun k=>S k∧k<w.heap.size) w vO vP vC P:=⟨h.os.bnd,h.ps.bnd,h.cs.bnd⟩
theorem Sl2.put {S:Nat→Prop}{w:World}{g n c:Nat}{rows:List (List Nat)}(hn:rows.length=n)(h:Own2 24 2 0 w (.slice (some ⟨g,0,none⟩) n c) rows)(hS:Sl2 S w (.slice (some ⟨g,0,none⟩) n c) (rows.map ints))(k:Nat){u:Value}{r:List Nat}
  (hu:SlI (fun b=>S b∧b≠g) w u (ints r)):Sl2 S (w.setCell ⟨g,k,none⟩ u) (.slice (some ⟨g,0,none⟩) n c) ((rows.set k r).map ints):=by
 subst hn;obtain⟨us,h1,h2,h3⟩:=h;have hs:=zq109 h1 k u;have hkp:Keep (fun b=>b≠g) w (w.setCell ⟨g,k,none⟩ u):=zqK.setCell (by simp) _;obtain⟨ao,c',e,g2,g3,g0,g4⟩:=hS;simp only[zq40]at e;obtain⟨rfl,-, rfl⟩:=e;refine⟨some ⟨g,0,none⟩,c,by simp,by simpa using g2,g3,by simp,fun i x hx=>?_⟩;have hi:i<rows.length:=by
  have:=(zq2.1 hx).1;simpa using this
 obtain⟨b,o,e1,e2,e3,v,e4,e5⟩:=g4 i (ints rows[i]) (by rw[zq20,zq0 hi];rfl);simp only[zq42,zq96,and_true]at e1;obtain⟨rfl,rfl⟩:=e1;have hv:us[i]?=some v:=by
  have:=zq59 h1 i (by omega);rw[zq39]at e4;rw[this]at e4;exact e4
 by_cases hik:i=k
 ·subst hik;rw[zq20,zq94 hi]at hx;injection hx with hx;subst hx;refine⟨g,0,rfl,e2,by rw[World.size_setCell];exact e3,u,?_,(hu.keep (hkp.mono (fun b hb=>hb.2))).mono (fun b hb=>hb.1)⟩;have:=zq59 hs.1 i (by omega);rw[zq94 (by omega)]at this;rw[zq39];exact this
 ·rw[zq20,zq111 (fun h=>hik h.symm),zq0 hi]at hx;injection hx with hx;subst hx;have hrow:=h3 i rows[i] v (zq0 hi) hv;have hap:∀k,v.ownBlock=some k→k≠g:=fun k hk hg=>by
   rcases rows_apart hrow.2 h1 (by decide)with h|h
   ·rw[h]at hk;cases hk
   ·rw[hk,hg]at h;exact h rfl
  obtain⟨gv,cv,rfl⟩:=hrow.1;refine⟨g,0,rfl,e2,by rw[World.size_setCell];exact e3,.slice (some ⟨gv,0,none⟩) rows[i].length cv,?_,?_⟩
  ·have:=zq59 hs.1 i (by omega);rw[zq111 (fun h=>hik h.symm),hv]at this;rw[zq39];exact this
  ·obtain⟨ao,c'',f1,f2,f3,f0,f4⟩:=e5;refine⟨ao,c'',f1,f2,f3,f0,fun j y hy=>?_⟩;obtain⟨b',o',q1,q2,q3,q4,q5,q6⟩:=f4 j y hy;subst q1;simp only[zq40,zq42,zq96,and_true]at f1;have hb':b'≠g:=fun hbg=>hap gv rfl (f1.1.1.trans hbg);exact⟨b',o',rfl,q2,by rw[World.size_setCell];exact q3,q4,by rw[hkp.cell hb' q3];exact q5,q6⟩
def Own3 (B:Nat)(w:World)(v:Value)(L:List (List (List Nat))):Prop:=
 ∃us:List Value,w.ownsRow B 25 1 v L.length us∧us.length=L.length∧∀(i:Nat) (rows:List (List Nat)) (u:Value),L[i]?=some rows→us[i]?=some u→Own2 24 2 B w u rows
theorem Own2.apart {e2 e e3:TypeId}(h2:e2≠e3)(h1:e≠e3){B B' s n:Nat}{w w':World}{v v3:Value}{rows:List (List Nat)}{us:List Value}(h:Own2 e2 e B w v rows)(h3:w.ownsRow B' e3 s v3 n us)(hg:w.grownBy w' v3.ownBlock):Own2 e2 e B w' v rows:=by
 obtain⟨us2,a1,a2,a4⟩:=h;exact⟨us2,a1.kept hg (rows_apart a1 h3 h2),a2,fun i r u hr hu=>⟨(a4 i r u hr hu).1,zq93 (a4 i r u hr hu).2 hg (rows_apart (a4 i r u hr hu).2 h3 h1)⟩⟩
theorem Own3.nil (B:Nat)(w:World):Own3 B w (.slice none 0 0) []:=⟨[],zq56 _ _ _ _,rfl,by simp⟩
theorem ownsRow_keep' {w w':World}{B:Nat}{e:TypeId}{s n:Nat}{v:Value}{xs:List Value}{S:Nat→Prop}(h:w.ownsRow B e s v n xs)(hk:Keep S w w')(hS:∀k,B≤k→k<w.heap.size→S k):w'.ownsRow B e s v n xs:=ownsRow_keep h hk.ext hS
theorem Own2.keep' {e2 e:TypeId}{B:Nat}{S:Nat→Prop}{w w':World}{v:Value}{rows:List (List Nat)}(h:Own2 e2 e B w v rows)(hk:Keep S w w')(hS:∀k,B≤k→k<w.heap.size→S k):Own2 e2 e B w' v rows:=h.keep hk.ext hS
theorem Own3.keep {B:Nat}{S:Nat→Prop}{w w':World}{v:Value}{L:List (List (List Nat))}(h:Own3 B w v L)(hk:Keep S w w')(hS:∀k,B≤k→k<w.heap.size→S k):Own3 B w' v L:=by
 obtain⟨us,h1,h2,h4⟩:=h;exact⟨us,ownsRow_keep' h1 hk hS,h2,fun i r u hr hu=>(h4 i r u hr hu).keep' hk hS⟩
theorem Own3.of_below {B:Nat}{w w':World}{v:Value}{L:List (List (List Nat))}(h:Own3 B w v L)(hb:Below w.heap.size w w'):Own3 B w' v L:=h.keep (S:=fun _=>True) (Keep.of_below hb) (fun _ _ _=>trivial)
theorem Own3.form {B:Nat}{w:World}{v:Value}{L:List (List (List Nat))}(h:Own3 B w v L):∃a cap,v= .slice a L.length cap∧L.length≤cap∧cap≤maxLen:=by
 obtain⟨us,h1,h2,h4⟩:=h;rcases h1.2 with⟨rfl,hn⟩|⟨g,cap,cur,rfl,hb,hgg,hn,hm,hs,ht⟩
 ·exact⟨none,0,by rw[hn],by omega,by simp⟩
 ·exact⟨_,cap,rfl,hn,hm⟩
theorem Own3.lt {B:Nat}{w:World}{v:Value}{L:List (List (List Nat))}(h:Own3 B w v L):∀k,v.ownBlock=some k→B≤k∧k<w.heap.size:=by
 obtain⟨us,h1,h2,h4⟩:=h;exact zq8 h1
theorem Own3.push {B n:Nat}{w w':World}{v v' u:Value}{L:List (List (List Nat))}{rows:List (List Nat)}{us:List Value}(hn:L.length=n)
  (h1:w.ownsRow B 25 1 v n us) (h2:us.length=L.length) (h4:∀(i:Nat) (rows:List (List Nat)) (u:Value),L[i]?=some rows→us[i]?=some u→Own2 24 2 B w u rows)
  (hu:Own2 24 2 B w u rows) (ho:w'.ownsRow B 25 1 v' (n+1) (us++[u])) (hg:w.grownBy w' v.ownBlock):Own3 B w' v' (L++[rows]):=by
 subst hn;refine⟨us++[u],by simpa using ho,by simp[h2],fun i r' u' hr' hu'=>?_⟩;have hown:Own2 24 2 B w u' r':=by
  rcases zq36 i L.length with hi|hi
  ·rw[zq28 hi]at hr';rw[zq28 (by omega)]at hu';exact h4 i r' u' hr' hu'
  ·rw[zq27 hi]at hr';rw[zq27 (by omega)]at hu';rw[h2]at hu';rcases hj:i-L.length with _|j
   ·rw[hj]at hr' hu';simp at hr' hu';subst hr';subst hu';exact hu
   ·rw[hj]at hr';simp at hr'
 exact hown.apart (by decide) (by decide) h1 hg
end Go.Proofs.YtlmlamcoeegkbaaGreat
namespace Go.Proofs.YtlmlamcoeegkbaaGreat.SpecU
open Go.RowKit Go.Proofs.YtlmlamcoeegkbaaGreat Tow NumT GenD GenG SpecB SpecL SpecR SpecS
def GrR (B:Nat)(w:World)(vF:Value)(R:List (List (List Nat)))(e:Ending)(w':World):Prop:=
 ∃v,e= .returned v∧Own3 B w' v R∧Keep (fun b=>some b≠vF.ownBlock) w w'∧(v.ownBlock=vF.ownBlock∨∀b,v.ownBlock=some b→w.heap.size≤b)∧Below B w w'
def imk (Q:Tw)(k:Nat)(im:List (List Nat)):List (List Nat):=List.replicate k (Tow.one Q)++im
theorem imk_set (Q:Tw)(k:Nat)(im:List (List Nat))(x:List Nat):(imk Q (k+1) im).set k x=imk Q k (x::im):=by
 unfold imk;rw[zq101,zq74,List.set_append_right _ _ (by simp)];simp
theorem imk_drop (Q:Tw)(k:Nat)(im:List (List Nat)):(imk Q k im).drop k=im:=by simp[imk]
theorem imk_length (Q:Tw)(k:Nat)(im:List (List Nat)):(imk Q k im).length=k+im.length:=by simp[imk]
theorem imk_El {Q:Tw}(hQ:Wf Q){k:Nat}{im:List (List Nat)}(h:∀x∈im,El Q x):∀x∈imk Q k im,El Q x:=fun x hx=>by
 rcases zq68.1 hx with h1|h1
 ·rw[(zq82.1 h1).2];exact El_one hQ
 ·exact h x h1
theorem ChL_El {Q:Tw}(hQ:Wf Q){L:Lv}{im:List (List Nat)}:∀x∈ChL Q L im,El Q x:=fun x hx=>by
 unfold ChL at hx;obtain⟨t,_,rfl⟩:=zq35.1 hx;exact at_El hQ t
theorem ChL_length {Q:Tw}(hz:sz Q≤27){L:Lv}{im:List (List Nat)}:(ChL Q L im).length≤27:=by
 unfold ChL;rw[zq18];exact zq11 (nums_length _ _) hz
theorem flat_len {Q T:Tw}(hz:sz Q≤27){k:Nat}(hk:k≤T.length)(im:List (List Nat)):∀l:List (List Nat),(l.flatMap fun x=>growV Q T k (x::im)).length≤l.length*27^k:=by
 intro l
 induction l with
 |nil=>simp
 |cons a l ih=>
  rw[zq92,zq31,zq58,Nat.succ_mul,zq89 (l.length*27^k)];exact Nat.add_le_add (growV_bound hz k hk (a::im)) ih
theorem flat_room {Q T:Tw}(hz:sz Q≤27){k:Nat}(hk:k≤T.length){im:List (List Nat)}{F:List (List (List Nat))}{l:List (List Nat)}{c N:Nat}(h:F.length+27^(k+1)≤N)(hl:l.length≤27)(hc:c<l.length):
  (F++(l.take c).flatMap fun x=>growV Q T k (x::im)).length+27^k≤N:=by
 have h1:=flat_len hz hk im (l.take c);rw[zq75,Nat.min_eq_left (by omega)]at h1;rw[zq31];have h2:(c+1)*27^k≤27*27^k:=zq84 _ (by omega);rw[zq112,zq97]at h;rw[Nat.succ_mul]at h2;omega
def GrowSpec (T Q:Tw)(k:Nat):Prop:=∀(B:Nat) (w:World) (pO pP pC qO qP qC vi vF:Value) (im:List (List Nat)) (F:List (List (List Nat))),ValP (fun b=>some b≠vF.ownBlock) w pO pP pC (ofTw T)→ValP (fun b=>some b≠vF.ownBlock) w qO qP qC (ofTw Q)→
 Sl2 (fun b=>some b≠vF.ownBlock) w vi ((imk Q k im).map ints)→k+im.length=T.length→(∀x∈im,El Q x)→Own3 B w vF F→B≤w.heap.size→F.length+27^k≤1000000000→
 Calls Tryz.prog 83 #[.agg #[pO,pP,pC],.agg #[qO,qP,qC],.int .i64 ((k:Int)-1),vi,vF] w (GrR B w vF (F++growV Q T k im))
theorem grow_zero (T Q:Tw)(hsT:Small T)(hs:Small Q):GrowSpec T Q 0:=by
 intro B w pO pP pC qO qP qC vi vF im F hPT hPQ hi hl hE hF hB hN;obtain⟨i0,hinf,hz0,hz1,hz2⟩:=zq41 infoR3;have hi':Sl2 (fun b=>some b≠vF.ownBlock) w vi (im.map ints):=hi;have HI:=hid hi';have HN:=hid (show F.length+1≤1000000000 from hN);have HF:=hid hF;have HOWN:=hid (fun W hv=>own2_any W vi im hv (by have:=hsT.1;omega) (fun r hr=>by rw[El_length (hE r hr)];have:=hs.1;omega));rw[show(((0:Nat):Int)-1)= -1 from rfl];obtain⟨W0,hW0⟩:∃W0,W0=(w.alloc (.cells #[pO,pP,pC] 28)).alloc (.cells #[qO,qP,qC] 28):=⟨_,rfl⟩;have HB0:=hid (show Below w.heap.size w W0 by rw[hW0];exact(zqB.alloc zqN _).alloc (by simp) _);clear hPT hPQ hi hi' hE hF hN hl;go_enter Tryz.func83,Tryz.ntmps83;go_upto_region 1 with fail;rw[←hW0];clear hW0;go_wp2_with fail;refine(HOWN.out _ ((HI.out.keep (Keep.of_below HB0.out)).mono (fun _ _=>trivial))).mono ?_;rintro e w1 ⟨v1,rfl,ho1,hb1⟩;have HO1:=hid (ho1.mono (B':=B) (zq11 hB HB0.out.size));have HB1:=hid (HB0.out.trans (hb1.mono HB0.out.size));obtain⟨us,h1,h2,h4⟩:=HF.out.of_below HB1.out;have HU:=hid (And.intro h2 h4);obtain⟨a1,c1,rfl,_,_⟩:=ho1.form;have HS1:=hid HB1.out.size;clear ho1 hb1 h2 h4;go_wp2_with (at_builtin;(refine zq52 _ rfl _ _ 26 rfl B 25 i0 (.slice none 0 0) 1 24 Tryz.underlying26 hinf hz0 hz1 hz2 rfl (by decide) _ _ _ rfl (h1.alloc _) ⟨w1.heap.size,0,none⟩ 1 1 [.slice a1 im.length c1] rfl rfl ?c1 ?c2 ?c3 ?c4 ?c5 ?c6 _ rfl ?_));case c1=>
  intro j u hj
  match j,hj with
  |0,hj=>simp at hj;subst hj;simp[Addr.add]
 case c2=>intro u hu;simp at hu;subst hu;rfl
 case c3=>omega
 case c4=>have:=HN.out;unfold maxLen;omega
 case c5=>have:=HN.out;omega
 case c6=>have:=HB1.out.size;simp;omega
 ·intro g cap w2 hown hgrow hat hlt;have HR:=hid (show GrR B w vF (F++growV Q T 0 im) (.returned (.slice (some ⟨g,0,none⟩) (F.length+1) cap)) w2 from by
   refine⟨_,rfl,?_,?_,?_,?_⟩
   ·exact Own3.push (w:=w1.alloc _) (us:=us) rfl (h1.alloc _) HU.out.1 (fun i r u hr hu=>(HU.out.2 i r u hr hu).keep (S:=fun _=>True) (zqK.alloc _) (fun _ _=>trivial)) (HO1.out.keep (S:=fun _=>True) (zqK.alloc _) (fun _ _=>trivial)) hown hgrow
   ·exact((Keep.of_below HB1.out).alloc _).trans (Keep.grown hgrow (fun k hk=>hk))
   ·rcases hat with h|h
    ·exact .inl h.symm
    ·refine .inr fun b hb=>?_;simp only[Value.ownBlock,zq42]at hb;subst hb;rw[h];have:=HB1.out.size;simp;omega
   ·exact((HB1.out.mono hB).alloc (by have:=HB1.out.size;omega) _).grown hgrow (by simp;have:=HB1.out.size;omega) (fun g hg=>(zq8 h1 g hg).1))
  clear hown hgrow hat hlt h1 HU HO1;go_wp2_with fail;go_ret;exact HR.out
theorem keepS1 {S:Nat→Prop}{a b:World}(h:Keep (fun k=>S k∧k<a.heap.size) a b):Keep S a b:=⟨h.size,fun k hk hs=>h.block k ⟨hk,hs⟩ hs⟩
open Classical in
theorem ChL_triv {L:Lv}{im:List (List Nat)}:ChL [] L im=[]:=by
 have hm:∀t,may [] L im t=false:=fun t=>by
  unfold may;refine zq67 fun h=>h.1 ?_;have e:at_ [] t=Tow.one []:=rfl;rw[e];exact Gen.Gen.one
 unfold ChL nums;rw[List.filter_eq_nil_iff.2 (fun t _=>by rw[hm t];simp)];rfl
theorem grow_succ (T Q:Tw)(hT:Wf T)(hsT:Small T)(hQ:Wf Q)(hs:Small Q)(hg:Tow.Good Q)(hp:SpecI.Pr Q)(hz:sz Q≤27)(k:Nat)(hk:k<T.length)(hq0:0<Q.length∨(Q=[]∧k+1=T.length))(hrec:0<Q.length→GrowSpec T Q k):GrowSpec T Q (k+1):=by
 intro B w pO pP pC qO qP qC vi vF im F hPT hPQ hi hl hE hF hB hN;obtain⟨L,hL⟩:∃L,T[k]?=some L:=⟨_,zq0 hk⟩;have hT6:=hsT.1;have HI:=hid hi;have HPT:=hid hPT;have HPQ:=hid hPQ;have HN:=hid hN;have HF:=hid hF;have HE:=hid hE;have HLN:=hid hl;have HREC:=hid hrec;have HQ0:=hid (show∀x,x∈ChL Q L im→0<Q.length from fun x hx=>by
  rcases hq0 with h|⟨h,_⟩
  ·exact h
  ·subst h;exact absurd hx (by rw[ChL_triv];simp))
 have HLT:=hid hF.lt;have HGS:=hid (growV_succ (Q:=Q) hL im);have HCH:=hid (fun W hP hQ' hv=>show Calls _ _ _ _ (New2 _ _ (ChL Q L im) W) from by
  have h:=choices_any T Q hT hsT hQ hs hg hp (by omega) W pO pP pC qO qP qC vi k L hL (imk Q (k+1) im) hP hQ' hv (by rw[imk_length];omega) (imk_El hQ hE) hq0;rwa[imk_drop]at h)
 have HOWN:=hid (fun W hv=>own2_any W vi (imk Q (k+1) im) hv (by rw[imk_length];omega) (fun r hr=>by rw[El_length (imk_El hQ hE r hr)];have:=hs.1;omega));have HCE:=hid (ChL_El hQ (L:=L) (im:=im));have HCL:=hid (ChL_length hz (L:=L) (im:=im));have HRM:=hid (fun c hc=>flat_room (Q:=Q) (T:=T) hz (zq44 hk) (im:=im) hN (ChL_length hz (L:=L) (im:=im)) (c:=c) hc);obtain⟨n,hn⟩:∃n,(ChL Q L im).length=n:=⟨_,rfl⟩;have HNN:=hid hn;have hn27:n≤27:=by rw[←hn];exact HCL.out
 rw[show(((k+1:Nat):Int)-1)=(k:Int) by omega];obtain⟨W0,hW0⟩:∃W0,W0=(w.alloc (.cells #[pO,pP,pC] 28)).alloc (.cells #[qO,qP,qC] 28):=⟨_,rfl⟩;have HB0:=hid (show Below (w.heap.size+2) ((w.alloc (.cells #[pO,pP,pC] 28)).alloc (.cells #[qO,qP,qC] 28)) W0 by rw[hW0];exact zq3 _ _);have hd0:decide ((k:Int)<0)=false:=by simp
 clear hPT hPQ hi hE hF hN hl hn hL hrec hq0;go_enter Tryz.func83,Tryz.ntmps83;go_upto_region 1 with fail;rw[←hW0];clear hW0;obtain⟨⟨p0,p1,p2⟩,⟨q0,q1,q2⟩,hkk,hbw,hsz⟩:=bx HB0.out;go_wp2_with fail;refine(HCH.out _ ((HPT.out.keep (hkk.mono (fun _ _=>trivial))).mono (fun _ _=>trivial)) ((HPQ.out.keep (hkk.mono (fun _ _=>trivial))).mono (fun _ _=>trivial)) ((HI.out.keep (hkk.mono (fun _ _=>trivial))).mono (fun _ _=>trivial))).mono ?_;rintro e w1 ⟨vc,rfl,hoc,hb1⟩;have HB1:=hid (HB0.out.trans (hb1.mono hsz));obtain⟨-, -, hk1,hbw1,hsz1⟩:=bx HB1.out;have HK1:=hid hk1;have HBW1:=hid hbw1;have hvF:∀b,vF.ownBlock=some b→b<w.heap.size:=fun b hb=>(HLT.out b hb).2;have HVF:=hid hvF;have HP1:=hid (HPT.out.keep (hk1.mono (fun _ _=>trivial))).bnd;have HQ1:=hid (HPQ.out.keep (hk1.mono (fun _ _=>trivial))).bnd;have HI1:=hid (HI.out.keep (hk1.mono (fun _ _=>trivial))).bnd;have HC1:=hid (show Sl2 (fun b=>some b≠vF.ownBlock∧b<w1.heap.size) w1 vc ((ChL Q L im).map ints) from(hoc.sl.bnd).mono (fun b hb=>⟨fun h=>by have:=HVF.out b h.symm;have:=hb.1;omega,hb.2⟩));obtain⟨ac,cc,hvc,_,_⟩:=hoc.form;rw[HNN.out]at hvc;subst hvc;have HF1:=hid (show Own3 B w1 vF (F++((ChL Q L im).take 0).flatMap fun x=>growV Q T k (x::im)) from by
  rw[List.take_zero,List.flatMap_nil,zq95];exact HF.out.of_below HBW1.out)
 clear hoc hb1 hkk hbw hsz hk1 hbw1 p0 p1 p2 q0 q1 q2 HPT HPQ HI HCH HF HLT hvF;go_wp2_with fail;go_loopw [4,12] (fun vf iv wr=>∃c:Nat,c≤n∧iv= .int .i64 (c:Int)∧Hid (Own3 B wr vf (F++((ChL Q L im).take c).flatMap fun x=>growV Q T k (x::im)))∧Hid (Keep (fun b=>some b≠vF.ownBlock∧b<w1.heap.size) w1 wr)∧Hid (vf.ownBlock=vF.ownBlock∨∀b,vf.ownBlock=some b→w1.heap.size≤b)∧Hid (Below B w1 wr)) (fun _ iv _=>n-(intOf iv).toNat);case atStart=>exact⟨0,zq4 _,rfl,HF1,hid zqK,hid (.inl rfl),hid zqB⟩
 case round=>
  obtain⟨c,hc,rfl,hO,hK,hW,hBB⟩:=hrel;have hs1r:=hK.out.size;by_cases hlt:c<n
  ·have hdc:decide ((c:Int)<(n:Int))=true:=by simp;omega
   obtain⟨x,hx⟩:∃x,(ChL Q L im)[c]?=some x:=⟨_,zq0 (by rw[HNN.out];exact hlt)⟩;have HX:=hid hx;obtain⟨bC,oC,ux,e1,⟨hbS,hbC⟩,_,hcC,hrC⟩:=SlG.get HC1.out (k:=c) (x:=ints x) (by rw[zq20,hx];rfl);subst e1;have HRC:=hid hrC;have hbC2:bC<wr.heap.size:=by omega
   have hcCr:wr.cell? ⟨bC,oC+c,none⟩=some ux:=(hK.out.cell ⟨hbS,hbC⟩ hbC).trans hcC;have HCC:=hid hcCr;clear hx hrC hcC hcCr;go_wp2_with fail;refine(HOWN.out _ ((HI1.out.keep hK.out).mono (fun _ _=>trivial))).mono ?_;rintro e w4 ⟨v4,rfl,ho4,hb4⟩;obtain⟨g4,c4,_,hv4,hg4B,hg4l,_,_⟩:=ho4.at (i:=0) (r:=(imk Q (k+1) im)[0]'(by rw[imk_length];omega)) (by rw[zq0]);have HL4:=hid (show(imk Q (k+1) im).length=T.length by rw[imk_length];exact HLN.out);rw[HL4.out]at hv4;subst hv4;have HO4:=hid ho4;have HB4:=hid hb4;have hs4:=hb4.size;obtain⟨⟨s4,f4⟩,ff4⟩:=Own2.cellF ho4 (k:=k) (by rw[imk_length];omega);have hcc4:w4.cell? ⟨bC,oC+c,none⟩=some ux:=(hb4.cell (p:=⟨bC,oC+c,none⟩) hbC2).trans HCC.out;have hkT:(k:Int)<(T.length:Int):=by omega
   have hk0:(0:Int)≤(k:Int):=by omega
   have hcn:(c:Int)<(n:Int):=by omega
   have hc0:(0:Int)≤(c:Int):=by omega
   obtain⟨aR,cR,hux,_⟩:=SlI.open HRC.out;subst hux;clear ho4 hb4;go_upto_region 9 with fail;obtain⟨w5,hw5⟩:∃w5,w5=w4.setCell ⟨g4,k,none⟩ (.slice aR x.length cR):=⟨_,rfl⟩;rw[←hw5];have hs5:w5.heap.size=w4.heap.size:=by rw[hw5,World.size_setCell]
   have hK45:Keep (fun b=>b≠g4) w4 w5:=by rw[hw5];exact zqK.setCell (by simp) _
   have hK15:Keep (fun b=>some b≠vF.ownBlock∧b<w1.heap.size) w1 w5:=(hK.out.trans (Keep.of_below HB4.out)).trans (hK45.mono (fun b hb=>by omega));have hNE:∀b,some b≠vF.ownBlock→b<w1.heap.size→some b≠u4.ownBlock:=fun b h1 h2=>by
    rcases hW.out with h|h
    ·rw[h];exact h1
    ·intro e;have:=h b e.symm;omega
   have hVf:∀b,u4.ownBlock=some b→b<wr.heap.size:=fun b hb=>(hO.out.lt b hb).2;have HNX:=hid (show Sl2 (fun b=>some b≠u4.ownBlock) w5 (.slice (some ⟨g4,0,none⟩) T.length c4) ((imk Q k (x::im)).map ints) from by
    rw[hw5,←imk_set];exact Sl2.put HL4.out (HO4.out.mono (zq4 _)) (HO4.out.sl.mono (fun b hb e=>by have:=hVf b e.symm;omega)) k ((HRC.out.keep (hK.out.trans (Keep.of_below HB4.out))).mono (fun b hb=>⟨hNE b hb.1 hb.2,by have:=hb.2;omega⟩)))
   have HO5:=hid (hO.out.keep (S:=fun b=>b<wr.heap.size) ((Keep.lt HB4.out).trans (hK45.mono (fun b hb=>by omega))) (fun b _ hb=>hb));have HP5:=hid ((HP1.out.keep hK15).mono (fun b hb=>hNE b hb.1 hb.2));have HQ5:=hid ((HQ1.out.keep hK15).mono (fun b hb=>hNE b hb.1 hb.2));have HB5:=hid (show Below B w1 w5 from by rw[hw5];exact(hBB.out.trans (HB4.out.mono (by omega))).setCell (by show B≤g4;omega) _);obtain⟨⟨p0,p1,p2⟩,⟨q0,q1,q2⟩,-, -, -⟩:=bx HB1.out;have hbx:∀j o,w.heap.size≤j→j<w1.heap.size→w5.cell? ⟨j,o,none⟩=w1.cell? ⟨j,o,none⟩:=fun j o h1 h2=>hK15.cell ⟨fun e=>by have:=HVF.out j e.symm;omega,h2⟩ h2;rw[←hbx _ _ (by omega) (by omega)]at p0 p1 p2 q0 q1 q2;have HK15:=hid hK15;have HNE:=hid hNE;have hk6:(k:Int)≤6:=by omega
   have HXE:=hid (show∀y∈x::im,El Q y from fun y hy=>by
    rcases zq70.1 hy with h|h
    ·rw[h];exact HCE.out x (zq5 HX.out)
    ·exact HE.out y h)
   have HS5:=hid (show B≤w5.heap.size∧w1.heap.size≤w5.heap.size by omega);clear hw5 hs5 hK45 hK15 hNE hVf hbx f4 ff4 hcc4 hs4;go_wp2_with fail;refine(HREC.out (HQ0.out x (zq5 HX.out)) B w5 pO pP pC qO qP qC (.slice (some ⟨g4,0,none⟩) T.length c4) u4 (x::im) _ HP5.out HQ5.out HNX.out (by have:=HLN.out;simp;omega) HXE.out HO5.out HS5.out.1 (HRM.out c (by rw[HNN.out];exact hlt))).mono ?_;rintro e w6 ⟨v6,rfl,hO6,hK6,hW6,hB6⟩;have HN6:=hid (show Own3 B w6 v6 (F++((ChL Q L im).take (c+1)).flatMap fun x=>growV Q T k (x::im)) from by
    rw[take_succ HX.out,List.flatMap_append,zq92,List.flatMap_nil,zq95,←zq74];exact hO6)
   have HKK:=hid (HK15.out.trans (hK6.mono (fun b hb=>HNE.out b hb.1 hb.2)));have HWW:=hid (show v6.ownBlock=vF.ownBlock∨∀b,v6.ownBlock=some b→w1.heap.size≤b from by
    rcases hW6 with h|h
    ·rw[h];exact hW.out
    ·exact .inr (fun b hb=>zq11 HS5.out.2 (h b hb)))
   have HBB6:=hid (HB5.out.trans hB6);clear hO6 hK6 hW6 hB6 p0 p1 p2 q0 q1 q2;go_wp2_with fail;go_roundw;case rel=>exact⟨c+1,by omega,by go_num,HN6,HKK,HWW,HBB6⟩
   case measure=>simp[intOf];omega
  ·obtain rfl:c=n:=by omega
   have HR:=hid (show GrR B w vF (F++growV Q T (k+1) im) (.returned _) wr from by
    refine⟨_,rfl,?_,?_,?_,?_⟩
    ·have h:=hO.out;rw[←HNN.out,zq88,←HGS.out]at h;exact h
    ·exact(Keep.mono HK1.out (fun _ _=>trivial)).trans (keepS1 hK.out)
    ·rcases hW.out with h|h
     ·exact .inl h
     ·exact .inr (fun b hb=>zq11 HK1.out.size (h b hb))
    ·exact(HBW1.out.mono hB).trans hBB.out)
   go_wp2_with fail;go_ret;exact HR.out
theorem grow_any (T Q:Tw)(hT:Wf T)(hsT:Small T)(hQ:Wf Q)(hs:Small Q)(hg:Tow.Good Q)(hp:SpecI.Pr Q)(hz:sz Q≤27)(hQ0:0<T.length→0<Q.length):∀k,k≤T.length→GrowSpec T Q k
 |0,_=>grow_zero T Q hsT hs
 |k+1,h=>grow_succ T Q hT hsT hQ hs hg hp hz k (by omega) (.inl (hQ0 (by omega))) (fun _=>grow_any T Q hT hsT hQ hs hg hp hz hQ0 k (by omega))
theorem grow_top (T Q:Tw)(hT:Wf T)(hsT:Small T)(hQ:Wf Q)(hs:Small Q)(hg:Tow.Good Q)(hp:SpecI.Pr Q)(hz:sz Q≤27):GrowSpec T Q T.length:=by
 rcases Nat.eq_zero_or_pos Q.length with h|h
 ·obtain rfl:Q=[]:=zq21 h;cases hn:T.length with
  |zero=>exact grow_zero T [] hsT hs
  |succ k=>exact grow_succ T [] hT hsT hQ hs hg hp hz k (by omega) (.inr ⟨rfl,by omega⟩) (fun h=>absurd h (by simp))
 ·exact grow_any T Q hT hsT hQ hs hg hp hz (fun _=>h) T.length zqN
end Go.Proofs.YtlmlamcoeegkbaaGreat.SpecU
namespace Go.Proofs.YtlmlamcoeegkbaaGreat.SpecX
open Go.RowKit Go.Proofs.YtlmlamcoeegkbaaGreat Tow NumT GenD GenG SpecB SpecL SpecS SpecU
def New3 (R:List (List (List Nat)))(w:World)(e:Ending)(w':World):Prop:=∃v,e= .returned v∧Own3 w.heap.size w' v R∧Below w.heap.size w w'
theorem embed_any (T Q:Tw)(hT:Wf T)(hsT:Small T)(hQ:Wf Q)(hs:Small Q)(hg:Tow.Good Q)(hp:SpecI.Pr Q)(hz:sz Q≤27)(w:World)(pO pP pC qO qP qC:Value)
  (hPT:ValP Any w pO pP pC (ofTw T)) (hPQ:ValP Any w qO qP qC (ofTw Q)):
  Calls Tryz.prog 45 #[.agg #[pO,pP,pC],.agg #[qO,qP,qC]] w (New3 (growV Q T T.length []) w):=by
 obtain⟨i0,hinf,hz0,hz1,hz2⟩:=zq41 infoR;have hT6:=hsT.1;obtain⟨aO,cO,aP,cP,aC,cC,rfl,rfl,rfl,hO1,hP1,hC1⟩:=hPT.open;have HPT:=hid hPT;have HPQ:=hid hPQ;have HOT:=hid (SpecN.ofTw_ords Q);have HONE:=hid (fun W hO=>SpecN.one_any Q hs.1 W qO qP qC hO);have HGR:=hid (grow_top T Q hT hsT hQ hs hg hp hz);have HIM:=hid (show imk Q T.length []=List.replicate T.length (Tow.one Q) by unfold imk;rw[zq95]);have HZN:=hid (show(0:Nat)+27^T.length≤1000000000 from by
  have h6:27^T.length≤27^6:=zq110 (by omega) hT6;omega)
 obtain⟨W0,hW0⟩:∃W0,W0=(w.alloc (.cells #[.slice aO T.length cO,.slice aP T.length cP,.slice aC T.length cC] 28)).alloc (.cells #[qO,qP,qC] 28):=⟨_,rfl⟩;have HB0:=hid (show Below (w.heap.size+2) ((w.alloc (.cells #[.slice aO T.length cO,.slice aP T.length cP,.slice aC T.length cC] 28)).alloc (.cells #[qO,qP,qC] 28)) W0 by rw[hW0];exact zq3 _ _);have HS0:=hid (show W0.heap.size=w.heap.size+2 by rw[hW0];simp);have HO0:=hid (zq47 (base:=w.heap.size+2) (e:=24) (size:=1) W0 #[] 0 (by rw[HS0.out];exact zq1 _) (zq4 _) rfl);clear hPT hPQ;go_enter Tryz.func45,Tryz.ntmps45;go_upto_region 1 with fail;rw[←hW0];clear hW0;go_wp2_with fail;go_loopw [5,6] (fun v iv wr=>∃k:Nat,k≤T.length∧iv= .int .i64 (k:Int)∧Hid (Own2 24 2 (w.heap.size+2) wr v (List.replicate k (Tow.one Q)))∧Hid (Below (w.heap.size+2) ((w.alloc (.cells #[.slice aO T.length cO,.slice aP T.length cP,.slice aC T.length cC] 28)).alloc (.cells #[qO,qP,qC] 28)) wr)) (fun _ iv _=>T.length-(intOf iv).toNat);case atStart=>exact⟨0,zq4 _,rfl,hid ⟨[],HO0.out,rfl,by simp⟩,hid (HB0.out.alloc (by rw[HS0.out];exact zq1 _) _)⟩
 case round=>
  obtain⟨k,hk,rfl,hO,hB⟩:=hrel;obtain⟨⟨p0,p1,p2⟩,⟨q0,q1,q2⟩,hkk,hbw,hsz⟩:=bx hB.out;by_cases hlt:k<T.length
  ·have HOQ:=hid (show SlI Any wr qO (ints (SpecN.ords Q)) from by
    have h:=(HPQ.out.keep hkk).os;rwa[HOT.out]at h)
   clear hkk hbw;go_wp2_with fail;refine(HONE.out _ HOQ.out).mono ?_;rintro e w1 ⟨g,c,rfl,ho,hb1⟩;have HB1:=hid (hB.out.trans (hb1.mono hsz));have HRR:=hid (NewS.row (ho.mono (B':=w.heap.size+2) hsz));obtain⟨us,h1,h2,h4⟩:=hO.out.of_below hb1;have HU:=hid (And.intro h2 h4);have hrl:(List.replicate k (Tow.one Q)).length=k:=zq29;rw[hrl]at h1;have HTL:=hid hrl;have HSZ1:=hid (zq11 hsz hb1.size);clear ho hb1 h2 h4 hO hrl p0 p1 p2 q0 q1 q2;go_wp2_with (at_builtin;(refine zq55 _ rfl _ _ 25 rfl (w.heap.size+2) 24 i0 (.slice none 0 0) 1 24 Tryz.underlying25 hinf hz0 hz1 hz2 rfl (by decide) _ _ _ rfl (h1.alloc _) ⟨w1.heap.size,0,none⟩ 1 1 [.slice (some ⟨g,0,none⟩) (ints (Tow.one Q)).length c] rfl rfl ?c1 ?c2 ?c3 ?c4 ?c5 ?_));case c1=>
    intro j u hj
    match j,hj with
    |0,hj=>simp at hj;subst hj;simp[Addr.add]
   case c2=>intro u hu;simp at hu;subst hu;rfl
   case c3=>unfold maxLen;omega
   case c4=>omega
   case c5=>have:=HSZ1.out;simp;omega
   ·intro v' w2 hown hgrow _;have HN:=hid (show Own2 24 2 (w.heap.size+2) w2 v' (List.replicate (k+1) (Tow.one Q)) from by
     rw[zq101];exact Own2.push (w:=w1.alloc _) (us:=us) (by decide) HTL.out (h1.alloc _) HU.out.1 (fun i r u hr hu=>(HU.out.2 i r u hr hu).keep (S:=fun _=>True) (zqK.alloc _) (fun _ _=>trivial)) (HRR.out.keep (S:=fun _=>True) (zqK.alloc _) (fun _ _=>trivial)) hown hgrow)
    have HB2:=hid (show Below (w.heap.size+2) ((w.alloc (.cells #[.slice aO T.length cO,.slice aP T.length cP,.slice aC T.length cC] 28)).alloc (.cells #[qO,qP,qC] 28)) w2 from(HB1.out.alloc (by have:=HSZ1.out;omega) _).grown hgrow (by simp;have:=HSZ1.out;omega) (fun g hg=>(zq8 h1 g hg).1));clear hown hgrow h1 HU HRR;go_wp2_with fail;go_roundw;case rel=>exact⟨k+1,by omega,by go_num,HN,HB2⟩
    case measure=>simp[intOf];omega
  ·obtain rfl:k=T.length:=by omega
   have hlt0:decide ((T.length:Int)<(T.length:Int))=false:=by simp
   have HK:=hid hkk;have HBW:=hid hbw;obtain⟨W1,hW1⟩:∃W1,W1=wr.alloc (.cells #[] 25):=⟨_,rfl⟩;have hk1:Keep Any wr W1:=by rw[hW1];exact zqK.alloc _
   have HNE:=hid (show∀b,b<wr.heap.size→some b≠(Value.slice (some ⟨wr.heap.size,0,none⟩) 0 0).ownBlock from fun b hb e=>by
    simp only[Value.ownBlock,zq42]at e;omega)
   have HP1:=hid (((HPT.out.keep hkk).bnd.mono (fun b hb=>HNE.out b hb.2)).keep (hk1.mono (fun _ _=>trivial)));have HQ1:=hid (((HPQ.out.keep hkk).bnd.mono (fun b hb=>HNE.out b hb.2)).keep (hk1.mono (fun _ _=>trivial)));obtain⟨ai,ci,rfl,_,_⟩:=hO.out.form;rw[zq29]at hO ⊢;have HI1:=hid (show Sl2 (fun b=>some b≠(Value.slice (some ⟨wr.heap.size,0,none⟩) 0 0).ownBlock) W1 (.slice ai T.length ci) ((imk Q T.length []).map ints) from by
    rw[HIM.out];exact((hO.out.sl.bnd).mono (fun b hb=>HNE.out b hb.2)).keep (hk1.mono (fun _ _=>trivial)))
   have HF1:=hid (show Own3 w.heap.size W1 (.slice (some ⟨wr.heap.size,0,none⟩) 0 0) [] from⟨[],by
    rw[hW1];exact zq47 (base:=w.heap.size) (e:=25) (size:=1) wr #[] 0 (by omega) (zq4 _) rfl,rfl,by simp⟩)
   have HB1:=hid (show Below w.heap.size w W1 from by rw[hW1];exact hbw.alloc (by omega) _);have HWS:=hid (show w.heap.size≤W1.heap.size from by rw[hW1];simp;omega);clear hkk hbw hk1;go_wp2_with fail;rw[←hW1];have hGO:=HGR.out w.heap.size W1 (.slice aO T.length cO) (.slice aP T.length cP) (.slice aC T.length cC) qO qP qC (.slice ai T.length ci) (.slice (some ⟨wr.heap.size,0,none⟩) 0 0) [] [] HP1.out HQ1.out HI1.out (by simp) (by simp) HF1.out HWS.out HZN.out;refine hGO.mono ?_;rintro e w6 ⟨v6,rfl,hO6,hK6,hW6,hB6⟩;have HR:=hid (show New3 (growV Q T T.length []) w (.returned v6) w6 from⟨_,rfl,by rw[List.nil_append]at hO6;exact hO6,HB1.out.trans hB6⟩);clear hO6 hK6 hW6 hB6 hGO p0 p1 p2 q0 q1 q2;go_wp2_with fail;go_ret;exact HR.out
theorem grp_parts {T:Tw}(h:Grps.Grp (ofTw T)):Wf T∧Small T∧Tow.Good T∧SpecI.Pr T:=by
 obtain⟨T',h1,h2,h3,h5,h4⟩:=h;obtain rfl:=Grps.ofTw_inj h3;refine⟨h1,h2,h4,fun L hL=>?_⟩;have:=h5.pr (L.o:Int) (zq35.2 ⟨L,hL,rfl⟩);simp[Val.primeB]at this;omega
end Go.Proofs.YtlmlamcoeegkbaaGreat.SpecX
namespace Go.Proofs.YtlmlamcoeegkbaaGreat.IsoA
open Go.RowKit Go.Proofs.YtlmlamcoeegkbaaGreat Tow NumT GenD GenG SpecB SpecS SpecX
theorem grp_sz {T:Tw}(h:Grps.Grp (ofTw T)):SpecN.Os T∧sz T≤729:=by
 obtain⟨T',h1,h2,h3,h5,h4⟩:=h;obtain rfl:=Grps.ofTw_inj h3;have hz:=valid_sz h5;exact⟨SpecN.Os.of h1 h2 hz,hz⟩
end Go.Proofs.YtlmlamcoeegkbaaGreat.IsoA
namespace Go.Proofs.YtlmlamcoeegkbaaGreat.Ord
open Go.Proofs.YtlmlamcoeegkbaaGreat Tow NumT GenD Cmp Srt
def c3 (a b:Nat):Int:=if a<b then -1 else if b<a then 1 else 0
theorem cmpL_c3 (a b:Nat)(x y:List Nat):cmpL (a::x) (b::y)=if c3 a b=0 then cmpL x y else c3 a b:=by
 rw[cmpL_cons];unfold c3;by_cases h1:a<b
 ·rw[zq57 h1,zq57 h1];rfl
 ·rw[zq37 h1,zq37 h1];by_cases h2:b<a
  ·rw[zq57 h2,zq57 h2];rfl
  ·rw[zq37 h2,zq37 h2];rfl
theorem c3_two {s x y u v:Nat}(hu:u<s)(hv:v<s):c3 (s*x+u) (s*y+v)=if c3 x y=0 then c3 u v else c3 x y:=by
 unfold c3;rcases zq123 x y with h|h|h
 ·have:s*(x+1)≤s*y:=zq125 _ h;rw[Nat.mul_add]at this;rw[zq57 (by omega),zq57 h];rfl
 ·subst h;rw[zq37 (zq105 x),zq37 (zq105 x),zq57 rfl];by_cases h1:u<v
  ·rw[zq57 (by omega),zq57 h1]
  ·rw[zq37 (by omega),zq37 h1];by_cases h2:v<u
   ·rw[zq57 (by omega),zq57 h2]
   ·rw[zq37 (by omega),zq37 h2]
 ·have:s*(y+1)≤s*x:=zq125 _ h;rw[Nat.mul_add]at this;rw[zq37 (show¬s*x+u<s*y+v by omega),zq57 (show s*y+v<s*x+u by omega),zq37 (show¬x<y by omega),zq57 h];rfl
theorem cmp_at:∀(T:Tw) (hT:Wf T) (a b:Nat),cmpL (at_ T a) (at_ T b)=c3 (a%sz T) (b%sz T)
 |[],_,a,b=>by simp[at_,sz,c3,cmpL,Nat.mod_one]
 |L::T,hT,a,b=>by
  have hs:=sz_pos hT.2.2.2.2;have e:∀k,at_ (L::T) k=(k/sz T%L.o)::at_ T k:=fun k=>rfl;have em:∀k,k%sz (L::T)=sz T*(k/sz T%L.o)+k%sz T:=fun k=>by
   show k%(L.o*sz T)=_;rw[zq97,Nat.mod_mul,zq89]
  rw[e,e,em,em,cmpL_c3,cmp_at T hT.2.2.2.2,c3_two (Nat.mod_lt _ hs) (Nat.mod_lt _ hs)]
theorem cmpL_eq:∀(x y:List Nat),x.length=y.length→¬cmpL x y<0→¬cmpL y x<0→x=y
 |[],[],_,_,_=>rfl
 |[],_::_,h,_,_=>by simp at h
 |_::_,[],h,_,_=>by simp at h
 |a::x,b::y,h,h1,h2=>by
  rw[cmpL_lt_iff]at h1 h2;obtain rfl:a=b:=by omega
  rw[cmpL_eq x y (by simpa using h) (fun h=>h1 (.inr ⟨rfl,h⟩)) (fun h=>h2 (.inr ⟨rfl,h⟩))]
end Go.Proofs.YtlmlamcoeegkbaaGreat.Ord
