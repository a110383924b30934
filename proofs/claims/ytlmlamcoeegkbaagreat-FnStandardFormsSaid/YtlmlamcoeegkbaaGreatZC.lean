import Derived.Test.YtlmlamcoeegkbaaGreatZ0
import Derived.Test.YtlmlamcoeegkbaaGreatZo
import Derived.Test.YtlmlamcoeegkbaaGreatZb
import Derived.ChangeSlices
import Derived.Deep.Slices
import Derived.Lib.SmallJoins
import Derived.Test.YtlmlamcoeegkbaaGreatZB
import Derived.Deep.AppendLies
import Derived.Test.YtlmlamcoeegkbaaGreatZy
import Derived.Test.YtlmlamcoeegkbaaGreatZA
/-
  Lemmas for the law FnStandardForms, in short spelling.
-/
open Go.Lib (hid)
set_option linter.unusedVariables false
set_option linter.unusedSimpArgs false
set_option maxRecDepth 100000
set_option maxHeartbeats 40000000
namespace Go.Proofs.YtlmlamcoeegkbaaGreat
open Go.RowKit
def Cv {α:Type}(e:TypeId)(R:World→Value→α→Prop)(w:World)(g n:Nat)(tl:List α):Prop:=
 ∃us:List Value,w.ownsRow 0 e 1 (.slice (some ⟨g,0,none⟩) n n) n us∧us.length=n∧∀(i:Nat) (x:α),tl[i]?=some x→∃u,us[i]?=some u∧R w u x
theorem Cv.lt {α:Type}{e:TypeId}{R:World→Value→α→Prop}{w:World}{g n:Nat}{tl:List α}(h:Cv e R w g n tl):g<w.heap.size:=by
 obtain⟨us,h1,_⟩:=h;exact(BH h1 g rfl).2
theorem Cv.cap {α:Type}{e:TypeId}{R:World→Value→α→Prop}{w:World}{g n:Nat}{tl:List α}(h:Cv e R w g n tl):n≤maxLen:=by
 obtain⟨us,h1,_⟩:=h;rcases h1.2 with⟨h,_⟩|⟨g',cap,cur,h,hb,hgg,_,hm,_⟩
 ·cases h
 ·cases h;exact hm
theorem Cv.made {α:Type}{e:TypeId}{R:World→Value→α→Prop}(w:World)(z:Value)(n:Nat)(hn:n≤maxLen):Cv e R (w.alloc (.cells (madeCells #[z] n) e)) w.heap.size n []:=by
 refine⟨List.replicate n z,?_,by simp,fun i x hx=>by simp at hx⟩;have:=KT (base:=0) (e:=e) (size:=1) w (madeCells #[z] n) n (AU _) hn (by simp[madeCells]);rw[Ni]at this;exact this
theorem Cv.keep {α:Type}{e:TypeId}{R:World→Value→α→Prop}{S:Nat→Prop}{w w':World}{g n:Nat}{tl:List α}(h:Cv e R w g n tl)(hk:AA S w w')(hg:S g)(hR:∀v r,R w v r→R w' v r):Cv e R w' g n tl:=by
 obtain⟨us,h1,h2,h3⟩:=h;refine⟨us,⟨h1.1,?_⟩,h2,fun i r hr=>?_⟩
 ·rcases h1.2 with⟨h,_⟩|⟨g',cap,cur,h,hb,hgg,hrest⟩
  ·cases h
  ·cases h;refine .inr ⟨g,_,cur,rfl,hb,?_,hrest⟩;rw[hk.block g hg (BX.1 hgg).1];exact hgg
 ·obtain⟨u,hu,hr'⟩:=h3 i r hr;exact⟨u,hu,hR _ _ hr'⟩
theorem Cv.push {α:Type}{e:TypeId}{R:World→Value→α→Prop}{w:World}{g n:Nat}{tl:List α}(h:Cv e R w g n tl){k:Nat}(hk:tl.length=k)(hn:k<n){u:Value}{x:α}
  (hR:∀v r,R w v r→R (w.setCell ⟨g,k,none⟩ u) v r) (hu:R w u x):Cv e R (w.setCell ⟨g,k,none⟩ u) g n (tl++[x]):=by
 obtain⟨us,h1,h2,h3⟩:=h;refine⟨us.set k u,(Py h1 k u).1,by simp[h2],fun i y hy=>?_⟩;rcases Fe i tl.length with hi|hi
 ·rw[GN hi]at hy;obtain⟨v,hv,hr⟩:=h3 i y hy;exact⟨v,by rw[Pz (by omega)];exact hv,hR _ _ hr⟩
 ·rw[Fb hi]at hy;obtain rfl:i=k:=by
   rcases hj:i-tl.length with _|j
   ·omega
   ·rw[hj]at hy;simp at hy
  rw[show i-tl.length=0 by omega]at hy;simp at hy;subst hy;exact⟨u,Oz (by omega),hR _ _ hu⟩
theorem Cv.sl {α:Type}{e:TypeId}{R:World→Value→α→Prop}{S:Nat→Prop}{w:World}{g:Nat}{tl:List α}(h:Cv e R w g tl.length tl)(hg:S g):Bl R S w (.slice (some ⟨g,0,none⟩) tl.length tl.length) tl:=by
 have hlt:=h.lt;have hm:=h.cap;obtain⟨us,h1,h2,h3⟩:=h;refine⟨some ⟨g,0,none⟩,tl.length,rfl,Ap _,hm,by simp,fun i x hx=>?_⟩;obtain⟨u,hu,hr⟩:=h3 i x hx;refine⟨g,0,rfl,hg,hlt,u,?_,hr⟩;rw[D5,Ma h1 i (by have:=(Ak.1 hx).1;omega)];exact hu
theorem take_succ {α:Type}{l:List α}{k:Nat}{x:α}(h:l[k]?=some x):l.take (k+1)=l.take k++[x]:=by rw[Jd,h];rfl
theorem Bl.form {α:Type}{E:World→Value→α→Prop}{S:Nat→Prop}{w:World}{v:Value}{l:List α}(h:Bl E S w v l):∃a c,v= .slice a l.length c∧l.length≤c∧c≤maxLen:=by
 obtain⟨a,c,h1,h2,h3,_⟩:=h;exact⟨a,c,h1,h2,h3⟩
theorem Bl.get {α:Type}{E:World→Value→α→Prop}{S:Nat→Prop}{w:World}{a:Option Addr}{n c:Nat}{l:List α}(h:Bl E S w (.slice a n c) l){k:Nat}{x:α}(hx:l[k]?=some x):
  ∃b o u,a=some ⟨b,o,none⟩∧S b∧b<w.heap.size∧w.cell? ⟨b,o+k,none⟩=some u∧E w u x:=by
 obtain⟨ao,c',e,_,_,_,h4⟩:=h;obtain⟨rfl,_,_⟩:a=ao∧n=l.length∧c=c':=by simpa using e
 obtain⟨b,o,e1,e2,e3,u,e4,e5⟩:=h4 k x hx;exact⟨b,o,u,e1,e2,e3,e4,e5⟩
theorem xB {w:World}{a:Addr}{v:Value}(h:w.cell? a=some v):a=⟨a.block,a.off,none⟩∧a.block<w.heap.size:=by
 refine⟨?_,World.block_lt_of_cell? w a h⟩;unfold World.cell? at h;split at h
 ·next c _ _ hb=>
  split at h
  ·cases h
  ·next hs=>
   cases a with
   |mk b o s=>
    cases s with
    |none=>rfl
    |some s=>simp at hs
 ·cases h
section
variable {H:Type} {enc:TypeId×Value→H} {w:World} {base:Nat} {spare:Nat→Bool} {held:Bool}
end
end Go.Proofs.YtlmlamcoeegkbaaGreat
namespace Go.Proofs.YtlmlamcoeegkbaaGreat.Wu
open Go.Proofs.YtlmlamcoeegkbaaGreat AJ CV F9 WM RL
theorem wh {α:Type}(p:Nat→Bool)(f:Nat→List α):∀l:List Nat,(l.flatMap fun t=>if p t=true then f t else [])=(l.filter p).flatMap f
 |[]=>rfl
 |a::l=>by
  rw[KS,wh p f l,List.filter_cons];by_cases h:p a=true
  ·rw[CU h,CU h,KS]
  ·rw[BU h,BU h,List.nil_append]
theorem xW {Q T:Tw}{k:Nat}{L:Lv}(hL:T[k]?=some L)(im:List (List Nat)):Dz Q T (k+1) im=(Gb Q L im).flatMap fun x=>Dz Q T k (x::im):=by
 classical
 have hd:T.getD k ⟨0,[],[]⟩=L:=by rw[Bg,hL];rfl
 rw[Dz,hd];unfold Gb nums;rw[List.flatMap_map,←wh];congr 1;funext t;by_cases h:may Q L im t=true
 ·rw[CU h,CU (ZU.1 h)]
 ·rw[BU h,BU (fun h'=>h (ZU.2 h'))]
theorem AD1 {Q T:Tw}(hQ:Wf Q)(hg:AJ.Good Q)(hT:Wf T):(Dz Q T T.length []).length=(Grow.grow Q T T.length []).length:=by
 have h:=xX hQ hg hT T.length AQ [] (by rw[MP];trivial);rw[P6]at h;rw[←h,Ce]
theorem xJ {Q T:Tw}(hz:sz Q≤27):∀(k:Nat),k≤T.length→∀im,(Dz Q T k im).length≤27^k
 |0,_,im=>by simp[Dz]
 |k+1,hk,im=>by
  obtain⟨L,hL⟩:∃L,T[k]?=some L:=⟨_,AP (by omega)⟩;rw[xW hL];have hl:(Gb Q L im).length≤27:=by unfold Gb;rw[Ce];exact Ab (nums_length _ _) hz
  have:∀l:List (List Nat),(l.flatMap fun x=>Dz Q T k (x::im)).length≤l.length*27^k:=by
   intro l
   induction l with
   |nil=>simp
   |cons a l ih=>
    rw[KS,Cm,Eb,Nat.succ_mul];rw[GU (l.length*27^k)];exact Nat.add_le_add (xJ hz k (by omega) (a::im)) ih
  refine Ab (this _) ?_;rw[LC,Mg];exact Z5 _ hl
end Go.Proofs.YtlmlamcoeegkbaaGreat.Wu
namespace Go.Proofs.YtlmlamcoeegkbaaGreat
open Go.RowKit
theorem V4:(Tryz.prog.info? 25).map (fun i=>(i.zero,i.size,i.bytes))=some (some (.slice none 0 0),1,24):=by kernel_rfl
theorem AA.ext {S:Nat→Prop}{w w':World}(h:AA S w w'):AA (fun k=>k<w.heap.size→S k) w w':=⟨h.size,fun k hk hl=>h.block k (hk hl) hl⟩
theorem AL.bnd {S:Nat→Prop}{w:World}{v:Value}{l:List Int}(h:AL S w v l):AL (fun k=>S k∧k<w.heap.size) w v l:=by
 obtain⟨ao,c,h1,h2,h3,h0,h4⟩:=h;refine⟨ao,c,h1,h2,h3,h0,fun i x hx=>?_⟩;obtain⟨b,o,e1,e2,e3,u,e4,e5⟩:=h4 i x hx;exact⟨b,o,e1,⟨e2,e3⟩,e3,u,e4,e5⟩
theorem AV.bnd {S:Nat→Prop}{w:World}{v:Value}{l:List (List Int)}(h:AV S w v l):AV (fun k=>S k∧k<w.heap.size) w v l:=by
 obtain⟨ao,c,h1,h2,h3,h0,h4⟩:=h;refine⟨ao,c,h1,h2,h3,h0,fun i x hx=>?_⟩;obtain⟨b,o,e1,e2,e3,u,e4,e5⟩:=h4 i x hx;exact⟨b,o,e1,⟨e2,e3⟩,e3,u,e4,e5.bnd⟩
theorem Fu.bnd {S:Nat→Prop}{w:World}{v:Value}{l:List (List (List Int))}(h:Fu S w v l):Fu (fun k=>S k∧k<w.heap.size) w v l:=by
 obtain⟨ao,c,h1,h2,h3,h0,h4⟩:=h;refine⟨ao,c,h1,h2,h3,h0,fun i x hx=>?_⟩;obtain⟨b,o,e1,e2,e3,u,e4,e5⟩:=h4 i x hx;exact⟨b,o,e1,⟨e2,e3⟩,e3,u,e4,AV.bnd e5⟩
theorem Aw.bnd {S:Nat→Prop}{w:World}{vO vP vC:Value}{P:Bq}(h:Aw S w vO vP vC P):Aw (fun k=>S k∧k<w.heap.size) w vO vP vC P:=⟨h.os.bnd,h.ps.bnd,h.cs.bnd⟩
theorem AV.put {S:Nat→Prop}{w:World}{g n c:Nat}{rows:List (List Nat)}(hn:rows.length=n)(h:Own2 24 2 0 w (.slice (some ⟨g,0,none⟩) n c) rows)(hS:AV S w (.slice (some ⟨g,0,none⟩) n c) (rows.map ints))(k:Nat){u:Value}{r:List Nat}
  (hu:AL (fun b=>S b∧b≠g) w u (ints r)):AV S (w.setCell ⟨g,k,none⟩ u) (.slice (some ⟨g,0,none⟩) n c) ((rows.set k r).map ints):=by
 subst hn;obtain⟨us,h1,h2,h3⟩:=h;have hs:=Py h1 k u;have hkp:AA (fun b=>b≠g) w (w.setCell ⟨g,k,none⟩ u):=AB.setCell (by simp) _;obtain⟨ao,c',e,g2,g3,g0,g4⟩:=hS;simp only[C8]at e;obtain⟨rfl,-, rfl⟩:=e;refine⟨some ⟨g,0,none⟩,c,by simp,by simpa using g2,g3,by simp,fun i x hx=>?_⟩;have hi:i<rows.length:=by
  have:=(Ak.1 hx).1;simpa using this
 obtain⟨b,o,e1,e2,e3,v,e4,e5⟩:=g4 i (ints rows[i]) (by rw[Em,AP hi];rfl);simp only[EN,IU,and_true]at e1;obtain⟨rfl,rfl⟩:=e1;have hv:us[i]?=some v:=by
  have:=Ma h1 i (by omega);rw[D5]at e4;rw[this]at e4;exact e4
 by_cases hik:i=k
 ·subst hik;rw[Em,Oz hi]at hx;injection hx with hx;subst hx;refine⟨g,0,rfl,e2,by rw[World.size_setCell];exact e3,u,?_,(hu.keep (hkp.mono (fun b hb=>hb.2))).mono (fun b hb=>hb.1)⟩;have:=Ma hs.1 i (by omega);rw[Oz (by omega)]at this;rw[D5];exact this
 ·rw[Em,Pz (fun h=>hik h.symm),AP hi]at hx;injection hx with hx;subst hx;have hrow:=h3 i rows[i] v (AP hi) hv;have hap:∀k,v.ownBlock=some k→k≠g:=fun k hk hg=>by
   rcases JY hrow.2 h1 (by decide)with h|h
   ·rw[h]at hk;cases hk
   ·rw[hk,hg]at h;exact h rfl
  obtain⟨gv,cv,rfl⟩:=hrow.1;refine⟨g,0,rfl,e2,by rw[World.size_setCell];exact e3,.slice (some ⟨gv,0,none⟩) rows[i].length cv,?_,?_⟩
  ·have:=Ma hs.1 i (by omega);rw[Pz (fun h=>hik h.symm),hv]at this;rw[D5];exact this
  ·obtain⟨ao,c'',f1,f2,f3,f0,f4⟩:=e5;refine⟨ao,c'',f1,f2,f3,f0,fun j y hy=>?_⟩;obtain⟨b',o',q1,q2,q3,q4,q5,q6⟩:=f4 j y hy;subst q1;simp only[C8,EN,IU,and_true]at f1;have hb':b'≠g:=fun hbg=>hap gv rfl (f1.1.1.trans hbg);exact⟨b',o',rfl,q2,by rw[World.size_setCell];exact q3,q4,by rw[hkp.cell hb' q3];exact q5,q6⟩
def Own3 (B:Nat)(w:World)(v:Value)(L:List (List (List Nat))):Prop:=
 ∃us:List Value,w.ownsRow B 25 1 v L.length us∧us.length=L.length∧∀(i:Nat) (rows:List (List Nat)) (u:Value),L[i]?=some rows→us[i]?=some u→Own2 24 2 B w u rows
theorem Own2.apart {e2 e e3:TypeId}(h2:e2≠e3)(h1:e≠e3){B B' s n:Nat}{w w':World}{v v3:Value}{rows:List (List Nat)}{us:List Value}(h:Own2 e2 e B w v rows)(h3:w.ownsRow B' e3 s v3 n us)(hg:w.grownBy w' v3.ownBlock):Own2 e2 e B w' v rows:=by
 obtain⟨OC,a1,a2,a4⟩:=h;exact⟨OC,a1.kept hg (JY a1 h3 h2),a2,fun i r u hr hu=>⟨(a4 i r u hr hu).1,Nr (a4 i r u hr hu).2 hg (JY (a4 i r u hr hu).2 h3 h1)⟩⟩
theorem Own3.nil (B:Nat)(w:World):Own3 B w (.slice none 0 0) []:=⟨[],Jc _ _ _ _,rfl,by simp⟩
theorem ADr {w w':World}{B:Nat}{e:TypeId}{s n:Nat}{v:Value}{xs:List Value}{S:Nat→Prop}(h:w.ownsRow B e s v n xs)(hk:AA S w w')(hS:∀k,B≤k→k<w.heap.size→S k):w'.ownsRow B e s v n xs:=BM h hk.ext hS
theorem Own2.keep' {e2 e:TypeId}{B:Nat}{S:Nat→Prop}{w w':World}{v:Value}{rows:List (List Nat)}(h:Own2 e2 e B w v rows)(hk:AA S w w')(hS:∀k,B≤k→k<w.heap.size→S k):Own2 e2 e B w' v rows:=h.keep hk.ext hS
theorem Own3.keep {B:Nat}{S:Nat→Prop}{w w':World}{v:Value}{L:List (List (List Nat))}(h:Own3 B w v L)(hk:AA S w w')(hS:∀k,B≤k→k<w.heap.size→S k):Own3 B w' v L:=by
 obtain⟨us,h1,h2,h4⟩:=h;exact⟨us,ADr h1 hk hS,h2,fun i r u hr hu=>(h4 i r u hr hu).keep' hk hS⟩
theorem Own3.of_below {B:Nat}{w w':World}{v:Value}{L:List (List (List Nat))}(h:Own3 B w v L)(hb:Below w.heap.size w w'):Own3 B w' v L:=h.keep (S:=fun _=>True) (AA.of_below hb) (fun _ _ _=>trivial)
theorem Own3.mono {B B':Nat}{w:World}{v:Value}{L:List (List (List Nat))}(h:Own3 B w v L)(hB:B'≤B):Own3 B' w v L:=by
 obtain⟨us,h1,h2,h4⟩:=h;exact⟨us,EX h1 hB,h2,fun i r u hr hu=>(h4 i r u hr hu).mono hB⟩
theorem Own3.form {B:Nat}{w:World}{v:Value}{L:List (List (List Nat))}(h:Own3 B w v L):∃a cap,v= .slice a L.length cap∧L.length≤cap∧cap≤maxLen:=by
 obtain⟨us,h1,h2,h4⟩:=h;rcases h1.2 with⟨rfl,hn⟩|⟨g,cap,cur,rfl,hb,hgg,hn,hm,hs,ht⟩
 ·exact⟨none,0,by rw[hn],by omega,by simp⟩
 ·exact⟨_,cap,rfl,hn,hm⟩
theorem Own3.lt {B:Nat}{w:World}{v:Value}{L:List (List (List Nat))}(h:Own3 B w v L):∀k,v.ownBlock=some k→B≤k∧k<w.heap.size:=by
 obtain⟨us,h1,h2,h4⟩:=h;exact BH h1
theorem Own3.push {B n:Nat}{w w':World}{v v' u:Value}{L:List (List (List Nat))}{rows:List (List Nat)}{us:List Value}(hn:L.length=n)
  (h1:w.ownsRow B 25 1 v n us) (h2:us.length=L.length) (h4:∀(i:Nat) (rows:List (List Nat)) (u:Value),L[i]?=some rows→us[i]?=some u→Own2 24 2 B w u rows)
  (hu:Own2 24 2 B w u rows) (ho:w'.ownsRow B 25 1 v' (n+1) (us++[u])) (hg:w.grownBy w' v.ownBlock):Own3 B w' v' (L++[rows]):=by
 subst hn;refine⟨us++[u],by simpa using ho,by simp[h2],fun i r' u' hr' hu'=>?_⟩;have hown:Own2 24 2 B w u' r':=by
  rcases Fe i L.length with hi|hi
  ·rw[GN hi]at hr';rw[GN (by omega)]at hu';exact h4 i r' u' hr' hu'
  ·rw[Fb hi]at hr';rw[Fb (by omega)]at hu';rw[h2]at hu';rcases hj:i-L.length with _|j
   ·rw[hj]at hr' hu';simp at hr' hu';subst hr';subst hu';exact hu
   ·rw[hj]at hr';simp at hr'
 exact hown.apart (by decide) (by decide) h1 hg
end Go.Proofs.YtlmlamcoeegkbaaGreat
namespace Go.Proofs.YtlmlamcoeegkbaaGreat.AA9
open Go.RowKit Go.Proofs.YtlmlamcoeegkbaaGreat AJ CV F9 Wu DL LF WM RL
def rF (B:Nat)(w:World)(vF:Value)(R:List (List (List Nat)))(e:Ending)(w':World):Prop:=
 ∃v,e= .returned v∧Own3 B w' v R∧AA (fun b=>some b≠vF.ownBlock) w w'∧(v.ownBlock=vF.ownBlock∨∀b,v.ownBlock=some b→w.heap.size≤b)∧Below B w w'
def Io (Q:Tw)(k:Nat)(im:List (List Nat)):List (List Nat):=List.replicate k (AJ.one Q)++im
theorem AGI (Q:Tw)(k:Nat)(im:List (List Nat))(x:List Nat):(Io Q (k+1) im).set k x=Io Q k (x::im):=by
 unfold Io;rw[Om,JF,List.set_append_right _ _ (by simp)];simp
theorem AFO (Q:Tw)(k:Nat)(im:List (List Nat)):(Io Q k im).drop k=im:=by simp[Io]
theorem Vf (Q:Tw)(k:Nat)(im:List (List Nat)):(Io Q k im).length=k+im.length:=by simp[Io]
theorem AAX {Q:Tw}(hQ:Wf Q){k:Nat}{im:List (List Nat)}(h:∀x∈im,El Q x):∀x∈Io Q k im,El Q x:=fun x hx=>by
 rcases Hr.1 hx with h1|h1
 ·rw[(IQ.1 h1).2];exact Dm hQ
 ·exact h x h1
theorem AHO {Q:Tw}(hQ:Wf Q){L:Lv}{im:List (List Nat)}:∀x∈Gb Q L im,El Q x:=fun x hx=>by
 unfold Gb at hx;obtain⟨t,_,rfl⟩:=CX.1 hx;exact Cu hQ t
theorem xY {Q:Tw}(hz:sz Q≤27){L:Lv}{im:List (List Nat)}:(Gb Q L im).length≤27:=by
 unfold Gb;rw[Ce];exact Ab (nums_length _ _) hz
theorem Q4 {Q T:Tw}(hz:sz Q≤27){k:Nat}(hk:k≤T.length)(im:List (List Nat)):∀l:List (List Nat),(l.flatMap fun x=>Dz Q T k (x::im)).length≤l.length*27^k:=by
 intro l
 induction l with
 |nil=>simp
 |cons a l ih=>
  rw[KS,Cm,Eb,Nat.succ_mul,GU (l.length*27^k)];exact Nat.add_le_add (xJ hz k hk (a::im)) ih
theorem AEm {Q T:Tw}(hz:sz Q≤27){k:Nat}(hk:k≤T.length){im:List (List Nat)}{F:List (List (List Nat))}{l:List (List Nat)}{c N:Nat}(h:F.length+27^(k+1)≤N)(hl:l.length≤27)(hc:c<l.length):
  (F++(l.take c).flatMap fun x=>Dz Q T k (x::im)).length+27^k≤N:=by
 have h1:=Q4 hz hk im (l.take c);rw[Gl,Nat.min_eq_left (by omega)]at h1;rw[Cm];have h2:(c+1)*27^k≤27*27^k:=Nn _ (by omega);rw[LC,Mg]at h;rw[Nat.succ_mul]at h2;omega
def Vk (T Q:Tw)(k:Nat):Prop:=∀(B:Nat) (w:World) (pO pP pC qO qP qC vi vF:Value) (im:List (List Nat)) (F:List (List (List Nat))),Aw (fun b=>some b≠vF.ownBlock) w pO pP pC (AX T)→Aw (fun b=>some b≠vF.ownBlock) w qO qP qC (AX Q)→
 AV (fun b=>some b≠vF.ownBlock) w vi ((Io Q k im).map ints)→k+im.length=T.length→(∀x∈im,El Q x)→Own3 B w vF F→B≤w.heap.size→F.length+27^k≤1000000000→
 Calls Tryz.prog 83 #[.agg #[pO,pP,pC],.agg #[qO,qP,qC],.int .i64 ((k:Int)-1),vi,vF] w (rF B w vF (F++Dz Q T k im))
theorem xz (T Q:Tw)(D8:Small T)(hs:Small Q):Vk T Q 0:=by
 intro B w pO pP pC qO qP qC vi vF im F Le hPQ hi hl hE hF hB hN;obtain⟨i0,UN,hz0,hz1,hz2⟩:=CO V4;have hi':AV (fun b=>some b≠vF.ownBlock) w vi (im.map ints):=hi;have HI:=hid hi';have HN:=hid (show F.length+1≤1000000000 from hN);have HF:=hid hF;have HOWN:=hid (fun W hv=>Vi W vi im hv (by have:=D8.1;omega) (fun r hr=>by rw[Af (hE r hr)];have:=hs.1;omega));rw[show(((0:Nat):Int)-1)= -1 from rfl];obtain⟨W0,hW0⟩:∃W0,W0=(w.alloc (.cells #[pO,pP,pC] 28)).alloc (.cells #[qO,qP,qC] 28):=⟨_,rfl⟩;have HB0:=hid (show Below w.heap.size w W0 by rw[hW0];exact(AR.alloc AQ _).alloc (by simp) _);clear Le hPQ hi hi' hE hF hN hl;go_enter Tryz.func83,Tryz.ntmps83;go_upto_region 1 with fail;rw[←hW0];clear hW0;go_wp2_with fail;refine(HOWN.out _ ((HI.out.keep (AA.of_below HB0.out)).mono (fun _ _=>trivial))).mono ?_;rintro e w1 ⟨v1,rfl,ho1,hb1⟩;have Db:=hid (ho1.mono (B':=B) (Ab hB HB0.out.size));have HB1:=hid (HB0.out.trans (hb1.mono HB0.out.size));obtain⟨us,h1,h2,h4⟩:=HF.out.of_below HB1.out;have HU:=hid (And.intro h2 h4);obtain⟨a1,c1,rfl,_,_⟩:=ho1.form;have BA:=hid HB1.out.size;clear ho1 hb1 h2 h4;go_wp2_with (at_builtin;(refine Hg _ rfl _ _ 26 rfl B 25 i0 (.slice none 0 0) 1 24 Tryz.underlying26 UN hz0 hz1 hz2 rfl (by decide) _ _ _ rfl (h1.alloc _) ⟨w1.heap.size,0,none⟩ 1 1 [.slice a1 im.length c1] rfl rfl ?c1 ?c2 ?c3 ?c4 ?c5 ?c6 _ rfl ?_));case c1=>
  intro j u hj
  match j,hj with
  |0,hj=>simp at hj;subst hj;simp[Addr.add]
 case c2=>intro u hu;simp at hu;subst hu;rfl
 case c3=>omega
 case c4=>have:=HN.out;unfold maxLen;omega
 case c5=>have:=HN.out;omega
 case c6=>have:=HB1.out.size;simp;omega
 ·intro g cap w2 hown hgrow hat hlt;have HR:=hid (show rF B w vF (F++Dz Q T 0 im) (.returned (.slice (some ⟨g,0,none⟩) (F.length+1) cap)) w2 from by
   refine⟨_,rfl,?_,?_,?_,?_⟩
   ·exact Own3.push (w:=w1.alloc _) (us:=us) rfl (h1.alloc _) HU.out.1 (fun i r u hr hu=>(HU.out.2 i r u hr hu).keep (S:=fun _=>True) (AB.alloc _) (fun _ _=>trivial)) (Db.out.keep (S:=fun _=>True) (AB.alloc _) (fun _ _=>trivial)) hown hgrow
   ·exact((AA.of_below HB1.out).alloc _).trans (AA.grown hgrow (fun k hk=>hk))
   ·rcases hat with h|h
    ·exact .inl h.symm
    ·refine .inr fun b hb=>?_;simp only[Value.ownBlock,EN]at hb;subst hb;rw[h];have:=HB1.out.size;simp;omega
   ·exact((HB1.out.mono hB).alloc (by have:=HB1.out.size;omega) _).grown hgrow (by simp;have:=HB1.out.size;omega) (fun g hg=>(BH h1 g hg).1))
  clear hown hgrow hat hlt h1 HU Db;go_wp2_with fail;go_ret;exact HR.out
theorem AHP {S:Nat→Prop}{a b:World}(h:AA (fun k=>S k∧k<a.heap.size) a b):AA S a b:=⟨h.size,fun k hk hs=>h.block k ⟨hk,hs⟩ hs⟩
open Classical in
theorem AFP {L:Lv}{im:List (List Nat)}:Gb [] L im=[]:=by
 have hm:∀t,may [] L im t=false:=fun t=>by
  unfold may;refine Dh fun h=>h.1 ?_;have e:at_ [] t=AJ.one []:=rfl;rw[e];exact Gen.Gen.one
 unfold Gb nums;rw[List.filter_eq_nil_iff.2 (fun t _=>by rw[hm t];simp)];rfl
theorem x9 (T Q:Tw)(hT:Wf T)(D8:Small T)(hQ:Wf Q)(hs:Small Q)(hg:AJ.Good Q)(hp:JB.Pr Q)(hz:sz Q≤27)(k:Nat)(hk:k<T.length)(hq0:0<Q.length∨(Q=[]∧k+1=T.length))(hrec:0<Q.length→Vk T Q k):Vk T Q (k+1):=by
 intro B w pO pP pC qO qP qC vi vF im F Le hPQ hi hl hE hF hB hN;obtain⟨L,hL⟩:∃L,T[k]?=some L:=⟨_,AP hk⟩;have R9:=D8.1;have HI:=hid hi;have J6:=hid Le;have H6:=hid hPQ;have HN:=hid hN;have HF:=hid hF;have HE:=hid hE;have Cj:=hid hl;have AIw:=hid hrec;have Um:=hid (show∀x,x∈Gb Q L im→0<Q.length from fun x hx=>by
  rcases hq0 with h|⟨h,_⟩
  ·exact h
  ·subst h;exact absurd hx (by rw[AFP];simp))
 have Lg:=hid hF.lt;have PN:=hid (xW (Q:=Q) hL im);have SE:=hid (fun W hP hQ' hv=>show Calls _ _ _ _ (KU _ _ (Gb Q L im) W) from by
  have h:=AD0 T Q hT D8 hQ hs hg hp (by omega) W pO pP pC qO qP qC vi k L hL (Io Q (k+1) im) hP hQ' hv (by rw[Vf];omega) (AAX hQ hE) hq0;rwa[AFO]at h)
 have HOWN:=hid (fun W hv=>Vi W vi (Io Q (k+1) im) hv (by rw[Vf];omega) (fun r hr=>by rw[Af (AAX hQ hE r hr)];have:=hs.1;omega));have Gu:=hid (AHO hQ (L:=L) (im:=im));have Fp:=hid (xY hz (L:=L) (im:=im));have HRM:=hid (fun c hc=>AEm (Q:=Q) (T:=T) hz (EG hk) (im:=im) hN (xY hz (L:=L) (im:=im)) (c:=c) hc);obtain⟨n,hn⟩:∃n,(Gb Q L im).length=n:=⟨_,rfl⟩;have H8:=hid hn;have ALF:n≤27:=by rw[←hn];exact Fp.out
 rw[show(((k+1:Nat):Int)-1)=(k:Int) by omega];obtain⟨W0,hW0⟩:∃W0,W0=(w.alloc (.cells #[pO,pP,pC] 28)).alloc (.cells #[qO,qP,qC] 28):=⟨_,rfl⟩;have HB0:=hid (show Below (w.heap.size+2) ((w.alloc (.cells #[pO,pP,pC] 28)).alloc (.cells #[qO,qP,qC] 28)) W0 by rw[hW0];exact Ag _ _);have hd0:decide ((k:Int)<0)=false:=by simp
 clear Le hPQ hi hE hF hN hl hn hL hrec hq0;go_enter Tryz.func83,Tryz.ntmps83;go_upto_region 1 with fail;rw[←hW0];clear hW0;obtain⟨⟨p0,p1,p2⟩,⟨q0,q1,q2⟩,hkk,hbw,hsz⟩:=bx HB0.out;go_wp2_with fail;refine(SE.out _ ((J6.out.keep (hkk.mono (fun _ _=>trivial))).mono (fun _ _=>trivial)) ((H6.out.keep (hkk.mono (fun _ _=>trivial))).mono (fun _ _=>trivial)) ((HI.out.keep (hkk.mono (fun _ _=>trivial))).mono (fun _ _=>trivial))).mono ?_;rintro e w1 ⟨vc,rfl,hoc,hb1⟩;have HB1:=hid (HB0.out.trans (hb1.mono hsz));obtain⟨-, -, hk1,ACC,hsz1⟩:=bx HB1.out;have Lh:=hid hk1;have O5:=hid ACC;have hvF:∀b,vF.ownBlock=some b→b<w.heap.size:=fun b hb=>(Lg.out b hb).2;have HVF:=hid hvF;have rG:=hid (J6.out.keep (hk1.mono (fun _ _=>trivial))).bnd;have rH:=hid (H6.out.keep (hk1.mono (fun _ _=>trivial))).bnd;have HI1:=hid (HI.out.keep (hk1.mono (fun _ _=>trivial))).bnd;have KA:=hid (show AV (fun b=>some b≠vF.ownBlock∧b<w1.heap.size) w1 vc ((Gb Q L im).map ints) from(hoc.sl.bnd).mono (fun b hb=>⟨fun h=>by have:=HVF.out b h.symm;have:=hb.1;omega,hb.2⟩));obtain⟨ac,cc,hvc,_,_⟩:=hoc.form;rw[H8.out]at hvc;subst hvc;have J9:=hid (show Own3 B w1 vF (F++((Gb Q L im).take 0).flatMap fun x=>Dz Q T k (x::im)) from by
  rw[List.take_zero,List.flatMap_nil,LM];exact HF.out.of_below O5.out)
 clear hoc hb1 hkk hbw hsz hk1 ACC p0 p1 p2 q0 q1 q2 J6 H6 HI SE HF Lg hvF;go_wp2_with fail;go_loopw [4,12] (fun vf iv wr=>∃c:Nat,c≤n∧iv= .int .i64 (c:Int)∧Hid (Own3 B wr vf (F++((Gb Q L im).take c).flatMap fun x=>Dz Q T k (x::im)))∧Hid (AA (fun b=>some b≠vF.ownBlock∧b<w1.heap.size) w1 wr)∧Hid (vf.ownBlock=vF.ownBlock∨∀b,vf.ownBlock=some b→w1.heap.size≤b)∧Hid (Below B w1 wr)) (fun _ iv _=>n-(intOf iv).toNat);case atStart=>exact⟨0,AU _,rfl,J9,hid AB,hid (.inl rfl),hid AR⟩
 case round=>
  obtain⟨c,hc,rfl,hO,hK,hW,hBB⟩:=hrel;have ALG:=hK.out.size;by_cases hlt:c<n
  ·have hdc:decide ((c:Int)<(n:Int))=true:=by simp;omega
   obtain⟨x,hx⟩:∃x,(Gb Q L im)[c]?=some x:=⟨_,AP (by rw[H8.out];exact hlt)⟩;have HX:=hid hx;obtain⟨bC,oC,ux,e1,⟨hbS,hbC⟩,_,hcC,hrC⟩:=Bl.get KA.out (k:=c) (x:=ints x) (by rw[Em,hx];rfl);subst e1;have HRC:=hid hrC;have Nt:bC<wr.heap.size:=by omega
   have Wp:wr.cell? ⟨bC,oC+c,none⟩=some ux:=(hK.out.cell ⟨hbS,hbC⟩ hbC).trans hcC;have Eg:=hid Wp;clear hx hrC hcC Wp;go_wp2_with fail;refine(HOWN.out _ ((HI1.out.keep hK.out).mono (fun _ _=>trivial))).mono ?_;rintro e w4 ⟨v4,rfl,ES,hb4⟩;obtain⟨g4,c4,_,hv4,ALH,ALI,_,_⟩:=ES.at (i:=0) (r:=(Io Q (k+1) im)[0]'(by rw[Vf];omega)) (by rw[AP]);have eY:=hid (show(Io Q (k+1) im).length=T.length by rw[Vf];exact Cj.out);rw[eY.out]at hv4;subst hv4;have Ii:=hid ES;have CB:=hid hb4;have hs4:=hb4.size;obtain⟨⟨s4,f4⟩,ff4⟩:=Own2.AA5 ES (k:=k) (by rw[Vf];omega);have AIx:w4.cell? ⟨bC,oC+c,none⟩=some ux:=(hb4.cell (p:=⟨bC,oC+c,none⟩) Nt).trans Eg.out;have qp:(k:Int)<(T.length:Int):=by omega
   have hk0:(0:Int)≤(k:Int):=by omega
   have hcn:(c:Int)<(n:Int):=by omega
   have hc0:(0:Int)≤(c:Int):=by omega
   obtain⟨aR,cR,Kc,_⟩:=AL.open HRC.out;subst Kc;clear ES hb4;go_upto_region 9 with fail;obtain⟨w5,Ci⟩:∃w5,w5=w4.setCell ⟨g4,k,none⟩ (.slice aR x.length cR):=⟨_,rfl⟩;rw[←Ci];have hs5:w5.heap.size=w4.heap.size:=by rw[Ci,World.size_setCell]
   have nG:AA (fun b=>b≠g4) w4 w5:=by rw[Ci];exact AB.setCell (by simp) _
   have Wv:AA (fun b=>some b≠vF.ownBlock∧b<w1.heap.size) w1 w5:=(hK.out.trans (AA.of_below CB.out)).trans (nG.mono (fun b hb=>by omega));have Xl:∀b,some b≠vF.ownBlock→b<w1.heap.size→some b≠u4.ownBlock:=fun b h1 h2=>by
    rcases hW.out with h|h
    ·rw[h];exact h1
    ·intro e;have:=h b e.symm;omega
   have hVf:∀b,u4.ownBlock=some b→b<wr.heap.size:=fun b hb=>(hO.out.lt b hb).2;have GK:=hid (show AV (fun b=>some b≠u4.ownBlock) w5 (.slice (some ⟨g4,0,none⟩) T.length c4) ((Io Q k (x::im)).map ints) from by
    rw[Ci,←AGI];exact AV.put eY.out (Ii.out.mono (AU _)) (Ii.out.sl.mono (fun b hb e=>by have:=hVf b e.symm;omega)) k ((HRC.out.keep (hK.out.trans (AA.of_below CB.out))).mono (fun b hb=>⟨Xl b hb.1 hb.2,by have:=hb.2;omega⟩)))
   have Dc:=hid (hO.out.keep (S:=fun b=>b<wr.heap.size) ((AA.lt CB.out).trans (nG.mono (fun b hb=>by omega))) (fun b _ hb=>hb));have C9:=hid ((rG.out.keep Wv).mono (fun b hb=>Xl b hb.1 hb.2));have Xm:=hid ((rH.out.keep Wv).mono (fun b hb=>Xl b hb.1 hb.2));have AZ:=hid (show Below B w1 w5 from by rw[Ci];exact(hBB.out.trans (CB.out.mono (by omega))).setCell (by show B≤g4;omega) _);obtain⟨⟨p0,p1,p2⟩,⟨q0,q1,q2⟩,-, -, -⟩:=bx HB1.out;have hbx:∀j o,w.heap.size≤j→j<w1.heap.size→w5.cell? ⟨j,o,none⟩=w1.cell? ⟨j,o,none⟩:=fun j o h1 h2=>Wv.cell ⟨fun e=>by have:=HVF.out j e.symm;omega,h2⟩ h2;rw[←hbx _ _ (by omega) (by omega)]at p0 p1 p2 q0 q1 q2;have AIy:=hid Wv;have Xn:=hid Xl;have Da:(k:Int)≤6:=by omega
   have Cw:=hid (show∀y∈x::im,El Q y from fun y hy=>by
    rcases GR.1 hy with h|h
    ·rw[h];exact Gu.out x (Ar HX.out)
    ·exact HE.out y h)
   have Bi:=hid (show B≤w5.heap.size∧w1.heap.size≤w5.heap.size by omega);clear Ci hs5 nG Wv Xl hVf hbx f4 ff4 AIx hs4;go_wp2_with fail;refine(AIw.out (Um.out x (Ar HX.out)) B w5 pO pP pC qO qP qC (.slice (some ⟨g4,0,none⟩) T.length c4) u4 (x::im) _ C9.out Xm.out GK.out (by have:=Cj.out;simp;omega) Cw.out Dc.out Bi.out.1 (HRM.out c (by rw[H8.out];exact hlt))).mono ?_;rintro e w6 ⟨v6,rfl,Un,eZ,JK,SF⟩;have rJ:=hid (show Own3 B w6 v6 (F++((Gb Q L im).take (c+1)).flatMap fun x=>Dz Q T k (x::im)) from by
    rw[take_succ HX.out,List.flatMap_append,KS,List.flatMap_nil,LM,←JF];exact Un)
   have HKK:=hid (AIy.out.trans (eZ.mono (fun b hb=>Xn.out b hb.1 hb.2)));have HWW:=hid (show v6.ownBlock=vF.ownBlock∨∀b,v6.ownBlock=some b→w1.heap.size≤b from by
    rcases JK with h|h
    ·rw[h];exact hW.out
    ·exact .inr (fun b hb=>Ab Bi.out.2 (h b hb)))
   have AIz:=hid (AZ.out.trans SF);clear Un eZ JK SF p0 p1 p2 q0 q1 q2;go_wp2_with fail;go_roundw;case rel=>exact⟨c+1,by omega,by go_num,rJ,HKK,HWW,AIz⟩
   case measure=>simp[intOf];omega
  ·obtain rfl:c=n:=by omega
   have HR:=hid (show rF B w vF (F++Dz Q T (k+1) im) (.returned _) wr from by
    refine⟨_,rfl,?_,?_,?_,?_⟩
    ·have h:=hO.out;rw[←H8.out,Me,←PN.out]at h;exact h
    ·exact(AA.mono Lh.out (fun _ _=>trivial)).trans (AHP hK.out)
    ·rcases hW.out with h|h
     ·exact .inl h
     ·exact .inr (fun b hb=>Ab Lh.out.size (h b hb))
    ·exact(O5.out.mono hB).trans hBB.out)
   go_wp2_with fail;go_ret;exact HR.out
theorem yc (T Q:Tw)(hT:Wf T)(D8:Small T)(hQ:Wf Q)(hs:Small Q)(hg:AJ.Good Q)(hp:JB.Pr Q)(hz:sz Q≤27)(Xj:0<T.length→0<Q.length):∀k,k≤T.length→Vk T Q k
 |0,_=>xz T Q D8 hs
 |k+1,h=>x9 T Q hT D8 hQ hs hg hp hz k (by omega) (.inl (Xj (by omega))) (fun _=>yc T Q hT D8 hQ hs hg hp hz Xj k (by omega))
theorem AFQ (T Q:Tw)(hT:Wf T)(D8:Small T)(hQ:Wf Q)(hs:Small Q)(hg:AJ.Good Q)(hp:JB.Pr Q)(hz:sz Q≤27):Vk T Q T.length:=by
 rcases Nat.eq_zero_or_pos Q.length with h|h
 ·obtain rfl:Q=[]:=EY h;cases hn:T.length with
  |zero=>exact xz T [] D8 hs
  |succ k=>exact x9 T [] hT D8 hQ hs hg hp hz k (by omega) (.inr ⟨rfl,by omega⟩) (fun h=>absurd h (by simp))
 ·exact yc T Q hT D8 hQ hs hg hp hz (fun _=>h) T.length AQ
end Go.Proofs.YtlmlamcoeegkbaaGreat.AA9
namespace Go.Proofs.YtlmlamcoeegkbaaGreat.WQ
open Go.RowKit Go.Proofs.YtlmlamcoeegkbaaGreat AJ CV F9 Wu DL LF RL AA9
def nH (R:List (List (List Nat)))(w:World)(e:Ending)(w':World):Prop:=∃v,e= .returned v∧Own3 w.heap.size w' v R∧Below w.heap.size w w'
theorem AEn (T Q:Tw)(hT:Wf T)(D8:Small T)(hQ:Wf Q)(hs:Small Q)(hg:AJ.Good Q)(hp:JB.Pr Q)(hz:sz Q≤27)(w:World)(pO pP pC qO qP qC:Value)
  (Le:Aw Any w pO pP pC (AX T)) (hPQ:Aw Any w qO qP qC (AX Q)):
  Calls Tryz.prog 45 #[.agg #[pO,pP,pC],.agg #[qO,qP,qC]] w (nH (Dz Q T T.length []) w):=by
 obtain⟨i0,UN,hz0,hz1,hz2⟩:=CO JC;have R9:=D8.1;obtain⟨aO,cO,aP,cP,aC,cC,rfl,rfl,rfl,Er,hP1,FP⟩:=Le.open;have J6:=hid Le;have H6:=hid hPQ;have Ih:=hid (Bf.MJ Q);have UO:=hid (fun W hO=>Bf.Vs Q hs.1 W qO qP qC hO);have FR:=hid (AFQ T Q hT D8 hQ hs hg hp hz);have OD:=hid (show Io Q T.length []=List.replicate T.length (AJ.one Q) by unfold Io;rw[LM]);have HZN:=hid (show(0:Nat)+27^T.length≤1000000000 from by
  have h6:27^T.length≤27^6:=Tv (by omega) R9;omega)
 obtain⟨W0,hW0⟩:∃W0,W0=(w.alloc (.cells #[.slice aO T.length cO,.slice aP T.length cP,.slice aC T.length cC] 28)).alloc (.cells #[qO,qP,qC] 28):=⟨_,rfl⟩;have HB0:=hid (show Below (w.heap.size+2) ((w.alloc (.cells #[.slice aO T.length cO,.slice aP T.length cP,.slice aC T.length cC] 28)).alloc (.cells #[qO,qP,qC] 28)) W0 by rw[hW0];exact Ag _ _);have Gv:=hid (show W0.heap.size=w.heap.size+2 by rw[hW0];simp);have PO:=hid (FL (base:=w.heap.size+2) (e:=24) (size:=1) W0 #[] 0 (by rw[Gv.out];exact Ap _) (AU _) rfl);clear Le hPQ;go_enter Tryz.func45,Tryz.ntmps45;go_upto_region 1 with fail;rw[←hW0];clear hW0;go_wp2_with fail;go_loopw [5,6] (fun v iv wr=>∃k:Nat,k≤T.length∧iv= .int .i64 (k:Int)∧Hid (Own2 24 2 (w.heap.size+2) wr v (List.replicate k (AJ.one Q)))∧Hid (Below (w.heap.size+2) ((w.alloc (.cells #[.slice aO T.length cO,.slice aP T.length cP,.slice aC T.length cC] 28)).alloc (.cells #[qO,qP,qC] 28)) wr)) (fun _ iv _=>T.length-(intOf iv).toNat);case atStart=>exact⟨0,AU _,rfl,hid ⟨[],PO.out,rfl,by simp⟩,hid (HB0.out.alloc (by rw[Gv.out];exact Ap _) _)⟩
 case round=>
  obtain⟨k,hk,rfl,hO,hB⟩:=hrel;obtain⟨⟨p0,p1,p2⟩,⟨q0,q1,q2⟩,hkk,hbw,hsz⟩:=bx hB.out;by_cases hlt:k<T.length
  ·have Mt:=hid (show AL Any wr qO (ints (Bf.Fg Q)) from by
    have h:=(H6.out.keep hkk).os;rwa[Ih.out]at h)
   clear hkk hbw;go_wp2_with fail;refine(UO.out _ Mt.out).mono ?_;rintro e w1 ⟨g,c,rfl,ho,hb1⟩;have HB1:=hid (hB.out.trans (hb1.mono hsz));have HRR:=hid (Ec.row (ho.mono (B':=w.heap.size+2) hsz));obtain⟨us,h1,h2,h4⟩:=hO.out.of_below hb1;have HU:=hid (And.intro h2 h4);have hrl:(List.replicate k (AJ.one Q)).length=k:=Cf;rw[hrl]at h1;have Ie:=hid hrl;have nI:=hid (Ab hsz hb1.size);clear ho hb1 h2 h4 hO hrl p0 p1 p2 q0 q1 q2;go_wp2_with (at_builtin;(refine GQ _ rfl _ _ 25 rfl (w.heap.size+2) 24 i0 (.slice none 0 0) 1 24 Tryz.underlying25 UN hz0 hz1 hz2 rfl (by decide) _ _ _ rfl (h1.alloc _) ⟨w1.heap.size,0,none⟩ 1 1 [.slice (some ⟨g,0,none⟩) (ints (AJ.one Q)).length c] rfl rfl ?c1 ?c2 ?c3 ?c4 ?c5 ?_));case c1=>
    intro j u hj
    match j,hj with
    |0,hj=>simp at hj;subst hj;simp[Addr.add]
   case c2=>intro u hu;simp at hu;subst hu;rfl
   case c3=>unfold maxLen;omega
   case c4=>omega
   case c5=>have:=nI.out;simp;omega
   ·intro v' w2 hown hgrow _;have HN:=hid (show Own2 24 2 (w.heap.size+2) w2 v' (List.replicate (k+1) (AJ.one Q)) from by
     rw[Om];exact Own2.push (w:=w1.alloc _) (us:=us) (by decide) Ie.out (h1.alloc _) HU.out.1 (fun i r u hr hu=>(HU.out.2 i r u hr hu).keep (S:=fun _=>True) (AB.alloc _) (fun _ _=>trivial)) (HRR.out.keep (S:=fun _=>True) (AB.alloc _) (fun _ _=>trivial)) hown hgrow)
    have HB2:=hid (show Below (w.heap.size+2) ((w.alloc (.cells #[.slice aO T.length cO,.slice aP T.length cP,.slice aC T.length cC] 28)).alloc (.cells #[qO,qP,qC] 28)) w2 from(HB1.out.alloc (by have:=nI.out;omega) _).grown hgrow (by simp;have:=nI.out;omega) (fun g hg=>(BH h1 g hg).1));clear hown hgrow h1 HU HRR;go_wp2_with fail;go_roundw;case rel=>exact⟨k+1,by omega,by go_num,HN,HB2⟩
    case measure=>simp[intOf];omega
  ·obtain rfl:k=T.length:=by omega
   have ALJ:decide ((T.length:Int)<(T.length:Int))=false:=by simp
   have HK:=hid hkk;have Au:=hid hbw;obtain⟨W1,hW1⟩:∃W1,W1=wr.alloc (.cells #[] 25):=⟨_,rfl⟩;have hk1:AA Any wr W1:=by rw[hW1];exact AB.alloc _
   have Xn:=hid (show∀b,b<wr.heap.size→some b≠(Value.slice (some ⟨wr.heap.size,0,none⟩) 0 0).ownBlock from fun b hb e=>by
    simp only[Value.ownBlock,EN]at e;omega)
   have rG:=hid (((J6.out.keep hkk).bnd.mono (fun b hb=>Xn.out b hb.2)).keep (hk1.mono (fun _ _=>trivial)));have rH:=hid (((H6.out.keep hkk).bnd.mono (fun b hb=>Xn.out b hb.2)).keep (hk1.mono (fun _ _=>trivial)));obtain⟨ai,ci,rfl,_,_⟩:=hO.out.form;rw[Cf]at hO ⊢;have HI1:=hid (show AV (fun b=>some b≠(Value.slice (some ⟨wr.heap.size,0,none⟩) 0 0).ownBlock) W1 (.slice ai T.length ci) ((Io Q T.length []).map ints) from by
    rw[OD.out];exact((hO.out.sl.bnd).mono (fun b hb=>Xn.out b hb.2)).keep (hk1.mono (fun _ _=>trivial)))
   have J9:=hid (show Own3 w.heap.size W1 (.slice (some ⟨wr.heap.size,0,none⟩) 0 0) [] from⟨[],by
    rw[hW1];exact FL (base:=w.heap.size) (e:=25) (size:=1) wr #[] 0 (by omega) (AU _) rfl,rfl,by simp⟩)
   have HB1:=hid (show Below w.heap.size w W1 from by rw[hW1];exact hbw.alloc (by omega) _);have HWS:=hid (show w.heap.size≤W1.heap.size from by rw[hW1];simp;omega);clear hkk hbw hk1;go_wp2_with fail;rw[←hW1];have hGO:=FR.out w.heap.size W1 (.slice aO T.length cO) (.slice aP T.length cP) (.slice aC T.length cC) qO qP qC (.slice ai T.length ci) (.slice (some ⟨wr.heap.size,0,none⟩) 0 0) [] [] rG.out rH.out HI1.out (by simp) (by simp) J9.out HWS.out HZN.out;refine hGO.mono ?_;rintro e w6 ⟨v6,rfl,Un,eZ,JK,SF⟩;have HR:=hid (show nH (Dz Q T T.length []) w (.returned v6) w6 from⟨_,rfl,by rw[List.nil_append]at Un;exact Un,HB1.out.trans SF⟩);clear Un eZ JK SF hGO p0 p1 p2 q0 q1 q2;go_wp2_with fail;go_ret;exact HR.out
theorem Qz {T:Tw}(h:Cg.CQ (AX T)):Wf T∧Small T∧AJ.Good T∧JB.Pr T:=by
 obtain⟨T',h1,h2,h3,h5,h4⟩:=h;obtain rfl:=Cg.K9 h3;refine⟨h1,h2,h4,fun L hL=>?_⟩;have:=h5.pr (L.o:Int) (CX.2 ⟨L,hL,rfl⟩);simp[Val.CZ]at this;omega
end Go.Proofs.YtlmlamcoeegkbaaGreat.WQ
namespace Go.Proofs.YtlmlamcoeegkbaaGreat.O6
open Go.RowKit Go.Proofs.YtlmlamcoeegkbaaGreat AJ CV F9 Wu DL RL WQ
def AHu (P Q:Bq)(k:Int):Prop:=(k=1∧¬(Cg.CQ P∧Cg.CQ Q))∨∃T U,P=AX T∧Q=AX U∧Cg.CQ P∧Cg.CQ Q∧((k=3∧(27<sz T∨27<sz U))∨(k=0∧sz T≤27∧sz U≤27))
def UB (P Q:Bq)(w:World)(e:Ending)(w':World):Prop:=∃k:Int,e= .returned (.int .i64 k)∧AHu P Q k∧Below w.heap.size w w'
theorem Pw {T:Tw}(h:Cg.CQ (AX T)):Bf.Os T∧sz T≤729:=by
 obtain⟨T',h1,h2,h3,h5,h4⟩:=h;obtain rfl:=Cg.K9 h3;have hz:=j5 h5;exact⟨Bf.Os.of h1 h2 hz,hz⟩
theorem AEo (w:World)(pO pP pC qO qP qC:Value)(P Q:Bq)(hP:Aw Any w pO pP pC P)(hQ:Aw Any w qO qP qC Q):
  Calls Tryz.prog 33 #[.agg #[pO,pP,pC],.agg #[qO,qP,qC]] w (UB P Q w):=by
 have HP:=hid hP;have HQ:=hid hQ;have HG:=hid (fun W h=>UA.Pn W pO pP pC P h);have Li:=hid (fun W h=>UA.Pn W qO qP qC Q h);obtain⟨W0,hW0⟩:∃W0,W0=(w.alloc (.cells #[pO,pP,pC] 28)).alloc (.cells #[qO,qP,qC] 28):=⟨_,rfl⟩;have HB0:=hid (show Below (w.heap.size+2) ((w.alloc (.cells #[pO,pP,pC] 28)).alloc (.cells #[qO,qP,qC] 28)) W0 by rw[hW0];exact Ag _ _);clear hP hQ;go_enter Tryz.func33,Tryz.ntmps33;go_upto_region 1 with fail;rw[←hW0];clear hW0;obtain⟨⟨p0,p1,p2⟩,⟨q0,q1,q2⟩,hk,hbw,hs⟩:=bx HB0.out;go_wp2_with fail;refine(HG.out _ (HP.out.keep hk)).mono ?_;rintro e w1 ⟨r,rfl,hr,hb1⟩;have HB1:=hid (HB0.out.trans (hb1.mono hs));clear p0 p1 p2 q0 q1 q2 hk hbw hs hb1;obtain⟨⟨p0,p1,p2⟩,⟨q0,q1,q2⟩,hk,hbw,hs⟩:=bx HB1.out;by_cases Ke:Cg.CQ P
 ·obtain rfl:r=true:=hr.2 Ke;have JL:=hid Ke;clear hr Ke;go_wp2_with fail;refine(Li.out _ (HQ.out.keep hk)).mono ?_;rintro e w2 ⟨r,rfl,hr,hb2⟩;have HB2:=hid (HB1.out.trans (hb2.mono hs));clear p0 p1 p2 q0 q1 q2 hk hbw hs hb2;obtain⟨⟨p0,p1,p2⟩,⟨q0,q1,q2⟩,hk,hbw,hs⟩:=bx HB2.out;by_cases KC:Cg.CQ Q
  ·obtain rfl:r=true:=hr.2 KC;obtain⟨T,hTE⟩:∃T,P=AX T:=by obtain⟨T,_,_,h,_⟩:=JL.out;exact⟨T,h⟩
   obtain⟨U,hUE⟩:∃U,Q=AX U:=by obtain⟨T,_,_,h,_⟩:=KC;exact⟨T,h⟩
   subst hTE;subst hUE;have bu:=hid KC;have Bn:=hid (Bf.I5 T (Pw JL.out).1 w2 pO pP pC (by have h:=(HP.out.keep hk).os;rwa[Bf.MJ]at h));clear hr KC;go_wp2_with fail;refine Bn.out.mono ?_;rintro e w3 ⟨rfl,hb3⟩;have HB3:=hid (HB2.out.trans (hb3.mono hs));clear p0 p1 p2 q0 q1 q2 hk hbw hs hb3;obtain⟨⟨p0,p1,p2⟩,⟨q0,q1,q2⟩,hk,hbw,hs⟩:=bx HB3.out;have Au:=hid hbw;by_cases h27:27<sz T
   ·have hd:decide ((sz T:Int)>27)=true:=by simp;omega
    have HR:=hid (show UB (AX T) (AX U) w (.returned (.int .i64 3)) w3 from⟨3,rfl,.inr ⟨T,U,rfl,rfl,JL.out,bu.out,.inl ⟨rfl,.inl h27⟩⟩,Au.out⟩);clear hk hbw hs;go_wp2_with fail;go_ret;exact HR.out
   ·have hd:decide ((sz T:Int)>27)=false:=by simp;omega
    have PR:=hid (Bf.I5 U (Pw bu.out).1 w3 qO qP qC (by have h:=(HQ.out.keep hk).os;rwa[Bf.MJ]at h));clear hk hbw;go_wp2_with fail;refine PR.out.mono ?_;rintro e w4 ⟨rfl,hb4⟩;have ACD:=hid (bx (HB3.out.trans (hb4.mono hs))).2.2.2.1;clear p0 p1 p2 q0 q1 q2 hb4;by_cases Xo:27<sz U
    ·have hd2:decide ((sz U:Int)>27)=true:=by simp;omega
     have HR:=hid (show UB (AX T) (AX U) w (.returned (.int .i64 3)) w4 from⟨3,rfl,.inr ⟨T,U,rfl,rfl,JL.out,bu.out,.inl ⟨rfl,.inr Xo⟩⟩,ACD.out⟩);go_wp2_with fail;go_ret;exact HR.out
    ·have hd2:decide ((sz U:Int)>27)=false:=by simp;omega
     have HR:=hid (show UB (AX T) (AX U) w (.returned (.int .i64 0)) w4 from⟨0,rfl,.inr ⟨T,U,rfl,rfl,JL.out,bu.out,.inr ⟨rfl,by omega,by omega⟩⟩,ACD.out⟩);go_wp2_with fail;go_ret;exact HR.out
  ·obtain rfl:r=false:=by
    cases r with
    |false=>rfl
    |true=>exact absurd (hr.1 rfl) KC
   have HR:=hid (show UB P Q w (.returned (.int .i64 1)) w2 from⟨1,rfl,.inl ⟨rfl,fun h=>KC h.2⟩,hbw⟩);clear hr KC hk hbw hs;go_wp2_with fail;go_ret;exact HR.out
 ·obtain rfl:r=false:=by
   cases r with
   |false=>rfl
   |true=>exact absurd (hr.1 rfl) Ke
  have HR:=hid (show UB P Q w (.returned (.int .i64 1)) w1 from⟨1,rfl,.inl ⟨rfl,fun h=>Ke h.1⟩,hbw⟩);clear hr Ke hk hbw hs;go_wp2_with fail;go_ret;exact HR.out
end Go.Proofs.YtlmlamcoeegkbaaGreat.O6
namespace Go.Proofs.YtlmlamcoeegkbaaGreat.O6
open Go.RowKit Go.Proofs.YtlmlamcoeegkbaaGreat AJ CV F9 Wu DL RL WQ
def nJ (T U:Tw)(w:World)(e:Ending)(w':World):Prop:=nH (if sz T=sz U then Dz U T T.length []else []) w e w'
theorem AFR (T U:Tw)(gT:Cg.CQ (AX T))(gU:Cg.CQ (AX U))(hz:sz U≤27)(w:World)(pO pP pC qO qP qC:Value)(hP:Aw Any w pO pP pC (AX T))(hQ:Aw Any w qO qP qC (AX U)):
  Calls Tryz.prog 34 #[.agg #[pO,pP,pC],.agg #[qO,qP,qC]] w (nJ T U w):=by
 have HP:=hid hP;have HQ:=hid hQ;have Gt:=hid (fun W (h:Aw Any W pO pP pC (AX T))=>Bf.I5 T (Pw gT).1 W pO pP pC (by have h:=h.os;rwa[Bf.MJ]at h));have HSQ:=hid (fun W (h:Aw Any W qO qP qC (AX U))=>Bf.I5 U (Pw gU).1 W qO qP qC (by have h:=h.os;rwa[Bf.MJ]at h));obtain⟨hT,D8,De,hpT⟩:=Qz gT;obtain⟨hU,QU,OE,rM⟩:=Qz gU;have HEM:=hid (fun W (hq:sz T=sz U) h1 h2=>AEn T U hT D8 hU QU OE rM hz W pO pP pC qO qP qC h1 h2);obtain⟨W0,hW0⟩:∃W0,W0=(w.alloc (.cells #[pO,pP,pC] 28)).alloc (.cells #[qO,qP,qC] 28):=⟨_,rfl⟩;have HB0:=hid (show Below (w.heap.size+2) ((w.alloc (.cells #[pO,pP,pC] 28)).alloc (.cells #[qO,qP,qC] 28)) W0 by rw[hW0];exact Ag _ _);clear hP hQ hT D8 De hpT hU QU OE rM gT gU;go_enter Tryz.func34,Tryz.ntmps34;go_upto_region 1 with fail;rw[←hW0];clear hW0;obtain⟨⟨p0,p1,p2⟩,⟨q0,q1,q2⟩,hk,hbw,hs⟩:=bx HB0.out;have HP0:=hid (HP.out.keep hk);have Um:=hid (HQ.out.keep hk);have hl0:w.heap.size<W0.heap.size:=by omega
 have hl1:w.heap.size+1<W0.heap.size:=by omega
 clear hk hbw;go_region_held3 (fun w'=>(∀b o,b<W0.heap.size→w'.cell? ⟨b,o,none⟩=W0.cell? ⟨b,o,none⟩)∧AA (fun _=>True) W0 w')
  (first|exact Aj (by repeat(first|exact AB.drew|exact AA.refl _ _|refine AA.drewN ?_ _|refine AA.trans ?_ (AA.of_below (by assumption)))))
  (first|(go_at_call_of 43 pO;refine(Gt.out _ (HP0.out.keep (by repeat(first|exact AB.drew|exact AA.refl _ _|exact AB.alloc _|exact(AB.alloc _).drew|refine AA.drewN ?_ _|refine AA.trans ?_ (AA.of_below (by assumption)))))).mono ?_;rintro e w1 ⟨rfl,hb1⟩)|(go_at_call_of 43 qO;refine(HSQ.out _ (Um.out.keep (by repeat(first|exact AB.drew|exact AA.refl _ _|exact AB.alloc _|exact(AB.alloc _).drew|refine AA.drewN ?_ _|refine AA.trans ?_ (AA.of_below (by assumption)))))).mono ?_;rintro e w2 ⟨rfl,hb2⟩))
 rename_i hHd;clear hHd;have HB1:=hid (HB0.out.drew.trans (hb1.mono hs));have HB2:=hid (HB1.out.trans (hb2.mono (bx HB1.out).2.2.2.2));clear p0 p1 p2 q0 q1 q2 hb1 hb2 hs HP0 Um;obtain⟨⟨p0,p1,p2⟩,⟨q0,q1,q2⟩,hk,hbw,hs⟩:=bx HB2.out;have Au:=hid hbw;by_cases hq:sz T=sz U
 ·have hb:((sz T:Int) !=(sz U:Int))=false:=by rw[hq];simp
  have HE:=hid (HEM.out w2 hq (HP.out.keep hk) (HQ.out.keep hk));have HQQ:=hid hq;clear hq hk hbw;go_wp2_with fail;refine HE.out.mono ?_;rintro e w3 ⟨v,rfl,ho,hb3⟩;have HR:=hid (show nJ T U w (.returned v) w3 from⟨v,rfl,by rw[CU HQQ.out];exact ho.mono (by omega),Au.out.trans (hb3.mono (by omega))⟩);clear ho hb3;go_wp2_with fail;go_ret;exact HR.out
 ·have hb:((sz T:Int) !=(sz U:Int))=true:=by simp;omega
  have HR:=hid (show nJ T U w (.returned (.slice none 0 0)) w2 from⟨_,rfl,by rw[BU hq];exact Own3.nil _ _,Au.out⟩);clear hq hk hbw;go_wp2_with fail;go_ret;exact HR.out
def RN (P Q:Bq)(n k:Int):Prop:=
 (n=0∧k=1∧¬(Cg.CQ P∧Cg.CQ Q))∨∃T U,P=AX T∧Q=AX U∧Cg.CQ P∧Cg.CQ Q∧
  ((n=0∧k=3∧(27<sz T∨27<sz U))∨(n=0∧k=0∧sz T≤27∧sz U≤27∧sz T≠sz U)∨(k=0∧sz T=sz U∧sz U≤27∧n=((Grow.grow U T T.length []).length:Int)))
def UC (P Q:Bq)(w:World)(e:Ending)(w':World):Prop:=∃n k:Int,e= .returned (.tuple #[.int .i64 n,.int .i64 k])∧RN P Q n k∧Below w.heap.size w w'
theorem AFS {P Q:Bq}{n k n' k':Int}(h:RN P Q n k)(h':RN P Q n' k'):n'=n∧k'=k:=by
 rcases h with⟨rfl,rfl,hn⟩|⟨T,U,rfl,rfl,hG,hG2,h⟩
 ·rcases h' with⟨rfl,rfl,_⟩|⟨T',U',_,_,hG,hG2,_⟩
  ·exact⟨rfl,rfl⟩
  ·exact absurd ⟨hG,hG2⟩ hn
 ·rcases h' with⟨_,_,hn⟩|⟨T',U',hT,hU,_,_,h'⟩
  ·exact absurd ⟨hG,hG2⟩ hn
  ·obtain rfl:=Cg.K9 hT;obtain rfl:=Cg.K9 hU;rcases h with⟨rfl,rfl,h1⟩|⟨rfl,rfl,h1⟩|⟨rfl,h1,h2,rfl⟩<;>rcases h' with⟨rfl,rfl,h3⟩|⟨rfl,rfl,h3⟩|⟨rfl,h3,h4,rfl⟩<;>first|exact⟨rfl,rfl⟩|omega
theorem AEp {P Q:Bq}{w w':World}{e:Ending}(h:aK.Zh P Q w e w'):∃a n c k,e= .returned (.tuple #[.slice a n c,.int .i64 k])∧n≤1000000000∧Below w.heap.size w w'∧RN P Q (n:Int) k:=by
 obtain⟨v,k,rfl,hb,h⟩:=h;rcases h with⟨rfl,rfl,h⟩|⟨T,U,hT,hU,gP,gQ,h⟩
 ·exact⟨none,0,0,1,rfl,by omega,hb,.inl ⟨rfl,rfl,h⟩⟩
 ·rcases h with⟨rfl,rfl,h⟩|⟨rfl,rfl,h1,h2,h3⟩|⟨rfl,h1,h2,F,hperm,_,ho⟩
  ·exact⟨none,0,0,3,rfl,by omega,hb,.inr ⟨T,U,hT,hU,gP,gQ,.inl ⟨rfl,rfl,h⟩⟩⟩
  ·exact⟨none,0,0,0,rfl,by omega,hb,.inr ⟨T,U,hT,hU,gP,gQ,.inr (.inl ⟨rfl,rfl,h1,h2,h3⟩)⟩⟩
  ·obtain⟨a,c,rfl,_,_⟩:=ho.form;have hl:=hperm.length_eq;have hg:=Grow.jR U T h2 T.length [];have h6:27^T.length≤27^6:=Tv (by omega) (by
    obtain⟨T',_,hs,e,_⟩:=gP;obtain rfl:T=T':=Cg.K9 (hT.symm.trans e);exact hs.1)
   exact⟨a,F.length,c,0,rfl,by omega,hb,.inr ⟨T,U,hT,hU,gP,gQ,.inr (.inr ⟨rfl,h1,h2,by rw[hl]⟩)⟩⟩
theorem AEH (w:World)(pO pP pC qO qP qC:Value)(P Q:Bq)(hP:Aw Any w pO pP pC P)(hQ:Aw Any w qO qP qC Q):
  Calls Tryz.prog 8 #[.agg #[pO,pP,pC],.agg #[qO,qP,qC]] w (UC P Q w):=by
 obtain⟨W0,hW0⟩:∃W0,W0=(w.alloc (.cells #[pO,pP,pC] 28)).alloc (.cells #[qO,qP,qC] 28):=⟨_,rfl⟩;have HB0:=hid (show Below (w.heap.size+2) ((w.alloc (.cells #[pO,pP,pC] 28)).alloc (.cells #[qO,qP,qC] 28)) W0 by rw[hW0];exact Ag _ _);obtain⟨⟨p0,p1,p2⟩,⟨q0,q1,q2⟩,hk,hbw,hs⟩:=bx HB0.out;have HC:=hid (aK.ADn W0 w.heap.size 0 (w.heap.size+1) 0 P Q ⟨trivial,by omega,_,_,_,p0,p1,p2,hP.keep hk⟩ ⟨trivial,by omega,_,_,_,q0,q1,q2,hQ.keep hk⟩);have Au:=hid hbw;clear p0 p1 p2 q0 q1 q2 hk hbw hP hQ;go_enter Tryz.func8,Tryz.ntmps8;go_upto_region 1 with fail;rw[←hW0];clear hW0;go_wp2_with fail;refine HC.out.mono ?_;rintro e w1 h;obtain⟨a,n,c,k,rfl,hn,hb,hv⟩:=AEp h;have HR:=hid (show UC P Q w (.returned (.tuple #[.int .i64 (n:Int),.int .i64 k])) w1 from⟨_,_,rfl,hv,Au.out.trans (hb.mono (by omega))⟩);clear h hb hv;go_wp2_with fail;exact Am (v:=.tuple #[.int .i64 (n:Int),.int .i64 k]) (by simp[results,Tryz.results8,go_sem]) rfl HR.out
theorem xD {U T:Tw}(gT:Cg.CQ (AX T))(gU:Cg.CQ (AX U)):(Dz U T T.length []).length=(Grow.grow U T T.length []).length:=by
 obtain⟨hT,D8,De,hpT⟩:=Qz gT;obtain⟨hU,QU,OE,rM⟩:=Qz gU;exact AD1 hU OE hT
theorem AEI (w:World)(pO pP pC qO qP qC:Value)(P Q:Bq)(hP:Aw Any w pO pP pC P)(hQ:Aw Any w qO qP qC Q):
  Calls Tryz.prog 9 #[.agg #[pO,pP,pC],.agg #[qO,qP,qC]] w (UC P Q w):=by
 have HP:=hid hP;have HQ:=hid hQ;obtain⟨W0,hW0⟩:∃W0,W0=(w.alloc (.cells #[pO,pP,pC] 28)).alloc (.cells #[qO,qP,qC] 28):=⟨_,rfl⟩;have HB0:=hid (show Below (w.heap.size+2) ((w.alloc (.cells #[pO,pP,pC] 28)).alloc (.cells #[qO,qP,qC] 28)) W0 by rw[hW0];exact Ag _ _);clear hP hQ;go_enter Tryz.func9,Tryz.ntmps9;go_upto_region 1 with fail;rw[←hW0];clear hW0;obtain⟨⟨p0,p1,p2⟩,⟨q0,q1,q2⟩,hk,hbw,hs⟩:=bx HB0.out;go_wp2_with fail;refine(AEo _ _ _ _ _ _ _ P Q (HP.out.keep hk) (HQ.out.keep hk)).mono ?_;rintro e w1 ⟨k,rfl,hc,hb1⟩;have HB1:=hid (HB0.out.trans (hb1.mono hs));clear p0 p1 p2 q0 q1 q2 hk hbw hs hb1;obtain⟨⟨p0,p1,p2⟩,⟨q0,q1,q2⟩,hk,hbw,hs⟩:=bx HB1.out;rcases hc with⟨rfl,hG⟩|⟨T,U,rfl,rfl,hG,hG2,⟨rfl,h27⟩|⟨rfl,h27,Xo⟩⟩
 ·have HR:=hid (show UC P Q w (.returned (.tuple #[.int .i64 0,.int .i64 1])) w1 from⟨0,1,rfl,.inl ⟨rfl,rfl,hG⟩,hbw⟩);clear hG hk hbw;go_wp2_with fail;exact Am (v:=.tuple #[.int .i64 0,.int .i64 1]) (by simp[results,Tryz.results9,go_sem]) rfl HR.out
 ·have HR:=hid (show UC (AX T) (AX U) w (.returned (.tuple #[.int .i64 0,.int .i64 3])) w1 from⟨0,3,rfl,.inr ⟨T,U,rfl,rfl,hG,hG2,.inl ⟨rfl,rfl,h27⟩⟩,hbw⟩);clear hG hG2 hk hbw h27;go_wp2_with fail;exact Am (v:=.tuple #[.int .i64 0,.int .i64 3]) (by simp[results,Tryz.results9,go_sem]) rfl HR.out
 ·have HM:=hid (AFR T U hG hG2 Xo w1 pO pP pC qO qP qC (HP.out.keep hk) (HQ.out.keep hk));have HG:=hid (And.intro hG hG2);have Au:=hid hbw;have FU:=hid (And.intro h27 Xo);clear hk hG hG2 hbw h27 Xo;go_wp2_with fail;refine HM.out.mono ?_;rintro e w2 ⟨v,rfl,ho,hb2⟩;obtain⟨a,c,rfl,_,_⟩:=ho.form;obtain⟨n,hn⟩:∃n,(if sz T=sz U then Dz U T T.length []else []).length=n:=⟨_,rfl⟩;rw[hn];have HR:=hid (show UC (AX T) (AX U) w (.returned (.tuple #[.int .i64 (n:Int),.int .i64 0])) w2 from⟨_,0,rfl,.inr ⟨T,U,rfl,rfl,HG.out.1,HG.out.2,by
   by_cases hq:sz T=sz U
   ·rw[CU hq,xD HG.out.1 HG.out.2]at hn;exact .inr (.inr ⟨rfl,hq,FU.out.2,by rw[hn]⟩)
   ·rw[BU hq]at hn;exact .inr (.inl ⟨by rw[←hn];rfl,rfl,FU.out.1,FU.out.2,hq⟩)⟩,Au.out.trans (hb2.mono (by omega))⟩)
  clear ho hb2 hn;go_wp2_with fail;exact Am (v:=.tuple #[.int .i64 (n:Int),.int .i64 0]) (by simp[results,Tryz.results9,go_sem]) rfl HR.out
end Go.Proofs.YtlmlamcoeegkbaaGreat.O6
namespace Go.Proofs.YtlmlamcoeegkbaaGreat.rO
open Go.RowKit Go.Proofs.YtlmlamcoeegkbaaGreat AJ Dq IK DL JA LD JB Nj P8 LF
def Mw (n:Nat):List (List Nat):=(List.range n).map fun k=>(List.replicate n 0).set k 1
theorem AGJ {n k:Nat}(h:k<n):(Mw n)[k]?=some ((List.replicate n 0).set k 1):=by simp[Mw,h]
theorem AGK (n:Nat):(Mw n).length=n:=by simp[Mw]
theorem AEq (n:Nat)(hn:n≤6)(w:World):Calls Tryz.prog 142 #[.int .i64 (n:Int)] w (KU 24 2 (Mw n) w):=by
 obtain⟨i0,hi,hz0,hz1,hz2⟩:=CO JC;have h00:=FL (base:=w.heap.size) (e:=24) (size:=1) w #[] 0 AQ (AU _) rfl;have HL:=hid (AGK n);go_enter Tryz.func142,Tryz.ntmps142;go_wp2_with fail;go_loopw [3,4] (fun ov i wr=>∃(k:Nat) (a:Option Addr) (c:Nat),k≤n∧i= .int .i64 (k:Int)∧ov= .slice a k c∧Hid (Own2 24 2 w.heap.size wr (.slice a k c) ((Mw n).take k))∧Hid (Below w.heap.size w wr)) (fun _ i _=>n-(intOf i).toNat);case atStart=>exact⟨0,_,_,AU _,rfl,rfl,hid ⟨[],h00,rfl,by simp⟩,hid (AR.alloc AQ _)⟩
 case round=>
  obtain⟨k,a,c,hk,rfl,rfl,ho2,HB⟩:=hrel;clear h00;by_cases hlt:k<n
  ·have hki:(k:Int)<(n:Int):=by omega
   have EP:(0:Int)≤(k:Int):=by omega
   have hmk:=Jg n hn wr;have HO:=Own.made (B:=wr.heap.size) wr n AQ (by unfold maxLen;omega);obtain⟨s1,f1⟩:=HO.cell (j:=k) (a:=0) (by simp[hlt]);have Ga:=hid (show(Mw n).take (k+1)=(Mw n).take k++[(List.replicate n 0).set k 1] by rw[Jd,AGJ hlt];rfl);have htl:((Mw n).take k).length=k:=by have:=HL.out;simp;omega
   obtain⟨w1,hw1⟩:∃w1,w1=wr.alloc (.cells ((madeCells #[.int .i64 0] n).setIfInBounds k (.int .i64 1)) 2):=⟨_,rfl⟩;have HRR:=hid (show CL 2 w.heap.size w1 (.slice (some ⟨wr.heap.size,0,none⟩) n n) ((List.replicate n 0).set k 1) from by
    refine⟨⟨wr.heap.size,n,by simp⟩,?_⟩;have:=KT (base:=w.heap.size) (e:=2) (size:=1) wr ((madeCells #[.int .i64 0] n).setIfInBounds k (.int .i64 1)) n HB.out.size (by unfold maxLen;omega) (by simp[madeCells]);rw[hw1];simp only[List.length_set,Cf];rw[Array.toList_setIfInBounds,Ni]at this;simpa[vals,ints]using this)
   have HB1:=hid (show Below w.heap.size w w1 by rw[hw1];exact HB.out.alloc HB.out.size _);have K1:=hid (show AA Any wr w1 by rw[hw1];exact AB.alloc _);obtain⟨us,h1,h2,h4⟩:=ho2.out;rw[htl]at h1;have HU:=hid (And.intro h2 h4);have H1:=hid (BM h1 K1.out fun _ _=>trivial);have Ie:=hid htl;clear h1 h2 h4 ho2 htl HO;go_upto_region 7 with fail;rw[←hw1];have h1:=H1.out;clear hw1 hmk s1 f1;go_wp2_with (at_builtin;(refine Hg _ rfl _ _ 25 rfl w.heap.size 24 i0 (.slice none 0 0) 1 24 Tryz.underlying25 hi hz0 hz1 hz2 rfl (by decide) _ _ _ rfl (h1.alloc _) ⟨w1.heap.size,0,none⟩ 1 1 [.slice (some ⟨wr.heap.size,0,none⟩) n n] rfl rfl (Ea (cs:= #[.slice (some ⟨wr.heap.size,0,none⟩) n n]) (t:=24) (fr:=(0,0)) (Av w1 _)) (by simp[Value.oneCell']) (by decide) (by unfold maxLen;omega) (by omega) (by have:=HB1.out.size;simp;omega) _ rfl ?_));intro g2 cap2 w2 hown hgrow hat hlt2;have HN:=hid (show Own2 24 2 w.heap.size w2 (.slice (some ⟨g2,0,none⟩) (k+1) cap2) ((Mw n).take (k+1)) from by
    rw[Ga.out];exact Own2.push (w:=w1.alloc _) (us:=us) (by decide) Ie.out (h1.alloc _) HU.out.1 (fun i r u hr hu=>(HU.out.2 i r u hr hu).keep (S:=fun _=>True) (K1.out.alloc _) (fun _ _=>trivial)) (HRR.out.keep (S:=fun _=>True) (AB.alloc _) (fun _ _=>trivial)) hown hgrow)
   have HB2:=hid (show Below w.heap.size w w2 from(HB1.out.alloc (by have:=HB1.out.size;omega) _).grown hgrow (by simp;have:=HB1.out.size;omega) (fun g hg=>(BH h1 g hg).1));clear hown hgrow h1 HU HRR hat hlt2;go_wp2_with fail;go_roundw;case rel=>exact⟨k+1,_,_,by omega,by go_num,rfl,HN,HB2⟩
   case measure=>simp[intOf];omega
  ·obtain rfl:k=n:=by omega
   have hnl:¬(k:Int)<(k:Int):=by omega
   have HF:=hid (show KU 24 2 (Mw k) w (.returned (.slice a k c)) wr from by
    have h:=ho2.out;rw[Mf (by rw[HL.out];exact Ap _)]at h;exact⟨_,rfl,h,HB.out⟩)
   go_wp2_with fail;go_ret;exact HF.out
theorem AEr (T:Tw)(hs:T.length≤6)(w:World)(vP vC:Value)(aO:Option Addr)(cO:Nat):
  Calls Tryz.prog 91 #[.agg #[.slice aO T.length cO,vP,vC]] w (KU 24 2 (Dr T) w):=by
 have HU:=hid (fun W=>AEq T.length hs W);go_enter Tryz.func91,Tryz.ntmps91;go_wp2_with (go_at_call 142;refine(HU.out _).mono ?_;rintro e w1 ⟨v,rfl,ho,hb⟩);go_ret;exact⟨_,rfl,ho.mono (by simp),(AR.alloc AQ _).trans (hb.mono (by simp))⟩
theorem AFT (T:Tw)(hT:Wf T)(hs:Small T)(hg:AJ.Good T)(w:World)(vO vP vC vx vy:Value)(x y:List Nat)(hP:Aw Any w vO vP vC (AX T))(hx:AL Any w vx (ints x))(hy:AL Any w vy (ints y))(Du:El T x)(Gc:El T y):
  Calls Tryz.prog 98 #[.agg #[vO,vP,vC],vx,vy] w (Jf (ints (mul T (BS T y) (mul T x y))) w):=by
 have HP:=hid hP;have HX:=hid hx;have HY:=hid hy;have Cw:=hid Du;have ET:=hid Gc;have HM:=hid (fun W va vb a b hP ha hb hA hB=>Q8 T hT hs W vO vP vC va vb a b hP ha hb hA hB);have HI:=hid (fun W va a hP ha hA=>j6 T hT hs hg W vO vP vC va a hP ha hA);have HE2:=hid (Dl hT Du Gc);have rQ:=hid (FH hT hg Gc).1;obtain⟨wb,hwb⟩:∃wb,wb=w.alloc (.cells #[vO,vP,vC] 28):=⟨_,rfl⟩;clear hP hx hy Du Gc;go_enter Tryz.func98,Tryz.ntmps98;go_upto_region 1 with fail;rw[←hwb];have HB0:=hid (show Below w.heap.size w wb by rw[hwb];exact AR.alloc AQ _);obtain⟨e0,e1,e2⟩:=Cc (w:=w) (wr:=wb) (by rw[hwb];exact Ag _ _);have hsz:w.heap.size<wb.heap.size:=by rw[hwb];simp
 have Mx:=hid (HP.out.keep (w':=wb) (by rw[hwb];exact AB.alloc _));have Uo:=hid (HX.out.keep (w':=wb) (by rw[hwb];exact AB.alloc _));have Xp:=hid (HY.out.keep (w':=wb) (by rw[hwb];exact AB.alloc _));clear hwb HP HX HY;go_region_held3 (fun w'=>(∀b o,b<wb.heap.size→w'.cell? ⟨b,o,none⟩=wb.cell? ⟨b,o,none⟩)∧AA (fun _=>True) wb w')
  (first|exact Aj (by repeat(first|exact AB.drew|exact AA.refl _ _|refine AA.trans ?_ (AA.of_below (by assumption)))))
  (first|(go_at_call_of 92 v6;refine(HM.out _ v6 v7 _ _ (Mx.out.keep (by repeat(first|exact AB.drew|exact AA.refl _ _|refine AA.trans ?_ (AA.of_below (by assumption))))) ((Al.sl.mono (fun _ _=>trivial)).keep (by repeat(first|exact AB.drew|exact AA.refl _ _|refine AA.trans ?_ (AA.of_below (by assumption))))) ((Bz.sl.mono (fun _ _=>trivial)).keep (by repeat(first|exact AB.drew|exact AA.refl _ _|refine AA.trans ?_ (AA.of_below (by assumption))))) rQ.out HE2.out).mono ?_;rintro e w8 ⟨v8,rfl,Cx,CP⟩)|(have g6:=hb6;clear g6;go_at_call 92;refine(HM.out _ vx vy x y (Mx.out.keep (by repeat(first|exact AB.drew|exact AA.refl _ _|refine AA.trans ?_ (AA.of_below (by assumption))))) (Uo.out.keep (by repeat(first|exact AB.drew|exact AA.refl _ _|refine AA.trans ?_ (AA.of_below (by assumption))))) (Xp.out.keep (by repeat(first|exact AB.drew|exact AA.refl _ _|refine AA.trans ?_ (AA.of_below (by assumption))))) Cw.out ET.out).mono ?_;rintro e w7 ⟨v7,rfl,Bz,Bd⟩)|(go_at_call 145;refine(HI.out _ vy _ (Mx.out.keep (by repeat(first|exact AB.drew|exact AA.refl _ _|refine AA.trans ?_ (AA.of_below (by assumption))))) (Xp.out.keep (by repeat(first|exact AB.drew|exact AA.refl _ _|refine AA.trans ?_ (AA.of_below (by assumption))))) ET.out).mono ?_;rintro e w6 ⟨v6,rfl,Al,hb6⟩))
 have hs7:w.heap.size≤w7.heap.size:=by
  have:=(show AA (fun _=>True) wb w7 from(by repeat(first|exact AB.drew|exact AA.refl _ _|refine AA.trans ?_ (AA.of_below (by assumption))))).size;omega
 have AZ:=HB0;have Cr:=hid (show Below w.heap.size w w8 from(by repeat(first|exact AZ.out|exact AZ.out.drew|refine Below.step ?_ (by simp) (by assumption))));have Jk:=hid (Cx.mono hs7);clear Al Bz Cx hb6 Bd CP;go_wp2_with fail;go_ret;exact⟨_,rfl,Jk.out,Cr.out⟩
end Go.Proofs.YtlmlamcoeegkbaaGreat.rO
