import Derived.Test.YtaadbccidfdniaaGreatZ0
import Derived.Test.YtaadbccidfdniaaGreatZs
import Derived.Test.YtaadbccidfdniaaGreatZu
import Derived.Maps.OwnOps
import Derived.Maps.OwnSet
import Derived.Maps.Views
import Derived.Test.YtaadbccidfdniaaGreatZo
import Derived.Deep.RegionLaw
/-
  Lemmas for the law FnCopies, in short spelling.
-/
open Go.Lib (hid)
set_option linter.unusedVariables false
set_option linter.unusedSimpArgs false
set_option maxRecDepth 100000
set_option maxHeartbeats 40000000
namespace Go.Proofs.YtaadbccidfdniaaGreat.Xe
open Go Go.Maps
theorem AGm {H:Type}{P:Program}(w:World){ops:Array Oper}{rest:List Oper}{o:Oper}{a:Act}{Q:Exit→Act→World→Prop}
  (hg:o.guard=none) (m x v:Operand) (t:TypeId) (hop:o.op=Op.insert t m x v)
  (k e:TypeId) (K:Keyed P k) (ht:P.underlying t=some (.map k e)) (R:Value→Option (DataW H×List MemPlace)) (b n:Nat) (D:DataW H)
  (hm:a.eval m= .map (some b)) (hown:w.ownsMap P k R b n D) (hn:n<maxLen) (key val:Value) (kl:Lit) (hx:a.eval x=key) (hv:a.eval v=val) (hkey:keyOf P k key=some kl)
  (d:DataW H) (ps:List MemPlace) (hval:R val=some (d,ps))
  (hK:∀w',w'.ownsMap P k R b (n+1) (D.put kl d)→w.grownBy w' (some b)→wpList P ops Q rest (a.put o.dst undef) w'):
  wpList P ops Q (o::rest) a w:=by
 refine wpList_plain hg fun K' hK'=>?_;obtain⟨w',hrun,r1,r2⟩:=hown.update K ht hn hkey hval;unfold Oper.wp;simp[execOp,hop,hm,hx,hv,hrun,Result.andThen];exact hK' _ _ (hK w' r1 r2)
theorem AGl {H:Type}{P:Program}{e:TypeId}(he:P.underlying e=some .bool){v:Value}{z:DataW H×List MemPlace}(h:plainElem P e v=some z):∃x,v= .bool x∧z=(.lit (.bool x),[]):=by
 unfold plainElem at h;rw[he]at h;cases v<;>simp at h;exact⟨_,rfl,h.symm⟩
theorem zz {H:Type}{P:Program}(w:World){ops:Array Oper}{rest:List Oper}{o:Oper}{a:Act}{Q:Exit→Act→World→Prop}
  (hg:o.guard=none) (m x:Operand) (t:TypeId) (hop:o.op=Op.lookup t m x false)
  (k e:TypeId) (K:Keyed P k) (ht:P.underlying t=some (.map k e)) (he:P.underlying e=some .bool) (hz:(zeroValue e).run P w= .ok (.bool false) w) (b n:Nat) (D:DataW H)
  (hm:a.eval m= .map (some b)) (hown:w.ownsMap P k (plainElem P e) b n D) (key:Value) (kl:Lit) (hx:a.eval x=key) (hkey:keyOf P k key=some kl)
  (hK:∀c:Bool,D.atKey kl (.lit (.bool false))= .lit (.bool c)→wpList P ops Q rest (a.put o.dst (.bool c)) w):
  wpList P ops Q (o::rest) a w:=by
 refine wpList_plain hg fun K' hK'=>?_;obtain⟨v,ps,hrun,hv⟩:=hown.lookup K ht hz (plainElem_bool he false) hkey;obtain⟨c,rfl,hc⟩:=AGl he hv;simp only[Prod.mk.injEq]at hc;unfold Oper.wp;simp[execOp,hop,hm,hx,hrun,Result.andThen];exact hK' _ _ (hK c hc.1)
end Go.Proofs.YtaadbccidfdniaaGreat.Xe
namespace Go.Proofs.YtaadbccidfdniaaGreat.Xe
open Go.RowKit Go.Maps Go.Proofs.YtaadbccidfdniaaGreat AB Gen Cu Gt EZ CU KS FZ NQ mW I9 Qi ML U4 SQ
structure JE (T:Tw)(ms:List Nat)(i x:Nat):Prop where
 nd:ms.Nodup
 sub:∀M∈ms,IM T M
 one:1∈ms
 done:∀(j:Nat) (M y:Nat),(j<i∨(j=i∧y<x))→ms[j]?=some M→y<sz T→M.testBit y=true∨∃N∈ms,QD T M y N
theorem JE.start {T:Tw}(hT:Wf T)(hg:AB.Good T):JE T [1] 0 0:=
 ⟨by simp,fun M hM=>by rw[GU.1 hM];exact ANj hT hg,by simp,fun j M y h=>by omega⟩
theorem JE.yes {T:Tw}{ms:List Nat}{i x M:Nat}(h:JE T ms i x)(hM:ms[i]?=some M)(hx:M.testBit x=true∨∃N∈ms,QD T M x N):JE T ms i (x+1):=
 ⟨h.nd,h.sub,h.one,fun j M' y hj hM' hy=>by
  rcases CP j i with h1|h1
  ·exact h.done j M' y (.inl h1) hM' hy
  ·obtain rfl:j=i:=by omega
   rcases CP y x with h2|h2
   ·exact h.done j M' y (.inr ⟨rfl,h2⟩) hM' hy
   ·obtain rfl:y=x:=by omega
    rw[hM]at hM';cases hM';exact hx⟩
theorem JE.new {T:Tw}{ms:List Nat}{i x M N:Nat}(h:JE T ms i x)(hM:ms[i]?=some M)(hE:QD T M x N)(hN:N∉ms):JE T (ms++[N]) i (x+1):=by
 have h2:JE T (ms++[N]) i x:=⟨List.nodup_append.2 ⟨h.nd,by simp,fun a ha b hb e=>by
   rw[GU.1 hb]at e;exact hN (e▸ha)⟩,fun K hK=>by
   rcases GY.1 hK with h1|h1
   ·exact h.sub K h1
   ·rw[GU.1 h1];exact hE.sub,TM _ h.one,fun j M' y hj hM' hy=>by
   have hil:=(Ag.1 hM).1;rw[EA (by omega)]at hM';rcases h.done j M' y hj hM' hy with h1|⟨K,hK,h1⟩
   ·exact .inl h1
   ·exact .inr ⟨K,TM _ hK,h1⟩⟩
 exact h2.yes (by rw[EA (Ag.1 hM).1];exact hM) (.inr ⟨N,by simp,hE⟩)
theorem JE.row {T:Tw}{ms:List Nat}{i:Nat}(h:JE T ms i (sz T)):JE T ms (i+1) 0:=
 ⟨h.nd,h.sub,h.one,fun j M y hj hM hy=>h.done j M y (by omega) hM hy⟩
theorem JE.fin {T:Tw}{ms:List Nat}(h:JE T ms ms.length 0):ZE T ms:=
 ⟨h.nd,fun K=>⟨h.sub K,fun hK=>all_in h.one h.sub (fun M hM x hx=>by
  obtain⟨j,hj⟩:=GM hM;exact h.done j M x (.inl (Ag.1 hj).1) hj hx) hK⟩⟩
theorem j5:Keyed Tryz.prog 71:=int_keyed (q:=.u64) Tryz.underlying71
theorem ADq (w:World):(zeroValue 4).run Tryz.prog w= .ok (.bool false) w:=by kernel_rfl
def Kq (w:World)(b n:Nat)(ms:List Nat):Prop:=∃D:DataW Unit,w.ownsMap Tryz.prog 71 (plainElem Tryz.prog 4) b n D∧IsMap D∧∀k:Nat,D.atKey (.int .u64 (k:Int)) (.lit (.bool false))= .lit (.bool (decide (k∈ms)))
theorem Kq.put {w':World}{b n q:Nat}{ms:List Nat}{D:DataW Unit}(h2:IsMap D)(h3:∀k:Nat,D.atKey (.int .u64 (k:Int)) (.lit (.bool false))= .lit (.bool (decide (k∈ms))))
  (h1:w'.ownsMap Tryz.prog 71 (plainElem Tryz.prog 4) b n (D.put (.int .u64 (q:Int)) (.lit (.bool true)))):Kq w' b n (ms++[q]):=by
 refine⟨_,h1,h2.put _ _,fun k=>?_⟩;by_cases e:k=q
 ·subst e;rw[atKey_put_same h2 (by trivial)];simp
 ·rw[atKey_put_other (by simp;omega),h3 k];simp[e]
theorem Kq.kept {w w':World}{b n:Nat}{ms:List Nat}(h:Kq w b n ms)(hb:w'.heap[b]?=w.heap[b]?):Kq w' b n ms:=by
 obtain⟨D,⟨es,clock,hh,r⟩,h2,h3⟩:=h;exact⟨D,⟨es,clock,hb.trans hh,r⟩,h2,h3⟩
theorem Kq.lt {w:World}{b n:Nat}{ms:List Nat}(h:Kq w b n ms):b<w.heap.size:=by
 obtain⟨D,h1,_⟩:=h;exact h1.lt
theorem Kq.ne {w:World}{b n m:Nat}{ms:List Nat}{B:Nat}{e:TypeId}{v:Value}{xs:List Value}(h:Kq w b n ms)(ho:w.ownsRow B e 1 v m xs):v.ownBlock≠some b:=by
 obtain⟨D,⟨es,clock,hh,r⟩,h2,h3⟩:=h;rcases ho.2 with⟨rfl,_⟩|⟨g,cap,cur,rfl,hb,hgg,_⟩
 ·simp[Value.ownBlock]
 ·intro e;simp only[Value.ownBlock,Eg]at e;subst e;rw[hh]at hgg;simp at hgg
theorem AFg:Keyed Tryz.prog 9:=string_keyed Tryz.underlying9
theorem keyOf_str (s:ByteArray)(h:s.size≤1000):∃kl,keyOf Tryz.prog 9 (.string s)=some kl:=⟨_,(keyOf_string Tryz.underlying9 _).trans (by simp only[mapKey,Tryz.underlying9];rw[Bo (by unfold maxLen;omega)])⟩
def UC (w:World)(b n:Nat):Prop:=∃D:DataW Unit,w.ownsMap Tryz.prog 9 (plainElem Tryz.prog 71) b n D
theorem UC.kept {w w':World}{b n:Nat}(h:UC w b n)(hb:w'.heap[b]?=w.heap[b]?):UC w' b n:=by
 obtain⟨D,es,clock,hh,r⟩:=h;exact⟨D,es,clock,hb.trans hh,r⟩
theorem UC.lt {w:World}{b n:Nat}(h:UC w b n):b<w.heap.size:=by
 obtain⟨D,h1⟩:=h;exact h1.lt
def Lm (T:Tw)(M k:Nat):List (List Nat):=((List.range k).filter fun c=>M.testBit c).map (at_ T)
theorem AJL {T:Tw}{M k:Nat}(h:M.testBit k=true):Lm T M (k+1)=Lm T M k++[at_ T k]:=by
 unfold Lm;rw[Pw,List.filter_append,Md];simp[h]
theorem AKX {T:Tw}{M k:Nat}(h:M.testBit k=false):Lm T M (k+1)=Lm T M k:=by
 unfold Lm;rw[Pw,List.filter_append,Md];simp[h]
theorem ACb {T:Tw}(hT:Wf T){M k:Nat}:∀x∈Lm T M k,El T x:=fun x hx=>by
 unfold Lm at hx;obtain⟨c,_,rfl⟩:=Cy.1 hx;exact D7 hT c
theorem AH8 {T:Tw}{im tl ws:List (List Nat)}(hT:Wf T)(hg:AB.Good T)(him:∀x∈im++ws,El T x)(h:Li T im tl []):Li T (im++ws) tl ws:=by
 have mono:∀y,Gen (mul T) (AB.one T) im y→Gen (mul T) (AB.one T) (im++ws) y:=fun y hy S h1 h2=>hy S h1 fun y c hy hc=>h2 y c hy (TM _ hc);refine⟨h.tb,fun d y hy=>mono y (h.tg d y hy),fun w hw=>Gen.of (BO hT hg) him (TK _ hw),fun t' he hw=>?_⟩;obtain⟨h1,h2,h3⟩:=h.ob t' he (fun w hw=>by simp at hw);refine⟨fun x hx=>?_,h2,h3⟩;rcases GY.1 hx with h4|h4
 ·exact h1 x h4
 ·exact hw x h4
theorem gZ {T:Tw}(hT:Wf T)(hg:AB.Good T)(hp:Er T)(h6:T.length≤6)(hz:sz T≤729){im us:List (List Nat)}(h:Dl T im us):U8.Ll T us:=by
 have hc:=(Ve hT hg hp h).1;have X:=Vl hT hg hp hc;obtain⟨t,t2,_,_,rfl⟩:=h;have h1:=iV t2 T.length 0;exact⟨by omega,TG hc,Ad (iQ hT hg X.wf X.em) hz⟩
def ZN (T:Tw)(ms:List Nat)(k:Nat)(us:List (List (List Nat))):Prop:=us.length=k∧∀(i M:Nat) (u:List (List Nat)),ms[i]?=some M→us[i]?=some u→Dl T (NR T M) u
theorem ZN.push {T:Tw}{ms:List Nat}{k M:Nat}{us:List (List (List Nat))}{u:List (List Nat)}(h:ZN T ms k us)(hM:ms[k]?=some M)(hu:Dl T (NR T M) u):ZN T ms (k+1) (us++[u]):=by
 refine⟨by simp[h.1],fun i M' v hM' hv=>?_⟩;rcases CP i us.length with hi|hi
 ·rw[EA hi]at hv;exact h.2 i M' v hM' hv
 ·rw[D9 hi]at hv;have hj:=(Ag.1 hv).1;simp at hj;obtain rfl:i=k:=by have:=h.1;omega
  rw[hM]at hM';cases hM';rw[h.1,Nf]at hv;simp at hv;subst hv;exact hu
structure Ib (B lb kb:Nat)(pv:Value)(W:World)(lv:Value)(us:List (List (List Nat)))(n:Nat):Prop where
 hl:W.heap[lb]?=some (.cells #[pv,lv,.slice none 0 0] 53)
 lt:lb<B∧kb<B∧lb≠kb
 rows:PO.Fa (fun W u x=>AP (fun k=>B≤k∧some k≠lv.ownBlock) W u (x.map ints)) 25 B W lv us
 mp:UC W kb n
theorem Ib.below {B lb kb n:Nat}{pv:Value}{W W':World}{lv:Value}{us:List (List (List Nat))}(h:Ib B lb kb pv W lv us n)(hb:Below W.heap.size W W'):Ib B lb kb pv W' lv us n:=by
 obtain⟨q,hq,_⟩:=h.rows;exact⟨(hb.block lb (Ba.1 h.hl).1).trans h.hl,h.lt,h.rows.keep (fun k hk=>hb.block k (Af hq k hk).2) (fun u x e=>AP.keep e (AA.of_below hb)),h.mp.kept (hb.block kb h.mp.lt)⟩
theorem Ib.key {B lb kb n:Nat}{pv:Value}{W W':World}{lv:Value}{us:List (List (List Nat))}(h:Ib B lb kb pv W lv us n)(hg:W.grownBy W' (some kb))(hm:UC W' kb (n+1)):Ib B lb kb pv W' lv us (n+1):=by
 obtain⟨q,hq,_⟩:=h.rows;have hlt:=h.lt;have hk:AA (fun k=>k≠kb) W W':=AA.grown hg fun k hk e=>hk (by injection e);exact⟨(hg.block lb (Ba.1 h.hl).1 (fun e=>hlt.2.2 (by injection e))).trans h.hl,h.lt,h.rows.keep (fun k hk'=>hk.block k (by have:=(Af hq k hk').1;omega) (Af hq k hk').2) (fun u x e=>AP.mono (AP.keep (S:=fun k=>B≤k∧some k≠lv.ownBlock) e (hk.mono fun k hk=>by have:=hk.1;omega)) (fun k hk=>hk)),hm⟩
theorem Ib.push {B lb kb n:Nat}{pv:Value}{W W2:World}{lv PV u:Value}{us:List (List (List Nat))}{Sk:List Value}{x:List (List Nat)}(h:Ib B lb kb pv W lv us n)(hG:PO.LD W W2 lv PV)
  (ES:Sk.length=us.length) (hr:∀(i:Nat) (x:List (List Nat)) (u:Value),us[i]?=some x→Sk[i]?=some u→AP (fun k=>B≤k∧some k≠lv.ownBlock) W u (x.map ints)) (hu:AP (fun k=>B≤k∧some k≠lv.ownBlock) W u (x.map ints))
  (ho:W2.ownsRow B 25 1 PV (us.length+1) (Sk++[u])):Ib B lb kb pv (W2.setCell ⟨lb,1,none⟩ PV) PV (us++[x]) n:=by
 obtain⟨q,hq,_⟩:=h.rows;have hlt:=h.lt;have hk:AA (fun k=>some k≠lv.ownBlock∧k≠lb) W (W2.setCell ⟨lb,1,none⟩ PV):=(hG.keep.mono (fun k hk=>hk.1)).setCell (fun hk=>hk.2 rfl) _;have hE:∀k,(B≤k∧some k≠lv.ownBlock)→k<W.heap.size→(B≤k∧some k≠PV.ownBlock)∧(some k≠lv.ownBlock∧k≠lb):=fun k h1 h2=>⟨⟨h1.1,fun e=>by
  rcases(hG.bk k e.symm).1 with h3|h3
  ·exact h1.2 h3.symm
  ·omega⟩,h1.2,by have:=h1.1;omega⟩
 have hn:∀k,k<B→lv.ownBlock≠some k:=fun k hk e=>by have:=(Af hq k e).1;omega
 have hrd:∀u (x:List (List Nat)),AP (fun k=>B≤k∧some k≠lv.ownBlock) W u (x.map ints)→AP (fun k=>B≤k∧some k≠PV.ownBlock) (W2.setCell ⟨lb,1,none⟩ PV) u (x.map ints):=fun u x e=>AP.mono (AP.keep (PO.YF e) (hk.mono (fun k hk=>(hE k hk.1 hk.2).2))) (fun k hk=>(hE k hk.1 hk.2).1);refine⟨?_,hlt,PO.Fa.push (E:=fun W u x=>AP (fun k=>B≤k∧some k≠lv.ownBlock) W u (x.map ints)) (W:=W) ES hr hrd (hrd _ _ hu) (PO.LK ho (fun k hk=>PO.X8 (by have:=(Af ho k hk).1;omega))),h.mp.kept ?_⟩
 ·have h2:W2.heap[lb]?=some (.cells #[pv,lv,.slice none 0 0] 53):=(hG.gr.block lb (Ba.1 h.hl).1 (fun e=>hn lb hlt.1 e.symm)).trans h.hl;rw[GV _ _ _ _ _ _ h2];rfl
 ·exact hk.block kb ⟨fun e=>hn kb hlt.2.1 e.symm,fun e=>hlt.2.2 e.symm⟩ h.mp.lt
theorem Ib.cell {B lb kb n:Nat}{pv:Value}{W:World}{lv:Value}{us:List (List (List Nat))}(h:Ib B lb kb pv W lv us n):W.cell? ⟨lb,0,none⟩=some pv∧W.cell? ⟨lb,1,none⟩=some lv∧W.cell? ⟨lb,2,none⟩=some (.slice none 0 0)∧lb<W.heap.size∧(∀o,W.frozen? ⟨lb,o,none⟩=false):=by
 refine⟨?_,?_,?_,(Ba.1 h.hl).1,fun o=>by simp[World.frozen?,h.hl]⟩<;>(rw[Ah _ _ _ _ _ (0,0) h.hl];rfl)
theorem Ib.grown {B lb kb n:Nat}{pv:Value}{W W2:World}{lv PV:Value}{us:List (List (List Nat))}(h:Ib B lb kb pv W lv us n)(hG:PO.LD W W2 lv PV):W2.cell? ⟨lb,1,none⟩=some lv∧lb<W2.heap.size∧(∀o,W2.frozen? ⟨lb,o,none⟩=false):=by
 obtain⟨q,hq,_⟩:=h.rows;have h2:W2.heap[lb]?=some (.cells #[pv,lv,.slice none 0 0] 53):=(hG.gr.block lb (Ba.1 h.hl).1 (fun e=>by have:=(Af hq lb e.symm).1;have:=h.lt;omega)).trans h.hl;refine⟨?_,(Ba.1 h2).1,fun o=>by simp[World.frozen?,h2]⟩;rw[Ah _ _ _ _ _ (0,0) h2];rfl
theorem Nu {S:Nat→Prop}{w:World}{u:Value}{x:List Int}{t:TypeId}(hu:AL S w u x)(hS:S w.heap.size):AP S (w.alloc (.cells #[u] t)) (.slice (some ⟨w.heap.size,0,none⟩) 1 1) [x]:=by
 refine⟨_,_,rfl,by simp,by unfold maxLen;simp,by simp,fun i y hy=>?_⟩
 match i,hy with
 |0,hy=>
  simp at hy;subst hy;exact⟨w.heap.size,0,rfl,hS,by simp,u,by rw[Ah _ _ _ _ _ (0,0) (BA w _)];rfl,hu.keep (AJ.alloc _)⟩
theorem AKY {α:Type}{E:World→Value→α→Prop}{S:Nat→Prop}{w:World}{v:Value}{l:List α}(h:Aq E S w v l):Aq E (fun k=>S k∧k<w.heap.size) w v l:=by
 obtain⟨ao,c,h1,h2,h3,h0,h4⟩:=h;exact⟨ao,c,h1,h2,h3,h0,fun i x hx=>by obtain⟨b,o,e1,e2,e3,u,e4,e5⟩:=h4 i x hx;exact⟨b,o,e1,⟨e2,e3⟩,e3,u,e4,e5⟩⟩
theorem AKZ {α β:Type}{E:World→Value→β→Prop}{f:α→β}{S:Nat→Prop}{w:World}{v:Value}{l:List α}(h:Aq (fun w u x=>E w u (f x)) S w v l):Aq E S w v (l.map f):=by
 obtain⟨ao,c,h1,h2,h3,h0,h4⟩:=h;refine⟨ao,c,by rw[Bh];exact h1,by rw[Bh];exact h2,h3,h0,fun i x hx=>?_⟩;rw[Bn,II]at hx;obtain⟨y,hy,rfl⟩:=hx;exact h4 i y hy
theorem AN3 {wy Sl OT:World}{ob:Obj}{lb:Nat}{pv lv mv:Value}(hb:Below wy.heap.size wy Sl)(hg:(Sl.alloc ob).grownBy OT mv.ownBlock)(hne:mv.ownBlock≠some lb)(hl:wy.heap[lb]?=some (.cells #[pv,lv,mv] 53)):
  OT.heap[lb]?=some (.cells #[pv,lv,mv] 53)∧OT.cell? ⟨lb,2,none⟩=some mv∧OT.frozen? ⟨lb,2,none⟩=false∧lb<OT.heap.size:=by
 have hlt:=(Ba.1 hl).1;have hs:=hb.size;have h2:OT.heap[lb]?=some (.cells #[pv,lv,mv] 53):=by
  rw[hg.block lb (by simp;omega) (fun e=>hne e.symm),KD _ _ (by omega),hb.block lb hlt];exact hl
 refine⟨h2,?_,by simp[World.frozen?,h2],(Ba.1 h2).1⟩;rw[Ah _ _ _ _ _ (0,0) h2];rfl
end Go.Proofs.YtaadbccidfdniaaGreat.Xe
namespace Go.Proofs.YtaadbccidfdniaaGreat.nJ
open Go.RowKit Go.Maps Go.Proofs.YtaadbccidfdniaaGreat AB Val Ct Gen Cu Gt EZ CU KS FZ LX Mf PM Ql mW NQ I9 ML U4 SQ PO Xe
open Go.Proofs.YtaadbccidfdniaaGreat.Dr (Any)
theorem AKa:(Tryz.prog.info? 71).map (fun i=>(i.zero,i.size,i.bytes))=some (some (.int .u64 0),1,8):=by kernel_rfl
theorem ALy (w:World):(zeroValue 71).run Tryz.prog w= .ok (.int .u64 0) w:=by kernel_rfl
def AFh (T:Tw)(w:World)(v:Value):Prop:=∃(lb:Nat) (lv:Value) (L us:List (List (List Nat))) (ms:List Nat),v= .pointer (some ⟨lb,0,none⟩)∧lb<w.heap.size∧w.cell? ⟨lb,1,none⟩=some lv∧GA Any w lv (L.map fun l=>l.map ints)∧ZE T ms∧Ko T ms us∧L.Perm us∧L.length≤4294967296
def j6 (P:Bu)(w:World)(e:Ending)(w':World):Prop:=∃v k,e= .returned (.tuple #[v,.int .i64 k])∧Below w.heap.size w w'∧
 ((v= .pointer none∧k=1∧¬Bb P)∨∃T,P=AQ T∧Bb P∧((v= .pointer none∧k=3∧32<sz T)∨(k=0∧sz T≤32∧AFh T w' v)))
theorem AAa (w:World)(b o:Nat)(P:Bu)(hP:BN Any w b o P):
  Calls Tryz.prog 18 #[.pointer (some ⟨b,o,none⟩)] w (j6 P w):=by
 obtain⟨iU,hiU,AFi,AFj,AFk⟩:=Bt AKa;obtain⟨i3,hi3,zC,Wn,zD⟩:=Bt TF;have HP:=hid hP;obtain⟨W0,hW0⟩:∃W0,W0=w.alloc (.cells #[.pointer (some ⟨b,o,none⟩)] 47):=⟨_,rfl⟩;have HB0:=hid (show Below w.heap.size w W0 by rw[hW0];exact AX.alloc AR _);have hs0:W0.heap.size=w.heap.size+1:=by rw[hW0];simp
 have hc0:W0.cell? ⟨w.heap.size,0,none⟩=some (.pointer (some ⟨b,o,none⟩)):=by rw[hW0,Ah _ _ _ _ _ (0,0) (BA w _)];rfl
 have HC0:=hid hc0;have HP0:=hid (hP.keep (AA.of_below HB0.out));obtain⟨_,hpl,vO,vP,vC,p0,p1,p2,Sb⟩:=HP0.out;have Sc:=hid Sb;have HG:=hid (fun W a b c P h=>Yj.Su W a b c P h);clear hP Sb;go_enter Tryz.func18,Tryz.ntmps18;go_upto_region 1 with fail;rw[←hW0];clear hW0;go_wp2_with fail;refine(HG.out _ _ _ _ _ Sc.out).mono ?_;rintro e w1 ⟨r,rfl,hr,hb1⟩;have HB1:=hid (HB0.out.trans (hb1.mono (show w.heap.size≤W0.heap.size by omega)));have Hy:=hid ((hb1.cell (p:=⟨w.heap.size,0,none⟩) (show w.heap.size<W0.heap.size by omega)).trans HC0.out);have hs1:w.heap.size+1≤w1.heap.size:=by have:=hb1.size;omega
 by_cases Es:Bb P
 ·obtain rfl:r=true:=hr.2 Es;have Fu:=hid Es;obtain⟨T,hT,CK,rfl,WV,BH⟩:=Es;have LY:sz T≤729:=fB WV;have hpr:Er T:=fun L hL=>by
   have:=WV.pr (L.o:Int) (Cy.2 ⟨L,hL,rfl⟩);simp[CL]at this;omega
  have Qm:=hid (fun W (h:Below w.heap.size w W)=>(HP.out.keep (S:=Any) (AA.of_below h)));have L9:=hid (fun W (h:Below w.heap.size w W)=>JV.LJ T hT CK.1 LY W b o (Qm.out W h));have Si:=hid (fun W (h:Below w.heap.size w W)=>AA4 T hT CK BH LY W b o (Qm.out W h));have HT:=hid hT;have HS:=hid CK;have Sm:=hid BH;have Bw:=hid hpr;have x1:=Hy.out;clear hr hb1 p0 p1 p2 hpl WV hT CK BH hpr Sc HG hc0 hs0;go_wp2_with fail;refine(L9.out _ HB1.out).mono ?_;rintro e w2 ⟨rfl,hb2⟩;have HB2:=hid (HB1.out.trans (hb2.mono HB1.out.size));have KI:=hid ((hb2.cell (p:=⟨w.heap.size,0,none⟩) (show w.heap.size<w1.heap.size by omega)).trans Hy.out);have hs2:w.heap.size+1≤w2.heap.size:=by have:=hb2.size;omega
  by_cases h32:32<sz T
  ·have hd:decide ((sz T:Int)>32)=true:=by simp;omega
   have HR:=hid (show j6 (AQ T) w (.returned (.tuple #[.pointer none,.int .i64 3])) w2 from⟨_,_,rfl,HB2.out,.inr ⟨T,rfl,Fu.out,.inl ⟨rfl,rfl,h32⟩⟩⟩);clear hb2 h32 x1;go_wp2_with fail;exact Aj (v:=.tuple #[.pointer none,.int .i64 3]) (by simp[results,Tryz.results18,go_sem]) rfl HR.out
  ·have hd:decide ((sz T:Int)>32)=false:=by simp;omega
   have hz:sz T≤32:=by omega
   have x2:=KI.out;clear hb2 h32 x1;go_wp2_with fail;refine(Si.out _ HB2.out).mono ?_;rintro e w3 ⟨vt,rfl,ho3,hb3⟩;have HB3:=hid (HB2.out.trans (hb3.mono HB2.out.size));have UW:=hid ((hb3.cell (p:=⟨w.heap.size,0,none⟩) (show w.heap.size<w2.heap.size by omega)).trans KI.out);have hs3:w.heap.size+1≤w3.heap.size:=by have:=hb3.size;omega
   have Eu:=hid (ho3.sl.mono (S':=Any) (fun _ _=>trivial));obtain⟨aT,cT,rfl,nA,_⟩:=Aq.form Eu.out;rw[Bh,Xq]at Eu nA ⊢;clear ho3 hb3 L9 Si x2;have hmm:= @run_makeMap Tryz.prog;go_upto_region 7 with fail;obtain⟨w4,hw4⟩:∃w4,w4=w3.alloc (.cells #[.int .u64 1] 71):=⟨_,rfl⟩;rw[←hw4];have hs4:w4.heap.size=w3.heap.size+1:=by rw[hw4];simp
   have hO4:w4.ownsRow w3.heap.size 71 1 (.slice (some ⟨w3.heap.size,0,none⟩) 1 1) 1 [.int .u64 1]:=by
    rw[hw4];exact Nq (base:=w3.heap.size) (e:=71) (size:=1) w3 #[.int .u64 1] 1 AR (by unfold maxLen;omega) rfl
   have hB4:Below w3.heap.size w3 w4:=by rw[hw4];exact AX.alloc AR _
   clear hw4;have hm0:(w4.alloc (.map #[] 0)).ownsMap Tryz.prog 71 (plainElem (H:=Unit) Tryz.prog 4) w4.heap.size 0 (.map []):=World.ownsMap_made _ _ _ _;have hBm:Below w3.heap.size w3 (w4.alloc (.map #[] 0)):=hB4.alloc (by omega) _;have zQ:=hO4.alloc (.map #[] 0);rw[hs4]at hm0;go_wp2_with (refine AGm _ rfl _ _ _ 72 rfl 71 4 j5 Tryz.underlying72 (plainElem Tryz.prog 4) (w3.heap.size+1) 0 (.map []) rfl hm0 (by decide) _ _ (.int .u64 1) rfl rfl (keyOf_int_mk Tryz.underlying71 rfl) (.lit (.bool true)) [] (plainElem_bool Tryz.underlying4 true) ?_);intro w5 hm5 rY;have HM5:=hid (show Kq w5 (w3.heap.size+1) 1 [1] from Kq.put (ms:=[]) isMap_empty (fun k=>rfl) hm5);have Ch:=hid (show w5.ownsRow w3.heap.size 71 1 (.slice (some ⟨w3.heap.size,0,none⟩) 1 1) [1].length ([1].map fun M:Nat=>Value.int .u64 (M:Int)) from LK zQ (fun k hk=>rY.block k (Af zQ k hk).2 (by
    simp only[Value.ownBlock,Eg]at hk;subst hk;simp)))
   have Aa:=hid (show Below w3.heap.size w3 w5 from hBm.grown rY (by have:=hBm.size;exact this) (fun g hg=>by cases hg;omega));have N9:=hid (JE.start HT.out Sm.out);obtain⟨BG,hBG⟩:∃BG:Nat,BG=4294967296:=⟨_,rfl⟩;have Jh:=hid hBG;clear hBG hm5 rY hm0 zQ hBm hO4 hB4 hs4 hmm;go_wp2_with fail;go_loopw [5,7] (fun mv iv wr=>∃(i l:Nat) (ms:List Nat) (am:Option Addr) (cm:Nat),mv= .slice am l cm∧iv= .int .i64 (i:Int)∧i≤l∧l≤BG∧Hid (ms.length=l)∧Hid (JE T ms i 0)∧Hid (wr.ownsRow w3.heap.size 71 1 (.slice am l cm) l (ms.map fun M:Nat=>Value.int .u64 (M:Int)))∧Hid (Kq wr (w3.heap.size+1) l ms)∧Hid (Below w3.heap.size w3 wr)) (fun _ iv _=>BG-(intOf iv).toNat);case atStart=>exact⟨0,1,[1],_,_,rfl,rfl,by omega,by have:=Jh.out;omega,hid rfl,N9,Ch,HM5,Aa⟩
   case round=>
    obtain⟨i,l,ms,am,cm,rfl,rfl,hil,hlB,OU,OV,hO,hM,hB⟩:=hrel;clear HM5 Ch Aa N9;have hl63:(l:Int)≤4294967296:=by have:=Jh.out;omega
    have AN4:=hid hl63;have ALz:(l:Int)≤9223372036854775806:=by omega
    clear hl63;by_cases hlt:i<l
    ·have hd1:decide ((i:Int)<(l:Int))=true:=by simp;omega
     have Jp:=hid hlt;have Jl:=hid hlB;go_wp2_with fail;go_loopw [5,40] (fun mv xv wr=>∃(x l:Nat) (ms:List Nat) (am:Option Addr) (cm:Nat),mv= .slice am l cm∧xv= .int .i64 (x:Int)∧x≤sz T∧i<l∧l≤BG∧Hid (ms.length=l)∧Hid (JE T ms i x)∧Hid (wr.ownsRow w3.heap.size 71 1 (.slice am l cm) l (ms.map fun M:Nat=>Value.int .u64 (M:Int)))∧Hid (Kq wr (w3.heap.size+1) l ms)∧Hid (Below w3.heap.size w3 wr)) (fun _ xv _=>sz T-(intOf xv).toNat);case atStart=>exact⟨0,l,ms,_,_,rfl,rfl,AU _,Jp.out,Jl.out,OU,OV,hO,hM,hB⟩
     case round=>
      clear OU OV hO hM hB Jp Jl hlt hil hlB hd1 ALz AN4;obtain⟨x,l,ms,am,cm,rfl,rfl,hx,hil,hlB,OU,OV,hO,hM,hB⟩:=hrel;have Jl:=hid hlB;have hl63:(l:Int)≤9223372036854775806:=by have:=Jh.out;omega
      by_cases hxs:x<sz T
      ·obtain⟨M,nK⟩:∃M,ms[i]?=some M:=⟨_,AO (by rw[OU.out];exact hil)⟩;obtain⟨g,rfl⟩:∃g,am=some ⟨g,0,none⟩:=by
        rcases hO.out.2 with⟨_,h0⟩|⟨g,cap,cur,e,_⟩
        ·omega
        ·simp only[EY]at e;exact⟨g,e.1⟩
       have Wl:wr.cell? ⟨g,i,none⟩=some (.int .u64 (M:Int)):=by
        rw[Ig hO.out i (by omega),Bn,nK];rfl
       have uT:=(Af hO.out g rfl).2;have zR:=hid nK;have FB:=hid (OV.out.sub M (Ak nK));have AN5:=hid (FB.out.lt hz);have h1:=Mask.test_eq M x (by omega) AN5.out;have hii:(i:Int)<(l:Int):=by omega
       have hi0:(0:Int)≤(i:Int):=by omega
       have hd2:decide ((x:Int)<(sz T:Int))=true:=by simp;omega
       have KT:=hid hxs;clear nK hxs;cases hb:M.testBit x with
       |true=>
        have HN:=hid (OV.out.yes zR.out (.inl hb));rw[hb]at h1;clear hb;go_wp2_with fail;go_roundw;case rel=>exact⟨x+1,l,ms,_,_,rfl,by go_num,KT.out,hil,Jl.out,OU,HN,hO,hM,hB⟩
        case measure=>have:=KT.out;simp[intOf];omega
       |false=>
        rw[hb]at h1;have aZ:=hid (CcG.AJI T HT.out hz wr (.slice aT (sz T) cT) (Eu.out.keep (AA.of_below hB.out)) M x FB.out KT.out);clear hb;go_wp2_with fail;refine aZ.out.mono ?_;rintro e w6 ⟨N,rfl,hE,rfl⟩;have HE:=hid hE;have MP:=hid (hE.sub.lt hz);obtain⟨D,hD1,hD2,hD3⟩:=hM.out;have Xf:=hD3 N;by_cases hN:N∈ms
        ·rw[IK hN]at Xf;have zS:=hid Xf;have HN:=hid (OV.out.yes zR.out (.inr ⟨N,hN,hE⟩));clear hE hN Xf hD3 hD2 aZ;go_wp2_with (at_lookup;refine zz _ rfl _ _ 72 rfl 71 4 j5 Tryz.underlying72 Tryz.underlying4 (ADq _) (w3.heap.size+1) l D rfl hD1 _ _ rfl (keyOf_int_mk Tryz.underlying71 (WalkArith.wf_u64 (by have:=MP.out;omega))) ?_;intro c hat;obtain rfl:c=true:=(by have h:=zS.out;rw[h]at hat;simpa using hat.symm));go_roundw;case rel=>exact⟨x+1,l,ms,_,_,rfl,by go_num,KT.out,hil,Jl.out,OU,HN,hO,hM,hB⟩
         case measure=>have:=KT.out;simp[intOf];omega
        ·rw[GX hN]at Xf;have zS:=hid Xf;have HND:=hid (And.intro hD2 hD3);have Iy:=hid hN;have HN:=hid (OV.out.new zR.out hE hN);have OW:=hO.out;have hne:=hM.out.ne OW;clear hE hN Xf hD3 hD2 aZ;go_upto_region 18 with(first|(at_lookup;refine zz _ rfl _ _ 72 rfl 71 4 j5 Tryz.underlying72 Tryz.underlying4 (ADq _) (w3.heap.size+1) l D rfl hD1 _ _ rfl (keyOf_int_mk Tryz.underlying71 (WalkArith.wf_u64 (by have:=MP.out;omega))) ?_;intro c hat;obtain rfl:c=false:=(by have h:=zS.out;rw[h]at hat;simpa using hat.symm))|(at_mapUpdate;refine wpList_mapUpdate_own _ rfl _ _ _ 72 rfl 71 4 j5 Tryz.underlying72 _ (w3.heap.size+1) l D rfl hD1 (by have:=Jl.out;have:=Jh.out;unfold maxLen;omega) _ _ _ rfl rfl (keyOf_int_mk Tryz.underlying71 (WalkArith.wf_u64 (by have:=MP.out;omega))) _ [] (plainElem_bool Tryz.underlying4 true) ?_;intro w7 ADr rZ));have XJ:=hid (Kq.put HND.out.1 HND.out.2 ADr);have U9:=LK OW (fun k hk=>rZ.block k (Af OW k hk).2 (fun e=>hne (by rw[hk];exact e)));have BB:=hid (show Below w3.heap.size w3 w7 from hB.out.grown rZ hB.out.size (fun g hg=>by cases hg;omega));have hs7:w3.heap.size≤w7.heap.size:=BB.out.size;have AFl:=XJ.out.ne U9;have h1:=U9.alloc (.cells #[.int .u64 (N:Int)] 71);have AFm:l≤4294967296:=by have:=Jl.out;have:=Jh.out;omega
         have O4:=hid AFm;clear ADr rZ hD1 OW hne hO hM hB AFm Wl uT;go_wp2_with (at_builtin;(refine GQ _ rfl _ _ 51 rfl w3.heap.size 71 iU (.int .u64 0) 1 8 Tryz.underlying51 hiU AFi AFj AFk rfl (by decide) _ _ _ rfl h1 ⟨w7.heap.size,0,none⟩ 1 1 [.int .u64 (N:Int)] rfl rfl ?c1 ?c2 (by decide) ?c3 ?c4 ?c5 _ rfl ?_));case c1=>
          intro j u hj
          match j,hj with
          |0,hj=>simp at hj;subst hj;simp[Addr.add]
         case c2=>intro u hu;simp at hu;subst hu;rfl
         case c3=>have:=O4.out;unfold maxLen;omega
         case c4=>have:=O4.out;omega
         case c5=>simp;omega
         intro g9 c9 w9 ADs rq AN6 AN7;have HM9:=hid (XJ.out.kept (w':=w9) ((rq.block _ (by have:=XJ.out.lt;simp;omega) (fun e=>AFl e.symm)).trans (KD _ _ (XJ.out.lt))));have HO9:=hid (show w9.ownsRow w3.heap.size 71 1 (.slice (some ⟨g9,0,none⟩) (l+1) c9) (l+1) ((ms++[N]).map fun M:Nat=>Value.int .u64 (M:Int)) from by rw[Md];exact ADs);have Gy:=hid (show Below w3.heap.size w3 w9 from(BB.out.alloc hs7 _).grown rq (by simp;omega) (fun g hg=>(Af h1 g hg).1));have AFn:=hid (show(ms++[N]).length=l+1 by simp[OU.out]);have AN8:=hid (show l+1≤BG from by have h:=AI7 hz HN.out.nd HN.out.sub;rw[AFn.out]at h;rw[Jh.out];exact h);clear h1 ADs rq AN6 AN7 AFl U9 hs7;go_wp2_with fail;go_roundw;case rel=>exact⟨x+1,l+1,ms++[N],_,_,rfl,by go_num,KT.out,by omega,AN8.out,AFn,HN,HO9,HM9,Gy⟩
         case measure=>have:=KT.out;simp[intOf];omega
      ·obtain rfl:x=sz T:=by omega
       have hd2:decide ((sz T:Int)<(sz T:Int))=false:=by simp
       have HN:=hid OV.out.row;have Jl:=hid hlB;have Jp:=hid hil;have XG:=hid (show i<BG by omega);have AQK:(i:Int)+1≤9223372036854775807:=by omega
       clear OV;go_wp2_with fail;go_roundw;case rel=>exact⟨i+1,l,ms,_,_,rfl,by go_num,Jp.out,Jl.out,OU,HN,hO,hM,hB⟩
       case measure=>have:=XG.out;simp[intOf];omega
    ·obtain rfl:i=l:=by omega
     have hd1:decide ((i:Int)<(i:Int))=false:=by simp
     have PD:=hid (show ZE T ms from by have h:=OV.out;rw[←OU.out]at h;exact h.fin);have O4:=hid (show i≤4294967296 by have:=Jh.out;omega);have kC:=hid (show ms.length=i from OU.out);have HRW:=hid hO.out;have Ar:=hid hB.out;have xr:wr.cell? ⟨w.heap.size,0,none⟩=some (.pointer (some ⟨b,o,none⟩)):=(hB.out.cell (p:=⟨w.heap.size,0,none⟩) (show w.heap.size<w3.heap.size by omega)).trans UW.out;have hs6:w3.heap.size≤wr.heap.size:=hB.out.size;have hmm:= @run_makeMap Tryz.prog;clear OV hlB hlt hil hM hO hB OU;go_upto_region 22 with fail;obtain⟨w6,OB⟩:∃w6,w6=(wr.alloc (.cells #[.pointer (some ⟨b,o,none⟩),.slice none 0 0,.slice none 0 0] 53)).alloc (.map #[] 0):=⟨_,rfl⟩;rw[←OB];have hs7:w6.heap.size=wr.heap.size+2:=by rw[OB];simp
     have WW:=hid (show Below wr.heap.size wr w6 by rw[OB];exact(AX.alloc AR _).alloc (by simp) _);have hm0:w6.ownsMap Tryz.prog 9 (plainElem (H:=Unit) Tryz.prog 71) (wr.heap.size+1) 0 (.map []):=by
      have h:((wr.alloc (.cells #[.pointer (some ⟨b,o,none⟩),.slice none 0 0,.slice none 0 0] 53)).alloc (.map #[] 0)).ownsMap Tryz.prog 9 (plainElem (H:=Unit) Tryz.prog 71) (wr.alloc (.cells #[.pointer (some ⟨b,o,none⟩),.slice none 0 0,.slice none 0 0] 53)).heap.size 0 (.map []):=World.ownsMap_made _ _ _ _;rw[←OB]at h;simpa using h
     have Ui:=hid (show Ib (wr.heap.size+2) wr.heap.size (wr.heap.size+1) (.pointer (some ⟨b,o,none⟩)) w6 (.slice none 0 0) [] 0 from
      ⟨by rw[OB,KD _ _ (by simp)];exact BA wr _,⟨by omega,by omega,by omega⟩,Fa.nil,⟨_,hm0⟩⟩)
     have Rp:=hid (show ZN T ms 0 [] from⟨rfl,fun i M u _ h=>by simp at h⟩);clear OB hm0 hmm;obtain⟨lb,hlb⟩:∃lb,wr.heap.size=lb:=⟨_,rfl⟩;simp only[hlb]at Ui WW hs7 hs6 ⊢;have Jl:=hid hlb;clear hlb;have AFo:=hid (show Below w.heap.size w w6 from(HB3.out.trans (Ar.out.mono (by omega))).trans (WW.out.mono (by omega)));have Jn:=hid (show w6.cell? ⟨w.heap.size,0,none⟩=some (.pointer (some ⟨b,o,none⟩)) from(WW.out.cell (p:=⟨w.heap.size,0,none⟩) (show w.heap.size<lb by omega)).trans xr);have AQL:=hid ((Eu.out.keep (AA.of_below Ar.out)).keep (S:=Any) (AA.below WW.out (fun k _ h=>by have:=Jl.out;omega)));have nM:=hid (show∀(k M:Nat),ms[k]?=some M→∃g,am=some ⟨g,0,none⟩∧g<lb∧w6.cell? ⟨g,k,none⟩=some (.int .u64 (M:Int)) from fun k M hk=>by
      have hkl:=(Ag.1 hk).1;rw[kC.out]at hkl;rcases HRW.out.2 with⟨_,h0⟩|⟨g,cap,cur,e,_⟩
      ·omega
      ·simp only[EY]at e;have hgl:=(Af HRW.out g (by rw[e.1];rfl)).2;rw[Jl.out]at hgl;refine⟨g,e.1,hgl,(WW.out.cell (p:=⟨g,k,none⟩) hgl).trans ?_⟩;have hrw:=HRW.out;rw[e.1]at hrw;rw[Ig hrw k (by omega),Bn,hk];rfl)
     clear xr Hy KI UW HB1 HB2 HC0 HB0 Ar HRW WW Eu;go_wp2_with fail;go_loopw [75] (fun kv wr=>∃(k:Nat) (lv:Value) (us:List (List (List Nat))),k≤i∧kv= .int .i64 (k:Int)∧Hid (ZN T ms k us)∧Hid (Ib (lb+2) lb (lb+1) (.pointer (some ⟨b,o,none⟩)) wr lv us k)∧Hid (Below lb w6 wr)) (fun kv _=>i-(intOf kv).toNat);case atStart=>exact⟨0,_,[],AU _,rfl,Rp,Ui,hid AX⟩
     case round=>
      clear Rp Ui;rename World=>wx;obtain⟨k,lv,us,hk,rfl,Xg,dO,hB⟩:=hrel;have VA:=hid (show Below w.heap.size w wx from AFo.out.trans (hB.out.mono (by omega)));have hsl:lb+2≤wx.heap.size:=by have:=hB.out.size;omega
      by_cases hki:k<i
      ·obtain⟨M,nN⟩:∃M,ms[k]?=some M:=⟨_,AO (by rw[kC.out];exact hki)⟩;obtain⟨g,rfl,hgl,hcg⟩:=nM.out k M nN;have AN9:wx.cell? ⟨g,k,none⟩=some (.int .u64 (M:Int)):=(hB.out.cell (p:=⟨g,k,none⟩) hgl).trans hcg;have AOA:g<wx.heap.size:=by omega
       have xr:wx.cell? ⟨w.heap.size,0,none⟩=some (.pointer (some ⟨b,o,none⟩)):=(hB.out.cell (p:=⟨w.heap.size,0,none⟩) (show w.heap.size<lb by omega)).trans Jn.out;have FB:=hid ((PD.out.2 M).1 (Ak nN));have HMl:=hid (FB.out.lt hz);have HMK:=hid nN;have N7:=hid (AAh T HS.out.1 wx b o (Qm.out wx VA.out));have hd1:decide ((k:Int)<(i:Int))=true:=by simp;omega
       have AQM:(k:Int)<(i:Int):=by omega
       have hk0:(0:Int)≤(k:Int):=by omega
       have HKI:=hid hki;clear nN hcg hki;go_wp2_with fail;refine N7.out.mono ?_;rintro e w9 ⟨sb,gb,rfl,hgb,hsb,Qf,EG⟩;have HQ9:=hid Qf;have Gy:=hid EG;have lY:=hid hgb;have AQN:=hid hsb;have XG:=hid (show Li T (Lm T M 0) (List.replicate T.length []) [] from by
        unfold Li;rw[VF,show Lm T M 0=[] from rfl];exact JZ.start (Em HT.out Sm.out) (im:=[]) (fun c hc=>absurd hc (by simp)))
       have MB:wx.heap.size≤w9.heap.size:=EG.size;clear Qf EG hgb hsb N7 AN9 AOA hgl xr;have AOB:=hid (dO.out.below Gy.out);have AFp:=hid (show Below lb w6 w9 from hB.out.trans (Gy.out.mono (by omega)));go_wp2_with fail;go_loopw [83] (fun xv wr=>∃(x:Nat) (tl:List (List Nat)),x≤sz T∧xv= .int .i64 (x:Int)∧Hid (EK wr b o sb gb (fun k=>k≠gb) T.length tl)∧Hid (Li T (Lm T M x) tl [])∧Hid (w9.grownBy wr (some gb))) (fun xv _=>sz T-(intOf xv).toNat);case atStart=>exact⟨0,_,AU _,rfl,HQ9,XG,hid (Gp.dz _ _)⟩
       case round=>
        clear HQ9 XG;obtain⟨x,tl,hx,rfl,hQ,nO,Js⟩:=hrel;have NI:Below wx.heap.size w9 wr:=AX.grown Js.out MB (by intro k hk;cases hk;exact lY.out);have OD:=hid NI;have WX:=hid (show Below w.heap.size w wr from(VA.out.trans (Gy.out.mono VA.out.size)).trans (NI.mono VA.out.size));by_cases hxs:x<sz T
        ·have h1:=Mask.test_eq M x (by omega) HMl.out;have hd2:decide ((x:Int)<(sz T:Int))=true:=by simp;omega
         have KT:=hid hxs;clear hxs;cases hb:M.testBit x with
         |false=>
          have HN:=hid (show Li T (Lm T M (x+1)) tl [] from by rw[AKX hb];exact nO.out);rw[hb]at h1;clear hb NI;go_wp2_with fail;go_roundw;case rel=>exact⟨x+1,tl,KT.out,by go_num,hQ,HN,Js⟩
          case measure=>have:=KT.out;simp[intOf];omega
         |true=>
          have IY:=hid (AJL (T:=T) hb);rw[hb]at h1;have xr:wr.cell? ⟨w.heap.size,0,none⟩=some (.pointer (some ⟨b,o,none⟩)):=((AFp.out.trans (NI.mono (by omega))).cell (p:=⟨w.heap.size,0,none⟩) (show w.heap.size<lb by omega)).trans Jn.out;have HAT:=hid ((JV.MZ T HT.out HS.out.1 LY x (by omega) wr b o (Qm.out wr WX.out)).mono fun e w' h=>(Ja.of h (VK T x):Ja T.length (at_ T x) wr e w'));have hsc:w9.heap.size≤wr.heap.size:=Js.out.size;clear hb NI;go_wp2_with fail;refine HAT.out.mono ?_;rintro e Bj ⟨g10,c10,rfl,jc,Bp⟩;have Dt:=hid Bp;have AQO:gb<wr.heap.size:=hQ.out.tb.lt;obtain⟨Hz,Rb⟩:∃Hz,Hz=Bj.alloc (.cells #[.slice (some ⟨g10,0,none⟩) T.length c10] 24):=⟨_,rfl⟩;have AFq:wr.heap.size≤Bj.heap.size:=Bp.size;have kD:Below Bj.heap.size Bj Hz:=by rw[Rb];exact AX.alloc AR _
          have AOC:=hid (show AP (fun k=>k≠gb) Hz (.slice (some ⟨Bj.heap.size,0,none⟩) 1 1) ([at_ T x].map ints) from by
           rw[Rb];exact Nu (jc.sl.mono (fun k hk=>by omega)) (by show Bj.heap.size≠gb;omega))
          have AOD:=hid ((hQ.out.below Bp).below kD);have WT:=hid (show Below w.heap.size w Hz from(WX.out.trans (Bp.mono WX.out.size)).trans (kD.mono (Ad WX.out.size AFq)));have IP:=hid (show BN (fun k=>k≠gb) Hz b o (AQ T) from(((FY.Ph HP.out).keep (AA.of_below WT.out)).mono (fun k hk=>by have:=lY.out;have:=VA.out.size;omega)));have HAD:=hid (ABm T HT.out HS.out Sm.out Bw.out Hz b o sb gb (.slice (some ⟨Bj.heap.size,0,none⟩) 1 1) (Lm T M (x+1)) [at_ T x] tl IP.out AOD.out AOC.out (ACb HT.out) (by rw[IY.out];exact AH8 HT.out Sm.out (by rw[←IY.out];exact ACb HT.out) nO.out) (by simp));have ZK:=hid (show Below wr.heap.size wr Hz from Bp.trans (kD.mono AFq));clear jc Bp kD HAT;go_wp2_with fail;rw[←Rb];clear Rb;refine HAD.out.mono ?_;rintro e XY ⟨bl,tl2,rfl,hl12,hq12,AFr⟩;have AOE:=hid hq12;have AOF:=hid hl12;have AOG:=hid (Gp.JJ (Gp.JJ Js.out (Gp.Xo ZK.out)) AFr);clear hl12 hq12 AFr HAD;go_wp2_with fail;go_roundw;case rel=>exact⟨x+1,tl2,KT.out,by go_num,AOE,AOF,AOG⟩
          case measure=>have:=KT.out;simp[intOf];omega
        ·obtain rfl:x=sz T:=by omega
         have hd2:decide ((sz T:Int)<(sz T:Int))=false:=by simp
         have Jt:=hid (yx.ABo T HT.out HS.out Sm.out (NR T M) tl (fun k=>k≠gb) wr b o sb gb (Qm.out wr WX.out) hQ.out (JZ.Ze (Em HT.out Sm.out) (ADA HT.out) (show Li T (NR T M) tl [] from nO.out)));have hsc:w9.heap.size≤wr.heap.size:=Js.out.size;have dP:=hid (Gy.out.trans NI);clear NI hQ nO Js OD WX AOB AFp;go_wp2_with fail;refine Jt.out.mono ?_;rintro e Cw ⟨v13,u,rfl,hcl,vw,Ot⟩;have jF:=dP.out.trans (Ot.mono dP.out.size);have Ec:=hid hcl;have KP:=hid (gZ HT.out Sm.out Bw.out HS.out.1 LY hcl);have ADt:=hid (dO.out.below jF);have AFs:=hid (hB.out.trans (jF.mono (show lb≤wx.heap.size by omega)));have ZO:=hid (show AP (fun b=>lb+2≤b∧some b≠lv.ownBlock) Cw v13 (u.map ints) from AP.mono vw (fun b hb=>⟨by have:=dP.out.size;omega,fun e=>by
          obtain⟨q,hq,_⟩:=dO.out.rows;have:=(Af hq b e.symm).2;have:=dP.out.size;omega⟩))
         obtain⟨Qr,c13,rfl,_,_⟩:=Aq.form vw;rw[Bh]at ZO ⊢;obtain⟨lu,hlu⟩:∃lu,u.length=lu:=⟨_,rfl⟩;rw[hlu]at ZO ⊢;have nP:=hid (y9.ACa T.length HS.out.1 Cw (.slice Qr lu c13) u (AP.mono ZO.out (fun _ _=>trivial)) KP.out.len (fun r hr=>AZ (KP.out.row r hr).1));have AL0:wx.heap.size≤Cw.heap.size:=jF.size;clear hcl vw Ot jF Jt hlu hsc dP;go_wp2_with fail;refine nP.out.mono ?_;rintro e Ju ⟨s,rfl,hss,UD⟩;have sO:=hid (ADt.out.below UD);have RS:=hid (AFs.out.trans (UD.mono (show lb≤Cw.heap.size by omega)));have AFt:=hid (AP.keep ZO.out (AA.of_below UD));have AFu:lb+2≤Ju.heap.size:=by have:=UD.size;omega
         obtain⟨D,hD⟩:=sO.out.mp;obtain⟨kl,hkl⟩:=keyOf_str s hss;have HI3:=hid (show k<4294967296 by have:=O4.out;omega);clear UD nP ADt AFs ZO AL0 hss;go_upto_region 34 with(at_mapUpdate;refine wpList_mapUpdate_own _ rfl _ _ _ 74 rfl 9 71 AFg Tryz.underlying74 _ (lb+1) k D rfl hD (by have:=HI3.out;unfold maxLen;omega) _ _ kl rfl rfl hkl (.lit (.int .u64 (M:Int))) [] (plainElem_int Tryz.underlying71 (WalkArith.wf_u64 (by have:=HMl.out;omega))) ?_;intro JD YP Q4);have jG:=hid (sO.out.key Q4 ⟨_,YP⟩);have ZP:Below (lb+1) Ju JD:=(A7 (lb+1) Ju).grown Q4 (by omega) (fun g hg=>by cases hg;omega);have Le:=hid (RS.out.trans (ZP.mono (by omega)));have AOH:=hid (show AP (fun b=>lb+2≤b∧some b≠lv.ownBlock) JD (.slice Qr lu c13) (u.map ints) from AP.mono (AP.keep (S:=fun b=>lb+2≤b∧some b≠lv.ownBlock) AFt.out (AA.grown Q4 (fun k hk e=>by have:=hk.1;injection e with e;omega))) (fun b hb=>hb));have AQP:lb+2≤JD.heap.size:=Ad AFu ZP.size;obtain⟨-, x15,-, AFv,AOI⟩:=jG.out.cell;obtain⟨Sk,kF,ADu,ADv⟩:=jG.out.rows;have UE:=hid Xg.out.1;rw[UE.out]at kF;have AFw:=hid (And.intro ADu ADv);have h1:=kF.alloc (.cells #[.slice Qr lu c13] 25);have x16:(JD.alloc (.cells #[.slice Qr lu c13] 25)).cell? ⟨lb,1,none⟩=some lv:=(((AA.refl Any JD).alloc _).cell (b:=lb) trivial AFv).trans x15;clear YP Q4 ZP ADu ADv sO RS AFt AFu hD hkl;go_wp2_with (at_builtin;(refine GQ _ rfl _ _ 26 rfl (lb+2) 25 i3 (.slice none 0 0) 1 24 Tryz.underlying26 hi3 zC Wn zD rfl (by decide) _ _ _ rfl h1 ⟨JD.heap.size,0,none⟩ 1 1 [.slice Qr lu c13] rfl rfl ?c1 ?c2 (by decide) ?c3 ?c4 ?c5 _ rfl ?_));case c2=>first|rfl|(intro u hu;simp at hu;subst hu;rfl)
         case c3=>have:=HI3.out;unfold maxLen;omega
         case c4=>have:=HI3.out;omega
         case c5=>first|omega|(simp;omega)
         intro g17 c17 zT ADC qx ADw ADx;have wC:LD JD zT lv (.slice (some ⟨g17,0,none⟩) (k+1) c17):=mo.YO (B:=0) (e:=0) (xs:=[]) (AX.alloc AR _) qx (by simpa using ADw) ADx;have AL1:=hid (jG.out.push (W2:=zT) wC AFw.out.1 AFw.out.2 AOH.out (by rw[UE.out];exact ADC));have Ml:=hid (show Below lb w6 (zT.setCell ⟨lb,1,none⟩ (.slice (some ⟨g17,0,none⟩) (k+1) c17)) from
          Le.out.trans ((((A7 lb JD).alloc (by omega) _).grown qx (by simp;omega) (fun g hg=>by have:=(Af kF g hg).1;omega)).setCell AR _))
         obtain⟨y17,APB,AFx⟩:=jG.out.grown wC;have f17:=AFx 1;have AL2:=hid (Xg.out.push HMK.out Ec.out);have AQQ:(k:Int)+1≤9223372036854775807:=by have:=HI3.out;omega
         clear x16 h1 kF x15 AFv AOI ADC qx ADw ADx wC AFx;go_wp2_with fail;go_roundw;case rel=>exact⟨k+1,_,_,HKI.out,by go_num,AL2,AL1,Ml⟩
         case measure=>have:=HKI.out;simp[intOf];omega
      ·obtain rfl:k=i:=by omega
       have hd1:decide ((k:Int)<(k:Int))=false:=by simp
       have Lx:=dO.out;obtain⟨Sk,hp,hp2,hp3⟩:=Lx.rows;have UE:=hid Xg.out.1;have Kz:=hid (show∀x∈us,U8.Ll T x from fun x hx=>by
        obtain⟨j,hj⟩:=GM hx;have hjl:=(Ag.1 hj).1;obtain⟨M,hM⟩:∃M,ms[j]?=some M:=⟨_,AO (by rw[kC.out,←UE.out];exact hjl)⟩;exact gZ HT.out Sm.out Bw.out HS.out.1 LY (Xg.out.2 j M x hM hj))
       have HCS:=hid (show Ko T ms us from⟨by rw[UE.out,kC.out],Xg.out.2⟩);have Xh:=hid (show zO.V9 (fun b=>lb+2≤b) (lb+2) wx lv us from⟨Sk,hp,hp2,fun i x u hx hu=>hp3 i x u hx hu⟩);have kG:∀b,lv.ownBlock=some b→lb+2≤b:=fun b hb=>(Af hp b hb).1;have hcx:wx.cell? ⟨w.heap.size,0,none⟩=some (.pointer (some ⟨b,o,none⟩)):=(hB.out.cell (p:=⟨w.heap.size,0,none⟩) (show w.heap.size<lb by omega)).trans Jn.out;have XF:=hid (show BN (fun k=>some k≠lv.ownBlock) wx b o (AQ T) from((FY.Ph HP.out).keep (AA.of_below VA.out)).mono (fun k hk e=>by have:=kG k e.symm;omega));have mZ:=hid (zO.qM (fun b=>lb+2≤b) T HS.out (lb+2) wx lv us Xh.out (by rw[UE.out];have:=O4.out;omega) Kz.out b o w.heap.size XF.out hcx ⟨fun e=>by have:=kG _ e.symm;omega,by have:=VA.out.size;omega⟩);obtain⟨x0,x1,x2,hgl,hfl⟩:=Lx.cell;have kH:=hid Lx;have wG:=hid kG;clear Lx hp hp2 hp3 dO Xg;go_wp2_with fail;refine mZ.out.mono ?_;rintro e w16 ⟨rfl,L,hperm,hL,wH,wI⟩;have wJ:w16.heap[lb]?=some (.cells #[.pointer (some ⟨b,o,none⟩),lv,.slice none 0 0] 53):=(wH.block lb (fun e=>by have:=wG.out lb e.symm;omega) hgl).trans kH.out.hl;have AFy:=hid (kH.out.mp.kept (wH.block (lb+1) (fun e=>by have:=wG.out (lb+1) e.symm;omega) kH.out.mp.lt));have vV:=hid (hB.out.trans (wI.mono (show lb≤min (lb+2) wx.heap.size by omega)));obtain⟨Sk,hp,hp2,hp3⟩:=hL;obtain⟨aL,cL,hlv⟩:∃a c,lv= .slice a L.length c:=by
        rcases hp.2 with⟨rfl,h0⟩|⟨g,cap,cur,rfl,_⟩
        ·exact⟨none,0,by rw[h0]⟩
        ·exact⟨_,_,rfl⟩
       obtain⟨B5,Qa⟩:∃B5,B5=w16.heap.size:=⟨_,rfl⟩;have Aa:=hid Qa;have Ay:=hid (show Aq (fun w u (x:List (List Nat))=>AP (fun b=>lb+2≤b∧b<B5) w u (x.map ints)) (fun b=>lb+2≤b∧b<B5) w16 lv L from by
        rw[Qa];exact AKY (Fa.mh (E:=fun W u x=>AP (fun k=>lb+2≤k∧some k≠lv.ownBlock) W u (x.map ints)) ⟨Sk,hp,hp2,hp3⟩ (fun u x h=>AP.mono (YF h) (fun b hb=>⟨hb.1.1,hb.2⟩))))
       have Qb:=hid hperm;obtain⟨n5,nQ⟩:∃n5,L.length=n5:=⟨_,rfl⟩;have Xa:=hid nQ;have HN3:=hid (show n5≤4294967296 from by rw[←nQ,hperm.length_eq,UE.out];exact O4.out);rw[nQ]at hlv;subst hlv;have KH:=hid (fun x (hx:x∈L)=>Kz.out x (hperm.mem_iff.1 hx));have AQR:lb+2≤w16.heap.size:=Ad hsl wI.size;have AFz:=hid wJ;have y1:w16.cell? ⟨lb,1,none⟩=some (.slice aL n5 cL):=by rw[Ah _ _ _ _ _ (0,0) wJ];rfl
       have APC:lb<w16.heap.size:=by omega
       clear hp hp2 hp3 nQ hperm wH wI wJ x0 x1 x2 hgl hfl mZ XF Xh kH wG kG hcx hB Qa;go_wp2_with fail;go_loopw [126] (fun jv wr=>∃(j:Nat) (mv:Value) (zs:List Int),j≤n5∧jv= .int .i64 (j:Int)∧Hid (zs.length=j)∧Hid (wr.heap[lb]?=some (.cells #[.pointer (some ⟨b,o,none⟩),.slice aL n5 cL,mv] 53))∧Hid (wr.ownsRow B5 71 1 mv j (zs.map (Value.int .u64)))∧Hid (AA (fun b=>b<B5∧b≠lb) w16 wr)∧Hid (Below lb w16 wr)) (fun jv _=>n5-(intOf jv).toNat);case atStart=>exact⟨0,_,[],AU _,rfl,hid rfl,AFz,hid (F7 _ _ _ _),hid AJ,hid AX⟩
       case round=>
        rename World=>wy;obtain⟨j,mv,zs,hj,rfl,hZL,hHL,hO,hK,Xi⟩:=hrel;clear AFz y1;have hsy:B5≤wy.heap.size:=by rw[Aa.out];exact hK.out.size
        by_cases hjn:j<n5
        ·obtain⟨x,hx⟩:∃x,L[j]?=some x:=⟨_,AO (by rw[Xa.out];exact hjn)⟩;have Xj:AA (fun b=>lb+2≤b∧b<B5) w16 wy:=hK.out.mono (fun b hb=>⟨hb.2,by omega⟩);obtain⟨bL,oL,u,rfl,_,hbL,VB,hu⟩:=Aq.get (Aq.keep Ay.out Xj (fun u x e=>AP.keep e Xj)) hx;have Je:=KH.out x (Ak hx);have QM:=hid hu;obtain⟨aX,cX,rfl,_,_⟩:=Aq.form hu;have XB:=hid Je;obtain⟨lx,hlx⟩:∃lx,x.length=lx:=⟨_,rfl⟩;rw[Bh,hlx]at QM VB;have nP:=hid (fun W (h:AA Any wy W)=>y9.ACa T.length HS.out.1 W (.slice aX lx cX) x (AP.keep (S:=Any) (AP.mono QM.out (fun _ _=>trivial)) h) XB.out.len (fun r hr=>AZ (XB.out.row r hr).1));have HMY:=hid (AFy.out.kept (hK.out.block (lb+1) ⟨by have:=Aa.out;omega,by omega⟩ AFy.out.lt));have c2:wy.cell? ⟨lb,2,none⟩=some mv:=by rw[Ah _ _ _ _ _ (0,0) hHL.out];rfl
         have kI:lb<wy.heap.size:=(Ba.1 hHL.out).1;have SB:=hid (show mv.ownBlock≠some lb from fun e=>by have:=(Af hO.out lb e).1;have:=Aa.out;omega);have hd1:decide ((j:Int)<(n5:Int))=true:=by simp;omega
         have hji:(j:Int)<(n5:Int):=by omega
         have hj0:(0:Int)≤(j:Int):=by omega
         have GJ:=hid hjn;have zU:=hid (show j<4294967296 by have:=HN3.out;omega);have UF:(j:Int)+1≤9223372036854775807:=by have:=zU.out;omega
         clear hx Xj Je hu hlx hjn;go_upto_region 40 with fail;go_region_law
          (first|(go_simp;go_at_call 39;refine(nP.out _ (by first|exact AJ.drew|exact AA.refl _ _)).mono ?_;rintro e Sl ⟨s,rfl,hss,wK⟩;obtain⟨kl,hkl⟩:=keyOf_str s hss;have hbz:Below wy.heap.size wy Sl:=(by first|exact(AX.drew).trans wK|exact wK);obtain⟨D,hD⟩:=HMY.out.kept (hbz.block (lb+1) HMY.out.lt);obtain⟨c18,ALI,-, -⟩:=hD.lookup_int AFg Tryz.underlying74 Tryz.underlying71 (ALy _) hkl;have AOJ:Sl.cell? ⟨lb,2,none⟩=some mv:=(hbz.cell (p:=⟨lb,2,none⟩) kI).trans c2;have ADy:lb<Sl.heap.size:=Ai kI hbz.size)|(refine Pv _ (by rfl) _ _ _ (by rfl) B5 71 iU (.int .u64 0) 1 8 Tryz.underlying51 hiU AFi AFj AFk rfl (by omega) mv j (zs.map (Value.int .u64)) (by rfl) ((LK hO.out (fun k hk=>hbz.block k (Af hO.out k hk).2)).alloc _) ⟨Sl.heap.size,0,none⟩ 1 1 [.int .u64 c18] (by rfl) (by rfl) (GN (cs:= #[.int .u64 c18]) (t:=71) (fr:=(0,0)) (BA Sl _)) (by simp[Value.oneCell']) (by omega) (by have:=zU.out;unfold maxLen;omega) (by have:=zU.out;omega) (by have:=hbz.size;simp;omega) _ rfl ?_;intro g20 c20 OT ru gm AL3 AL4;obtain⟨AF0,s20,f20,AOK⟩:=AN3 hbz gm SB.out hHL.out))
         all_goals
          have AOL:=hid (show(zs++[c18]).length=j+1 by simp[hZL.out]);have AOM:=hid (show(OT.setCell ⟨lb,2,none⟩ (.slice (some ⟨g20,0,none⟩) (j+1) c20)).heap[lb]?=some (.cells #[.pointer (some ⟨b,o,none⟩),.slice (some ⟨bL,oL,none⟩) n5 cL,.slice (some ⟨g20,0,none⟩) (j+1) c20] 53) from by rw[GV _ _ _ _ _ _ AF0];rfl);have AON:=hid (show(OT.setCell ⟨lb,2,none⟩ (.slice (some ⟨g20,0,none⟩) (j+1) c20)).ownsRow B5 71 1 (.slice (some ⟨g20,0,none⟩) (j+1) c20) (j+1) ((zs++[c18]).map (Value.int .u64)) from by
           rw[Md];exact LK ru (fun k hk=>X8 (by have:=(Af ru k hk).1;have:=Aa.out;omega)))
          have AOO:=hid (show AA (fun b=>b<B5∧b≠lb) w16 (OT.setCell ⟨lb,2,none⟩ (.slice (some ⟨g20,0,none⟩) (j+1) c20)) from
           (((hK.out.trans (AA.below hbz (fun k _ h=>h))).alloc _).trans (AA.grown gm (fun k hk e=>by have:=(Af hO.out k e.symm).1;omega))).setCell (fun h=>h.2 rfl) _)
          have AOP:=hid (show Below lb w16 (OT.setCell ⟨lb,2,none⟩ (.slice (some ⟨g20,0,none⟩) (j+1) c20)) from
           (((Xi.out.trans (hbz.mono (DT kI))).alloc (DT ADy) _).grown gm (by simp;omega) (fun g hg=>by have:=(Af hO.out g hg).1;have:=Aa.out;omega)).setCell AR _)
          clear AF0 s20 f20 AOK ru gm AL3 AL4 hbz wK hD ALI AOJ ADy c2 kI hkl hss;go_wp2_with fail;go_roundw
         all_goals first|exact⟨j+1,_,_,GJ.out,by go_num,AOL,AOM,AON,AOO,AOP⟩|(have:=GJ.out;simp[intOf];omega)
        ·obtain rfl:j=n5:=by omega
         have hd1:decide ((j:Int)<(j:Int))=false:=by simp
         have HR:=hid (show j6 (AQ T) w (.returned (.tuple #[.pointer (some ⟨lb,0,none⟩),.int .i64 0])) wy from by
          have Xj:AA (fun b=>lb+2≤b∧b<B5) w16 wy:=hK.out.mono (fun b hb=>⟨hb.2,by omega⟩);refine⟨_,_,rfl,(AFo.out.trans (vV.out.mono (by omega))).trans (Xi.out.mono (by omega)),.inr ⟨T,rfl,Fu.out,.inr ⟨rfl,hz,?_⟩⟩⟩;refine⟨lb,.slice aL j cL,L,us,ms,rfl,(Ba.1 hHL.out).1,by rw[Ah _ _ _ _ _ (0,0) hHL.out];rfl,?_,PD.out,HCS.out,Qb.out,by rw[Xa.out];exact HN3.out⟩;exact AKZ (f:=fun l:List (List Nat)=>l.map ints) (Aq.mono (Aq.keep Ay.out Xj (fun u x e=>AP.keep e Xj)) (fun _ _=>trivial) (fun u x h=>AP.mono h (fun _ _=>trivial))))
         clear hHL hO hK Xi hZL;go_wp2_with fail;exact Aj (v:=.tuple #[.pointer (some ⟨lb,0,none⟩),.int .i64 0]) (by simp[results,Tryz.results18,go_sem]) rfl HR.out
 ·obtain rfl:r=false:=by
   cases r with
   |false=>rfl
   |true=>exact absurd (hr.1 rfl) Es
  have HR:=hid (show j6 P w (.returned (.tuple #[.pointer none,.int .i64 1])) w1 from⟨_,_,rfl,HB1.out,.inl ⟨rfl,rfl,Es⟩⟩);clear hr hb1 Es p0 p1 p2 hpl;go_wp2_with fail;exact Aj (v:=.tuple #[.pointer none,.int .i64 1]) (by simp[results,Tryz.results18,go_sem]) rfl HR.out
end Go.Proofs.YtaadbccidfdniaaGreat.nJ
namespace Go.Proofs.YtaadbccidfdniaaGreat.ZQ
open Go.Proofs.YtaadbccidfdniaaGreat AB Gen Cu KS CU FZ
theorem qz {α:Type}{t:Nat→Option α}{o:Nat→Nat}:∀(k d i:Nat) (u:α),(BU t k d)[i]?=some u→∃j,d≤j∧j<d+k∧t j=some u∧(Hw t o k d)[i]?=some (o j)
 |0,d,i,u,h=>by simp[BU]at h
 |k+1,d,i,u,h=>by
  rw[BU]at h;rw[Hw];cases ht:t d with
  |none=>
   rw[ht]at h;obtain⟨j,h1,h2,h3,h4⟩:=qz (o:=o) k (d+1) i u h;exact⟨j,by omega,by omega,h3,h4⟩
  |some v=>
   rw[ht]at h;cases i with
   |zero=>
    simp at h;subst h;exact⟨d,Av _,by omega,ht,rfl⟩
   |succ i=>
    obtain⟨j,h1,h2,h3,h4⟩:=qz (o:=o) k (d+1) i u (by simpa using h);exact⟨j,by omega,by omega,h3,by simpa using h4⟩
theorem o8 {α:Type}{t:Nat→Option α}{o:Nat→Nat}:∀(k d:Nat),(Hw t o k d).length=(BU t k d).length
 |0,d=>rfl
 |k+1,d=>by
  rw[Hw,BU];cases t d with
  |none=>exact o8 k (d+1)
  |some v=>simp[o8 k (d+1)]
theorem ACc {α:Type}{t:Nat→Option α}:∀(k d:Nat),(BU t k d).length≤k
 |0,d=>Av _
 |k+1,d=>by
  rw[BU];have:=ACc (t:=t) k (d+1);cases t d with
  |none=>simp only;omega
  |some v=>simp only[Hl];omega
def BK (os:List Nat):Tw:=os.map fun o=>⟨o,[],[]⟩
theorem ADE:∀(os es:List Nat),El (BK os) es↔Zb es os
 |[],[]=>Iff.rfl
 |[],_::_=>Iff.rfl
 |_::_,[]=>Iff.rfl
 |o::os,a::es=>by
  show(a<o∧El (BK os) es)↔(a<o∧Zb es os);rw[ADE os es]
theorem AAl (os:List Nat):(BK os).length=os.length:=by simp[BK]
theorem ADF {os:List Nat}(h:∀o∈os,1≤o)(k:Nat):El (BK os) (at_ (BK os) k):=by
 induction os with
 |nil=>trivial
 |cons o os ih=>exact⟨Nat.mod_lt _ (h o DJ),ih (fun x hx=>h x (Dj _ hx))⟩
theorem AKb {os es:List Nat}(h:Zb es os):num (BK os) es<sz (BK os)∧at_ (BK os) (num (BK os) es)=es:=by
 induction os generalizing es with
 |nil=>cases es with
  |nil=>exact⟨by simp[num,BK,sz],rfl⟩
  |cons _ _=>exact h.elim
 |cons o os ih=>cases es with
  |nil=>exact h.elim
  |cons a es=>
   obtain⟨h1,h2⟩:=ih h.2;have ha:=h.1;have e:num (BK (o::os)) (a::es)=a*sz (BK os)+num (BK os) es:=rfl;have hp:0<sz (BK os):=by omega
   refine⟨?_,?_⟩
   ·rw[e];show _<o*sz (BK os);have:(a+1)*sz (BK os)≤o*sz (BK os):=RI _ ha;rw[Nat.add_mul,Nat.one_mul]at this;omega
   ·rw[e];show((a*sz (BK os)+num (BK os) es)/sz (BK os)%o)::at_ (BK os) (a*sz (BK os)+num (BK os) es)=a::es;rw[Ki,Nat.add_mul_div_right _ _ hp,Nat.div_eq_of_lt h1,Cg,Ez ha];congr 1;have hm:∀(T:Tw) (k b:Nat),at_ T (k+b*sz T)=at_ T k:=by
     intro T
     induction T with
     |nil=>intro _ _;rfl
     |cons L T ih=>
      intro k b;show((k+b*(L.o*sz T))/sz T%L.o)::at_ T (k+b*(L.o*sz T))=(k/sz T%L.o)::at_ T k;rw[←Nat.mul_assoc,ih k (b*L.o)];congr 1;rcases Nat.eq_zero_or_pos (sz T)with h0|h0
      ·rw[h0];simp
      ·rw[Nat.add_mul_div_right _ _ h0,Nat.add_mul_mod_self_right]
    rw[hm,h2]
theorem ry {T:Tw}(hT:Wf T)(t:Nat→Option (List Nat)):∀(k d:Nat),d+k=T.length→sz (BK (Hw t (oF T) k d))≤sz (T.drop d)∧∀o∈Hw t (oF T) k d,2≤o∧∃L∈T,o=L.o
 |0,d,h=>⟨by simp[Hw,BK,sz];exact JQ (FK hT d),by simp[Hw]⟩
 |k+1,d,h=>by
  obtain⟨L,hL⟩:∃L,T[d]?=some L:=⟨_,AO (by omega)⟩;obtain⟨h1,h2⟩:=ry hT t k (d+1) (by omega);have ho:=(lvl' hT hL).2.2.2.2;have hs:=S9 hL;rw[Hw];cases t d with
  |none=>
   refine⟨Ad h1 ?_,h2⟩;rw[hs];have:1*sz (T.drop (d+1))≤L.o*sz (T.drop (d+1)):=RI _ (by omega);omega
  |some v=>
   refine⟨?_,?_⟩
   ·rw[hs];show oF T d*sz (BK (Hw t (oF T) k (d+1)))≤_;rw[J7 hL];exact iY _ h1
   ·intro o ho';rcases F8.1 ho' with rfl|ho'
    ·rw[J7 hL];exact⟨ho,L,Ak hL,rfl⟩
    ·exact h2 o ho'
theorem lead {T:Tw}{tl dn im:List (List Nat)}{j:Nat}(hT:Wf T)(hg:AB.Good T)(h:FD T tl dn 0)(hc:Jo T im tl){r:List Nat}(hr:Al dn j=some r)(hj:j<T.length):A (El T) fF j r∧fF j r=1:=by
 have F:=Em hT hg;have h1:=(h j).1 (AU _);cases ht:Al tl j with
 |none=>rw[h1.1 ht]at hr;simp at hr
 |some y=>
  obtain⟨s,hs,e,_⟩:=h1.2 y ht;rw[e]at hr;injection hr with hr;obtain⟨_,DL,hy1⟩:=hc.tb j y ht;have hsA:=GL.1 hs.1;rw[←hr];refine⟨F.ADK (DT hj) DL hsA.1,?_⟩;rw[F.fm hj DL.1 hsA.1.1 DL.2 hsA.1.2,hy1,hsA.2];exact Ez (F.o2 j hj)
theorem AJM {T:Tw}{j:Nat}{r:List Nat}(h:A (El T) fF j r)(h1:fF j r=1):(∀i,i<j→r[i]?=some 0)∧r[j]?=some 1:=by
 have hj:r[j]?=some 1:=by
  unfold fF at h1;rw[BV]at h1;cases hr:r[j]? with
  |none=>rw[hr]at h1;simp at h1
  |some a=>rw[hr]at h1;simp at h1;rw[h1]
 refine⟨fun i hi=>?_,hj⟩;have hl:=(Ag.1 hj).1;have h2:=h.2 i hi;unfold fF at h2;rw[BV,AO (by omega)]at h2;rw[AO (by omega)];simpa using h2
theorem AKc {T:Tw}{tl dn im:List (List Nat)}(hT:Wf T)(hg:AB.Good T)(h:FD T tl dn 0)(hc:Jo T im tl)(x:List Nat):
  Gen (mul T) (AB.one T) im x↔∃k,k<sz (BK (Hw (Al dn) (oF T) T.length 0))∧ev (mul T) (AB.one T) (BU (Al dn) T.length 0) (at_ (BK (Hw (Al dn) (oF T) T.length 0)) k)=x:=by
 have F:=Em hT hg;have h2:Chd (El T) (mul T) (AB.one T) T.length fF (Ap T) (Al tl) (Al dn):=fun d=>⟨((h d).1 (AU _)).1,fun y hy=>(((h d).1 (AU _)).2 y hy).imp fun s q=>⟨q.1,q.2.1⟩⟩;rw[hc.gen x,F.full hc.tb hc.sub hc.mem h2 T.length 0 (by omega) x];have hpos:∀o∈Hw (Al dn) (oF T) T.length 0,1≤o:=fun o ho=>by have:=((ry hT (Al dn) T.length 0 (by omega)).2 o ho).1;omega
 constructor
 ·rintro⟨es,h3,h4⟩;obtain⟨h5,h6⟩:=AKb h3;exact⟨_,h5,by rw[h6];exact h4⟩
 ·rintro⟨k,hk,e⟩;exact⟨_,(ADE _ _).1 (ADF hpos k),e⟩
end Go.Proofs.YtaadbccidfdniaaGreat.ZQ
namespace Go.Proofs.YtaadbccidfdniaaGreat.jH
open Go.RowKit Go.Proofs.YtaadbccidfdniaaGreat AB CU Cu ZQ JU Dr Kc Nk Hg Pz Oe
def kJ (T:Tw)(us:List (List Nat))(os:List Nat):Prop:=
 us.length=os.length∧us.length≤6∧∀(i:Nat) (u:List Nat),us[i]?=some u→∃(j:Nat) (L:Lv),T[j]?=some L∧os[i]?=some L.o∧(∀i,i<j→u[i]?=some 0)∧u[j]?=some 1∧u.length≤1000
theorem AJN {os:List Nat}{k o:Nat}(h:os[k]?=some o):sz (BK (os.take (k+1)))=sz (BK (os.take k))*o:=by
 induction os generalizing k with
 |nil=>simp at h
 |cons a os ih=>cases k with
  |zero=>simp at h;subst h;simp[BK,sz]
  |succ k=>
   have:=ih (k:=k) (by simpa using h);show a*sz (BK (os.take (k+1)))=a*sz (BK (os.take k))*o;rw[this,Nat.mul_assoc]
theorem AH9 {os:List Nat}(h:∀o∈os,o≤7)(hl:os.length≤6):sz (BK os)≤117649:=by
 have:∀os:List Nat,(∀o∈os,o≤7)→sz (BK os)≤7^os.length:=by
  intro os
  induction os with
  |nil=>intro _;simp[BK,sz]
  |cons a os ih=>
   intro h;show a*sz (BK os)≤7^(os.length+1);rw[TI,Oh];exact Nat.mul_le_mul (ih (fun o ho=>h o (Dj _ ho))) (h a DJ)
 exact Ad (this os h) (Ad (Vm (by omega) hl) (by decide))
theorem LJ (T:Tw)(hs:Small T)(w:World)(vO vP vC vu:Value)(us:List (List Nat))(os:List Nat)(hP:BC Any w vO vP vC (AQ T))(hu:AP Any w vu (us.map ints))(hL:kJ T us os):
  Calls Tryz.prog 160 #[.agg #[vO,vP,vC],vu] w (Cm.QB (sz (BK os)) w):=by
 obtain⟨aO,cO,aP,cP,aC,cC,rfl,rfl,rfl,Eo,hP1,FC⟩:=hP.open;have HP:=hid hP;have HU:=hid hu;have HL:=hid hL;have dQ:=hid hL.1;have Gj:=hL.2.1;have M8:=hid (show∀o∈os,o≤7 from fun o ho=>by
  obtain⟨i,hi⟩:=GM ho;obtain⟨u,hu⟩:∃u,us[i]?=some u:=⟨_,AO (by rw[hL.1];exact(Ag.1 hi).1)⟩;obtain⟨j,L,h1,h2,_⟩:=hL.2.2 i u hu;rw[hi]at h2;injection h2 with h2;rw[h2];exact hs.2 L (Ak h1))
 obtain⟨aU,cU,rfl⟩:=AP.form hu;clear hP hu hL hs;go_enter Tryz.func160,Tryz.ntmps160;go_wp2_with fail;go_loopw [5,6] (fun ov iv wr=>∃k p:Nat,k≤us.length∧iv= .int .i64 (k:Int)∧ov= .int .i64 (p:Int)∧Hid (p=sz (BK (os.take k)))∧Below (w.heap.size+1) (w.alloc (.cells #[.slice aO T.length cO,.slice aP T.length cP,.slice aC T.length cC] 28)) wr) (fun _ iv _=>us.length-(intOf iv).toNat);case atStart=>exact⟨0,1,AU _,rfl,rfl,hid (by simp[BK,sz]),A7 _ _⟩
 case round=>
  obtain⟨k,p,hk,rfl,rfl,hpk,hB⟩:=hrel;have Aa:=hid hB;have hk5:=Dc hB Any;obtain⟨e0,e1,e2⟩:=Cq hB;have hsw:w.heap.size+1≤wr.heap.size:=by have:=hB.size;simp at this;omega
  clear hB;by_cases hlt:k<us.length
  ·obtain⟨u,hu⟩:∃u,us[k]?=some u:=⟨_,AO hlt⟩;obtain⟨j,L,Dv,hos,hz,h1,KU⟩:=HL.out.2.2 k u hu;obtain⟨bU,oU,OI,vr,he,EU,Db,hrU⟩:=AP.Pn HU.out hu;obtain⟨rfl,rfl⟩:aU=some ⟨bU,oU,none⟩∧cU=OI:=by simp only[EY]at he;exact⟨he.1,he.2.2⟩
   obtain⟨bO,oO,rfl,_,CQ,BS⟩:=HP.out.ord Dv;have Y9:=(hk5.cell (b:=bU) (o:=oU+k) trivial EU).trans Db;have AEC:=(hk5.cell (b:=bO) (o:=oO+j) trivial CQ).trans BS;have yf:=(Ag.1 Dv).1;have hji:(j:Int)<(T.length:Int):=by omega
   have hj0:(0:Int)≤(j:Int):=by omega
   have hki:(k:Int)<(us.length:Int):=by omega
   have hk0:(0:Int)≤(k:Int):=by omega
   have zV:=hid (fun W n (hW:W=wr.drewN n)=>(AA0 W vr u (by rw[hW];exact AL.keep hrU (hk5.drewN n)) j 1 hz h1 (by omega) (by omega)).mono (fun e w' (h:e= .returned (.int .i64 (j:Int))∧W=w')=>And.intro h.1 h.2.symm));have hst:=AJN hos;have hbd:p*L.o≤117649:=by
    rw[hpk.out,←hst];exact AH9 (fun o ho=>M8.out o (Vo ho)) (by have:=dQ.out;simp;omega)
   have hmw:IntKind.i64.wrap ((p:Int)*(L.o:Int))=((p*L.o:Nat):Int):=by rw[←Int.natCast_mul];exact AY _ (by omega)
   obtain⟨pn,hpn⟩:∃pn,pn=p*L.o:=⟨_,rfl⟩;rw[←hpn]at hmw;have U6:=hid (show pn=sz (BK (os.take (k+1))) by rw[hpn,hst,hpk.out]);clear he hrU Db BS Dv hz h1 KU hst hbd hpn hk5 hos;go_wp2_with fail;go_quiet ((go_at_call 177;exact Calls.quiet_of_same (zV.out _ _ rfl)));go_wp2_with fail;go_roundw;case rel=>exact⟨k+1,pn,by omega,by go_num,rfl,U6,Dk Aa.out _⟩
   case measure=>simp[intOf]<;>omega
  ·obtain rfl:k=us.length:=by omega
   have HE:=hid (show p=sz (BK os) by rw[hpk.out,dQ.out,KC]);have OH:=hid (Dq Aa.out);clear hk5;go_wp2_with fail;go_ret;exact⟨BM (fun q:Nat=>Ending.returned (.int .i64 (q:Int))) HE.out,OH.out⟩
theorem oo (T:Tw)(hs:Small T)(w:World)(vO vP vC vu:Value)(us:List (List Nat))(os:List Nat)(hP:BC Any w vO vP vC (AQ T))(hu:AP Any w vu (us.map ints))(hL:kJ T us os):
  Calls Tryz.prog 161 #[.agg #[vO,vP,vC],vu] w (Kk (ints os) w):=by
 obtain⟨i0,hi,hz0,hz1,hz2⟩:=Bt FX;obtain⟨aO,cO,aP,cP,aC,cC,rfl,rfl,rfl,Eo,hP1,FC⟩:=hP.open;have HP:=hid hP;have HU:=hid hu;have HL:=hid hL;have dQ:=hid hL.1;have Gj:=hL.2.1;obtain⟨aU,cU,rfl⟩:=AP.form hu;obtain⟨W0,hW0⟩:∃W0,W0=w.alloc (.cells #[.slice aO T.length cO,.slice aP T.length cP,.slice aC T.length cC] 28):=⟨_,rfl⟩;have uV:W0.heap.size=w.heap.size+1:=by rw[hW0];simp
 have h00:=Fb (base:=w.heap.size+1) (e:=2) (size:=1) W0 #[] 0 (by omega) (AU _) rfl;have HB0:=hid (show Below (w.heap.size+1) (w.alloc (.cells #[.slice aO T.length cO,.slice aP T.length cP,.slice aC T.length cC] 28)) (W0.alloc (.cells #[] 2)) by rw[←hW0];exact AX.alloc (by omega) _);clear hP hu hL hs;go_enter Tryz.func161,Tryz.ntmps161;go_upto_region 1 with fail;rw[←hW0];have O5:=hid (show Own (w.heap.size+1) (W0.alloc (.cells #[] 2)) (.slice (some ⟨w.heap.size+1,0,none⟩) 0 0) (ints []) by rw[uV]at h00;exact h00);clear hW0 h00;go_wp2_with fail;go_loopw [5,6] (fun ov iv wr=>∃k:Nat,k≤us.length∧iv= .int .i64 (k:Int)∧Hid (Own (w.heap.size+1) wr ov (ints (os.take k)))∧Below (w.heap.size+1) (w.alloc (.cells #[.slice aO T.length cO,.slice aP T.length cP,.slice aC T.length cC] 28)) wr) (fun _ iv _=>us.length-(intOf iv).toNat);case atStart=>exact⟨0,AU _,rfl,O5,HB0.out⟩
 case round=>
  obtain⟨k,hk,rfl,hOw,hB⟩:=hrel;have Aa:=hid hB;have hk5:=Dc hB Any;obtain⟨e0,e1,e2⟩:=Cq hB;have hsw:w.heap.size+1≤wr.heap.size:=by have:=hB.size;simp at this;omega
  clear hB O5 HB0;by_cases hlt:k<us.length
  ·obtain⟨u,hu⟩:∃u,us[k]?=some u:=⟨_,AO hlt⟩;obtain⟨j,L,Dv,hos,hz,h1,KU⟩:=HL.out.2.2 k u hu;obtain⟨bU,oU,OI,vr,he,EU,Db,hrU⟩:=AP.Pn HU.out hu;obtain⟨rfl,rfl⟩:aU=some ⟨bU,oU,none⟩∧cU=OI:=by simp only[EY]at he;exact⟨he.1,he.2.2⟩
   obtain⟨bO,oO,rfl,_,CQ,BS⟩:=HP.out.ord Dv;have Y9:=(hk5.cell (b:=bU) (o:=oU+k) trivial EU).trans Db;have AEC:=(hk5.cell (b:=bO) (o:=oO+j) trivial CQ).trans BS;have yf:=(Ag.1 Dv).1;have hji:(j:Int)<(T.length:Int):=by omega
   have hj0:(0:Int)≤(j:Int):=by omega
   have hki:(k:Int)<(us.length:Int):=by omega
   have hk0:(0:Int)≤(k:Int):=by omega
   have zV:=hid (fun W (hW:AA Any wr W)=>AA0 W vr u (AL.keep (AL.keep hrU hk5) hW) j 1 hz h1 (by omega) (by omega));have Qc:=hid (show ints (os.take (k+1))=ints (os.take k)++[(L.o:Int)] by rw[IJ,hos];simp[ints]);have htl:(ints (os.take k)).length=k:=by rw[BL,JX];have:=dQ.out;omega
   have KN:=hid htl;have kK:=hOw.out;unfold Own at kK;rw[htl]at kK;have HOW:=hid kK;have Uq:w.heap.size<wr.heap.size:=by omega
   clear he hrU Db BS Dv hz h1 KU hk5 hos kK htl;go_upto_region 5 with fail;rename World=>w8;go_region_law
    (first|(go_simp;go_at_call 177;refine(zV.out _ (by repeat(first|exact AJ.drew|exact AA.refl _ _|exact AJ.alloc _|exact(AJ.alloc _).drew|refine AA.trans ?_ (AA.of_below (by assumption))))).mono ?_;rintro e w5 ⟨rfl,rfl⟩)|(refine Pv _ (by rfl) _ _ _ (by rfl) (w.heap.size+1) 2 i0 (.int .i64 0) 1 8 Tryz.underlying24 hi hz0 hz1 hz2 rfl (by omega) _ k _ (by rfl) ((Br HOW.out (S:=Any) (by repeat(first|exact AJ.drew|exact AA.refl _ _|exact AJ.alloc _|exact(AJ.alloc _).drew|refine AA.trans ?_ (AA.of_below (by assumption)))) (fun _ _=>trivial)).alloc _) ⟨w8.heap.size,0,none⟩ 1 1 [.int .i64 (L.o:Int)] (by rfl) (by rfl) (GN (cs:= #[.int .i64 (L.o:Int)]) (t:=2) (fr:=(0,0)) (BA _ _)) (by simp[Value.oneCell']) (by omega) (by unfold maxLen;omega) (by omega) (by simp;omega) _ rfl ?_;intro gg cap Bj IG Ef LW Me))
   all_goals
    have HN:=hid (show Own (w.heap.size+1) Bj (.slice (some ⟨gg,0,none⟩) (k+1) cap) (ints (os.take (k+1))) from by
     unfold Own;rw[Qc.out,Cs,KN.out];simpa[vals]using IG)
    have M6:=hid (show Below (w.heap.size+1) (w.alloc (.cells #[.slice (some ⟨bO,oO,none⟩) T.length cO,.slice aP T.length cP,.slice aC T.length cC] 28)) Bj from by
     first
     |exact(Aa.out.alloc (by simp;omega) _).grown Ef (by simp;omega) (fun g hg=>(Af HOW.out g hg).1)
     |exact(Aa.out.drew.alloc (by simp;omega) _).grown Ef (by simp;omega) (fun g hg=>(Af HOW.out g hg).1))
    clear IG Ef LW Me;go_wp2_with fail;go_roundw;case rel=>exact⟨k+1,by omega,by go_num,HN,M6.out⟩
    case measure=>simp[intOf]<;>omega
  ·obtain rfl:k=us.length:=by omega
   have OH:=hid (Dq Aa.out);have HE:=hid (show os.take us.length=os by rw[dQ.out,KC]);clear hk5;go_wp2_with fail;go_ret;have h:=hOw.out;rw[HE.out]at h;exact⟨_,rfl,h.mono (by omega),OH.out⟩
end Go.Proofs.YtaadbccidfdniaaGreat.jH
namespace Go.Proofs.YtaadbccidfdniaaGreat.Yn
open Go.RowKit Go.Proofs.YtaadbccidfdniaaGreat AB CU Cu ZQ JU Dr Kc Nk Hg Pz Oe jH
theorem ALJ:(Tryz.prog.info? 4).map (fun i=>(i.zero,i.size,i.bytes))=some (some (.bool false),1,1):=by kernel_rfl
def F9 (B:Nat)(w:World)(v:Value)(l:List Bool):Prop:=w.ownsRow B 4 1 v l.length (l.map Value.bool)
theorem F9.keep {B:Nat}{S:Nat→Prop}{w w':World}{v:Value}{l:List Bool}(h:F9 B w v l)(hk:AA S w w')(hS:∀k,B≤k→S k):F9 B w' v l:=Br h hk hS
theorem F9.made {B:Nat}(w:World)(n:Nat)(hB:B≤w.heap.size)(hn:n≤maxLen):F9 B (w.alloc (.cells (madeCells #[.bool false] n) 4)) (.slice (some ⟨w.heap.size,0,none⟩) n n) (List.replicate n false):=by
 have:=Nq (base:=B) (e:=4) (size:=1) w (madeCells #[.bool false] n) n hB hn (by simp[madeCells]);rw[Q7]at this;unfold F9;simpa using this
theorem F9.cell {B:Nat}{w:World}{g n c:Nat}{l:List Bool}(h:F9 B w (.slice (some ⟨g,0,none⟩) n c) l){j:Nat}{b:Bool}(hb:l[j]?=some b):w.cell? ⟨g,j,none⟩=some (.bool b)∧w.frozen? ⟨g,j,none⟩=false:=by
 have hl:=(Ag.1 hb).1;unfold F9 at h;have hn:n=l.length:=by
  rcases h.2 with⟨h',_⟩|⟨g',cap,cur,h',_⟩
  ·cases h'
  ·simp only[EY]at h';exact h'.2.1
 subst hn;exact⟨by rw[Ig h j (by omega)];simp[hb],YR h j⟩
theorem F9.set {B:Nat}{w:World}{g n c:Nat}{l:List Bool}(h:F9 B w (.slice (some ⟨g,0,none⟩) n c) l)(j:Nat)(b:Bool):F9 B (w.setCell ⟨g,j,none⟩ (.bool b)) (.slice (some ⟨g,0,none⟩) n c) (l.set j b):=by
 unfold F9 at h ⊢;have hn:n=l.length:=by
  rcases h.2 with⟨h',_⟩|⟨g',cap,cur,h',_⟩
  ·cases h'
  ·simp only[EY]at h';exact h'.2.1
 subst hn;have:=(Q8 h j (.bool b)).1;rw[show(l.map Value.bool).set j (.bool b)=(l.set j b).map Value.bool by simp]at this;simpa using this
theorem ADz (n:Nat)(hn:n≤729)(w:World):(Instr.makeSlice 174 (.int .i64 (n:Int)) (.int .i64 (n:Int))).run Tryz.prog w= .ok (.slice (some ⟨w.heap.size,0,none⟩) n n) (w.alloc (.cells (madeCells #[.bool false] n) 4)):=
 run_make_row' (P:=Tryz.prog) 174 4 (.bool false) 1 Tryz.underlying174 ALJ rfl .i64 .i64 n (by omega) (by omega) w
def Gn (f:Nat→Nat):Nat→Nat→Bool
 |0,_=>false
 |k+1,t=>Gn f k t||(f k==t)
theorem rA (f:Nat→Nat)(k t:Nat):Gn f k t=true↔∃j,j<k∧f j=t:=by
 induction k with
 |zero=>simp[Gn]
 |succ k ih=>
  rw[Gn,RF,ih];constructor
  ·rintro(⟨j,h1,h2⟩|h)
   ·exact⟨j,by omega,h2⟩
   ·exact⟨k,by omega,by simpa using h⟩
  ·rintro⟨j,h1,h2⟩;rcases EB.1 h1 with h|h
   ·exact .inl ⟨j,h,h2⟩
   ·subst h;exact .inr (by simpa using h2)
def JF (f:Nat→Nat)(n k:Nat):List Bool:=(List.range n).map (Gn f k)
theorem ABu (f:Nat→Nat)(n:Nat):JF f n 0=List.replicate n false:=by
 unfold JF;apply TQ
 ·simp
 ·intro i h1 h2;simp[Gn]
theorem ABv (f:Nat→Nat)(n k:Nat):JF f n (k+1)=(JF f n k).set (f k) true:=by
 unfold JF;apply TQ
 ·simp
 ·intro i h1 h2;simp only[YQ,List.getElem_range,List.getElem_set,Gn];by_cases h:f k=i
  ·rw[Bo h];simp[h]
  ·rw[BD h];have:(f k==i)=false:=by simpa using h
   rw[this,Bool.or_false]
theorem gz {f:Nat→Nat}{n k t:Nat}(h:t<n):(JF f n k)[t]?=some (Gn f k t):=by simp[JF,h]
def nums (p:Nat→Bool)(n:Nat):List Nat:=(List.range n).filter p
theorem ABB (p:Nat→Bool)(n:Nat):nums p (n+1)=nums p n++(if p n then [n]else []):=by
 unfold nums;rw[Pw,List.filter_append];congr 1;by_cases h:p n=true
 ·simp[h]
 ·simp[h]
theorem nums_length (p:Nat→Bool)(n:Nat):(nums p n).length≤n:=by
 have:=List.length_filter_le p (List.range n);simpa[nums]using this
theorem ABw:∀os:List Nat,Cm.Gd (BK os)=os
 |[]=>rfl
 |o::os=>BM (o:: ·) (ABw os)
theorem BC.IE {S:Nat→Prop}{w:World}{vO vP vC:Value}{P:Bu}(h:BC S w vO vP vC P):BC (fun k=>k<w.heap.size) w vO vP vC P:=
 ⟨FZ.AL.IE h.os,FZ.AP.IE h.ps,FZ.Aq.IE h.cs (fun _ _ e=>FZ.AP.IE e)⟩
theorem AD0 {gI:Nat}{wr w':World}(h:AA (fun k=>k≠gI) wr w'):(∀b o,b<wr.heap.size→¬b=gI→w'.cell? ⟨b,o,none⟩=wr.cell? ⟨b,o,none⟩)∧AA (fun k=>k≠gI) wr w':=⟨fun b o hb hn=>h.cell hn hb,h⟩
def nk (T:Tw)(us:List (List Nat))(os:List Nat)(k:Nat):Nat:=num T (BX (mul T) (AB.one T) us (at_ (BK os) k))
def ElR (T:Tw)(us:List (List Nat))(os:List Nat)(w:World)(e:Ending)(w':World):Prop:=
 TZ 24 2 ((nums (Gn (nk T us os) (sz (BK os))) (sz T)).map (at_ T)) w e w'
theorem AG1 (T:Tw)(hT:Wf T)(hs:Small T)(hg:AB.Good T)(hz:sz T≤729)(w:World)(vO vP vC vu:Value)(us:List (List Nat))(os:List Nat)(hP:BC Any w vO vP vC (AQ T))(hu:AP Any w vu (us.map ints))(hL:kJ T us os)(ES:∀u∈us,El T u)(hos:∀o∈os,1≤o)(hle:sz (BK os)≤729):
  Calls Tryz.prog 137 #[.agg #[vO,vP,vC],vu] w (ElR T us os w):=by
 obtain⟨i0,hi,hz0,hz1,hz2⟩:=Bt Ie;have U9:∀o∈os,o≤7:=fun o ho=>by
  obtain⟨i,hi⟩:=GM ho;obtain⟨u,hu⟩:∃u,us[i]?=some u:=⟨_,AO (by rw[hL.1];exact(Ag.1 hi).1)⟩;obtain⟨j,L,h1,h2,_⟩:=hL.2.2 i u hu;rw[hi]at h2;injection h2 with h2;rw[h2];exact hs.2 L (Ak h1)
 have AF1:os.length≤6:=by rw[←hL.1];exact hL.2.1
 have hOs:Cm.Os (BK os):=⟨by rw[AAl];exact AF1,fun L h=>by
  simp only[BK,Cy]at h;obtain⟨o,ho,rfl⟩:=h;exact hos o ho,hle⟩
 have kL:=Cm.Os.of hT hs hz;have AD1:=ABw os;have HP:=hid hP;have HU:=hid hu;have PW:=hid (Cm.VN T);have HE:=hid (fun k=>(Sq (El T) (mul T) (fun _ _ p q=>C8 hT p q) us ES (at_ (BK os) k) (AB.one T) (D5 hT)));have MP:=hid (fun k=>KZ (Sq (El T) (mul T) (fun _ _ p q=>C8 hT p q) us ES (at_ (BK os) k) (AB.one T) (D5 hT)) hT);have AF2:=hid (fun W h1 h2=>LJ T hs W vO vP vC vu us os h1 h2 hL);have AF3:=hid (fun W h1 h2=>oo T hs W vO vP vC vu us os h1 h2 hL);have Bv:=hid (fun W hO=>Cm.LJ T kL W vO vP vC hO);have HAT:=hid (fun W a b c q (hq:q≤1000000) hO=>Cm.MZ (BK os) hOs (fun L h=>by
  simp only[BK,Cy]at h;obtain⟨o,ho,rfl⟩:=h;have:=U9 o ho;show o≤1000;omega) q hq W a b c hO)
 have AOQ:=hid (fun W q (hq:q≤1000000) hO=>Cm.MZ T kL (fun L h=>by have:=hs.2 L h;omega) q hq W vO vP vC hO);have Bw:=hid (fun W va k hP hu ha=>OY T hT hs hg W vO vP vC vu va us (at_ (BK os) k) hP hu ha (by rw[VK,AAl,hL.1];exact Av _) (by have:=hL.2.1;omega) ES (fun a ha=>by
  obtain⟨i,hi⟩:=GM ha;obtain⟨L,lS,hlt⟩:=LP (ADF hos k) hi;have h2:=Ak lS;simp only[BK,Cy]at h2;obtain⟨o,ho,rfl⟩:=h2;have:=U9 o ho;have:a<o:=hlt;omega))
 have zW:=hid (fun W va x hO hx hE hlt=>Cm.eB T kL W vO vP vC va x hO hx hE hlt);have KO:=hid AD1;have hmk:=ADz (sz T) hz;have hzT:sz T≤729:=hz;have xA:sz (BK os)≤729:=hle;obtain⟨W0,hW0⟩:∃W0,W0=w.alloc (.cells #[vO,vP,vC] 28):=⟨_,rfl⟩;have HB0:=hid (show Below (w.heap.size+1) (w.alloc (.cells #[vO,vP,vC] 28)) W0 by rw[hW0];exact A7 _ _);clear hP hu hT hs hg hL ES hos U9 hOs kL AD1 hz hle AF1;go_enter Tryz.func137,Tryz.ntmps137;go_upto_region 1 with fail;rw[←hW0];clear hW0;obtain⟨e0,e1,e2⟩:=Cq HB0.out;have hk0:=Dc HB0.out Any;have AF4:w.heap.size+1≤W0.heap.size:=by have:=HB0.out.size;simp at this;omega
 go_wp2_with fail;refine(AF2.out _ (HP.out.keep hk0) (HU.out.keep hk0)).mono ?_;rintro e w1 ⟨rfl,hb1⟩;have HB1:=hid (HB0.out.trans (hb1.mono AF4));clear e0 e1 e2 hk0 hb1 AF2;obtain⟨e0,e1,e2⟩:=Cq HB1.out;have hk1:=Dc HB1.out Any;have AF5:w.heap.size+1≤w1.heap.size:=by have:=HB1.out.size;simp at this;omega
 go_wp2_with fail;refine(Bv.out _ (by have h:=(HP.out.keep hk1).os;rwa[PW.out]at h)).mono ?_;rintro e w2 ⟨rfl,hb2⟩;have HB2:=hid (HB1.out.trans (hb2.mono AF5));clear e0 e1 e2 hk1 hb2 Bv;go_upto_region 3 with fail;obtain⟨w3,hw3⟩:∃w3,w3=w2.alloc (.cells (madeCells #[.bool false] (sz T)) 4):=⟨_,rfl⟩;rw[←hw3];have AF6:w.heap.size+1≤w2.heap.size:=by have:=HB2.out.size;simp at this;omega
 have HI3:=hid (show F9 w2.heap.size w3 (.slice (some ⟨w2.heap.size,0,none⟩) (sz T) (sz T)) (JF (nk T us os) (sz T) 0) by
  rw[ABu,hw3];exact F9.made w2 (sz T) AR (by unfold maxLen;omega))
 have HB3:=hid (show Below (w.heap.size+1) (w.alloc (.cells #[vO,vP,vC] 28)) w3 by rw[hw3];exact HB2.out.alloc AF6 _);have hs3:w2.heap.size<w3.heap.size:=by rw[hw3];simp
 clear hw3;obtain⟨e0,e1,e2⟩:=Cq HB3.out;have hk3:=Dc HB3.out Any;go_wp2_with fail;refine(AF3.out _ (HP.out.keep hk3) (HU.out.keep hk3)).mono ?_;rintro e w4 ⟨v4,rfl,Ey,hb4⟩;have Bl:=hid (HB3.out.trans (hb4.mono (by omega)));have HI4:=hid (HI3.out.keep (S:=Any) (AA.of_below hb4) (fun _ _=>trivial));have Iu:=hid (Ey.sl.mono (S':=fun k=>k≠w2.heap.size) (fun k hk=>by omega));have hs4:w2.heap.size<w4.heap.size:=Ai hs3 hb4.size;obtain⟨aS,cS,rfl,_⟩:=Iu.out.open;clear e0 e1 e2 hk3 hb4 Ey AF3 HI3 HB3 HB2 HB1 HB0;go_upto_region 4 with fail;obtain⟨w5,Ce⟩:∃w5,w5=w4.alloc (.cells #[.slice aS os.length cS,.slice none 0 0,.slice none 0 0] 28):=⟨_,rfl⟩;rw[←Ce];obtain⟨gI,nR⟩:∃gI,gI=w2.heap.size:=⟨_,rfl⟩;obtain⟨gV,Xk⟩:∃gV,gV=w4.heap.size:=⟨_,rfl⟩;rw[←nR,←Xk];rw[←nR]at HI4;have Aa:=hid (show Below (w.heap.size+1) (w.alloc (.cells #[vO,vP,vC] 28)) w5 by rw[Ce];exact Bl.out.alloc (by omega) _);have dJ:AA (fun _=>True) w4 w5:=by rw[Ce];exact AJ.alloc _
 have wL:=Dc Aa.out Any;have XZ:=hid (HI4.out.keep dJ (fun _ _=>trivial));have Dx:=hid ((BC.IE HP.out).keep (wL.mono (fun _ _=>trivial)) |>.mono (S':=fun k=>k≠gI) (fun k (hk:k<w.heap.size)=>by omega));have yN:=hid (AP.mono (S':=fun k=>k≠gI) (AP.keep (FZ.AP.IE HU.out) (wL.mono (fun _ _=>trivial))) (fun k (hk:k<w.heap.size)=>by omega));have Ew:=hid (AL.mono (S':=fun k=>k≠gI) (AL.keep Iu.out (dJ.mono (fun _ _=>trivial))) (fun k hk=>by rw[nR];exact hk));have c0:w5.cell? ⟨gV,0,none⟩=some (.slice aS os.length cS):=by rw[Ce,Xk];exact(Ah _ _ _ _ _ (0,0) (BA w4 _)).trans rfl
 have c1:w5.cell? ⟨gV,1,none⟩=some (.slice none 0 0):=by rw[Ce,Xk];exact(Ah _ _ _ _ _ (0,0) (BA w4 _)).trans rfl
 have c2:w5.cell? ⟨gV,2,none⟩=some (.slice none 0 0):=by rw[Ce,Xk];exact(Ah _ _ _ _ _ (0,0) (BA w4 _)).trans rfl
 have zX:gV<w5.heap.size:=by rw[Ce,Xk];simp
 have hn2:¬gV=gI:=by omega
 have hn1:¬w.heap.size=gI:=by omega
 have dL:gI<w5.heap.size:=by omega
 have AOR:w.heap.size+1≤gI:=by omega
 have Qk:=hid (And.intro c0 (And.intro c1 c2));clear Ce nR Xk dJ wL c0 c1 c2 Iu HI4 Bl hs4 hs3 AF6 AF5 AF4;go_wp2_with fail;go_loopw [8] (fun iv wr=>∃k:Nat,k≤sz (BK os)∧iv= .int .i64 (k:Int)∧Hid (F9 gI wr (.slice (some ⟨gI,0,none⟩) (sz T) (sz T)) (JF (nk T us os) (sz T) k))∧Hid (AA (fun k=>k≠gI) w5 wr)∧Below (w.heap.size+1) (w.alloc (.cells #[vO,vP,vC] 28)) wr) (fun iv _=>sz (BK os)-(intOf iv).toNat);case atStart=>exact⟨0,AU _,rfl,XZ,hid AJ,Aa.out⟩
 case round=>
  obtain⟨k,hk,rfl,Xl,hKr,hB⟩:=hrel;have Aa:=hid hB;obtain⟨e0,e1,e2⟩:=Cq hB;have OG:=hKr.out.size;have hwr:w.heap.size<wr.heap.size:=by have:=hB.size;simp at this;omega
  have hVr:gV<wr.heap.size:=by omega
  have AOS:gI<wr.heap.size:=by omega
  clear hB;by_cases hlt:k<sz (BK os)
  ·have hki:decide ((k:Int)<(sz (BK os):Int))=true:=by simp;omega
   have c0:=(hKr.out.cell (b:=gV) (o:=0) hn2 zX).trans Qk.out.1;have c1:=(hKr.out.cell (b:=gV) (o:=1) hn2 zX).trans Qk.out.2.1;have c2:=(hKr.out.cell (b:=gV) (o:=2) hn2 zX).trans Qk.out.2.2;have Bc:=hid (Dx.out.keep hKr.out);have VC:=hid (AP.keep yN.out hKr.out);have wM:=hid (fun W (h:AA (fun k=>k≠gI) wr W)=>show AL Any W vO (ints (Cm.Gd T)) from by
    have h2:=((Bc.out.keep h).mono (S':=Any) (fun _ _=>trivial)).os;rwa[PW.out]at h2)
   have yS:=hid (AL.keep Ew.out hKr.out);obtain⟨q,hq⟩:∃q,q=nk T us os k:=⟨_,rfl⟩;have hqz:q<sz T:=by rw[hq];exact MP.out k
   have zY:=hid (fun W va (hO:AL Any W vO (ints (Cm.Gd T))) (hx:AL Any W va (ints (BX (mul T) (AB.one T) us (at_ (BK os) k))))=>(show Calls Tryz.prog 139 #[.agg #[vO,vP,vC],va] W (Cm.QB q W) from by
    rw[hq];exact zW.out W va _ hO hx (HE.out k) (MP.out k)))
   have hq1:(q:Int)<(sz T:Int):=by omega
   have hq0:(0:Int)≤(q:Int):=by omega
   have HIS:=hid (show JF (nk T us os) (sz T) (k+1)=(JF (nk T us os) (sz T) k).set q true by rw[hq];exact ABv _ _ _);have Dw:k≤1000000:=by omega
   clear hq;go_upto_region 7 with fail;go_region_held3 (fun w'=>(∀b o,b<wr.heap.size→¬b=gI→w'.cell? ⟨b,o,none⟩=wr.cell? ⟨b,o,none⟩)∧AA (fun k=>k≠gI) wr w')
    (first|exact AD0 (by repeat(first|exact AJ.drew|exact AA.refl _ _|refine AA.setCell ?_ (by simp) _|refine AA.trans ?_ (AA.of_below (by assumption)))))
    (first|(go_at_call 140;refine(HAT.out _ (.slice aS os.length cS) (.slice none 0 0) (.slice none 0 0) k Dw (by rw[KO.out];exact AL.mono (AL.keep yS.out (by repeat(first|exact AJ.drew|exact AA.refl _ _|exact AJ.alloc _|exact(AJ.alloc _).drew|refine AA.trans ?_ (AA.of_below (by assumption))))) (fun _ _=>trivial))).mono ?_;rintro e w6 ⟨g6,c6,rfl,A8,hb6⟩)|(go_at_call 159;refine(Bw.out _ _ k ((Bc.out.keep (by repeat(first|exact AJ.drew|exact AA.refl _ _|exact AJ.alloc _|exact(AJ.alloc _).drew|refine AA.trans ?_ (AA.of_below (by assumption))))).mono (fun _ _=>trivial)) (AP.mono (AP.keep VC.out (by repeat(first|exact AJ.drew|exact AA.refl _ _|exact AJ.alloc _|exact(AJ.alloc _).drew|refine AA.trans ?_ (AA.of_below (by assumption))))) (fun _ _=>trivial)) ((A8.sl.mono (fun _ _=>trivial)).keep (by repeat(first|exact AJ.drew|exact AA.refl _ _|exact AJ.alloc _|exact(AJ.alloc _).drew|refine AA.trans ?_ (AA.of_below (by assumption)))))).mono ?_;rintro e w7 ⟨v7,rfl,Cr,Cz⟩)|(go_at_call 139;refine(zY.out _ v7 (wM.out _ (by repeat(first|exact AJ.drew|exact AA.refl _ _|exact AJ.alloc _|exact(AJ.alloc _).drew|refine AA.trans ?_ (AA.of_below (by assumption))))) ((Cr.sl.mono (fun _ _=>trivial)).keep (by repeat(first|exact AJ.drew|exact AA.refl _ _|exact AJ.alloc _|exact(AJ.alloc _).drew|refine AA.trans ?_ (AA.of_below (by assumption)))))).mono ?_;rintro e w8 ⟨rfl,CJ⟩;have MO:=Xl.out.keep (S:=Any) (show AA Any wr w8 from(by repeat(first|exact AJ.drew|exact AA.refl _ _|exact AJ.alloc _|exact(AJ.alloc _).drew|refine AA.trans ?_ (AA.of_below (by assumption))))) (fun _ _=>trivial);obtain⟨s8,f8⟩:=MO.cell (gz hqz);have K7:wr.heap.size≤w8.heap.size:=(show AA Any wr w8 from(by repeat(first|exact AJ.drew|exact AA.refl _ _|exact AJ.alloc _|exact(AJ.alloc _).drew|refine AA.trans ?_ (AA.of_below (by assumption))))).size))
   have zZ:=hid (show F9 gI (w8.setCell ⟨gI,q,none⟩ (.bool true)) (.slice (some ⟨gI,0,none⟩) (sz T) (sz T)) (JF (nk T us os) (sz T) (k+1)) by rw[HIS.out];exact MO.set q true);have za:=hid (show AA (fun k=>k≠gI) w5 (w8.setCell ⟨gI,q,none⟩ (.bool true)) from(hKr.out.trans (show AA (fun k=>k≠gI) wr w8 from(by repeat(first|exact AJ.drew|exact AA.refl _ _|exact AJ.alloc _|exact(AJ.alloc _).drew|refine AA.trans ?_ (AA.of_below (by assumption)))))).setCell (by simp) _);have G6:=hid (show Below (w.heap.size+1) (w.alloc (.cells #[vO,vP,vC] 28)) (w8.setCell ⟨gI,q,none⟩ (.bool true)) from(show Below (w.heap.size+1) _ w8 from(by repeat(first|exact Aa.out|exact Aa.out.drew|refine Below.step ?_ (by simp) (by assumption)))).setCell (p:=⟨gI,q,none⟩) AOR _);clear A8 Cr hb6 Cz CJ MO s8 f8 K7 e0 e1 e2 c0 c1 c2;go_wp2_with fail;go_roundw;case rel=>exact⟨k+1,by omega,by go_num,zZ,za,G6.out⟩
   case measure=>simp[intOf]<;>omega
  ·obtain rfl:k=sz (BK os):=by omega
   have h00:=Fb (base:=wr.heap.size) (e:=24) (size:=1) wr #[] 0 AR (AU _) rfl;have AOT:=hid (fun W (h:Below wr.heap.size wr W)=>show AL Any W vO (ints (Cm.Gd T)) from by
    have h2:=((Dx.out.keep (hKr.out.trans (AA.of_below h))).mono (S':=Any) (fun _ _=>trivial)).os;rwa[PW.out]at h2)
   have HIR:=hid Xl.out;have hsw:w.heap.size+1≤wr.heap.size:=by omega
   clear e0 e1 e2 hlt;go_wp2_with fail;rename World=>wo;go_loopw [9,10] (fun ov iv wr=>∃t:Nat,t≤sz T∧iv= .int .i64 (t:Int)∧Hid (Own2 24 2 wo.heap.size wr ov ((nums (Gn (nk T us os) (sz (BK os))) t).map (at_ T)))∧Below wo.heap.size wo wr) (fun _ iv _=>sz T-(intOf iv).toNat);case atStart=>exact⟨0,AU _,rfl,hid ⟨[],h00,rfl,by simp[nums]⟩,AX.alloc AR _⟩
   case round=>
    obtain⟨t,ht,rfl,ho2,hb⟩:=hrel;have HB:=hid hb;have EE:=hid (Aa.out.trans (hb.mono hsw));obtain⟨e0,e1,e2⟩:=Cq EE.out;have Uq:w.heap.size<wr.heap.size:=by have:=hb.size;omega
    clear hb h00;by_cases hlt:t<sz T
    ·have zf:=HIR.out.keep (S:=Any) (AA.of_below HB.out) (fun _ _=>trivial);obtain⟨s8,f8⟩:=zf.cell (gz hlt);have ht1:(t:Int)<(sz T:Int):=by omega
     have ht0:(0:Int)≤(t:Int):=by omega
     have zg:t≤1000000:=by omega
     have hns:=ABB (Gn (nk T us os) (sz (BK os))) t;have hnl:=nums_length (Gn (nk T us os) (sz (BK os))) t;obtain⟨nl,Rc⟩:∃nl,((nums (Gn (nk T us os) (sz (BK os))) t).map (at_ T)).length=nl:=⟨_,rfl⟩;have AOU:nl≤729:=by rw[←Rc,Bh];omega
     cases hbt:Gn (nk T us os) (sz (BK os)) t with
     |false=>
      rw[hbt]at s8 hns;simp only[Bool.false_eq_true,if_false,La]at hns;have Xm:=hid hns;clear zf hbt hns hnl Rc;go_wp2_with fail;go_roundw;case rel=>exact⟨t+1,by omega,by go_num,hid (by rw[Xm.out];exact ho2.out),HB.out⟩
      case measure=>simp[intOf]<;>omega
     |true=>
      rw[hbt]at s8 hns;simp only[if_true]at hns;have Xm:=hid (show(nums (Gn (nk T us os) (sz (BK os))) (t+1)).map (at_ T)=(nums (Gn (nk T us os) (sz (BK os))) t).map (at_ T)++[at_ T t] by rw[hns,Md];rfl);have ZR:=hid Rc;clear zf hbt hns hnl Rc;go_wp2_with fail;refine(AOQ.out _ t zg (AOT.out _ HB.out)).mono ?_;rintro e w1 ⟨g,c,rfl,ho,hb1⟩;have HB1:=hid (HB.out.trans (hb1.mono HB.out.size));have HRR:=hid (Ej.row (ho.mono (B':=wo.heap.size) HB.out.size));obtain⟨Jq,h1,h2,h4⟩:=ho2.out.of_below hb1;have G9:=hid (And.intro h2 h4);rw[ZR.out]at h1;clear ho hb1 h2 h4 ho2;go_wp2_with (at_builtin;(refine Fz _ rfl _ _ 25 rfl wo.heap.size 24 i0 (.slice none 0 0) 1 24 Tryz.underlying25 hi hz0 hz1 hz2 rfl (by decide) _ _ _ rfl (h1.alloc _) ⟨w1.heap.size,0,none⟩ 1 1 [.slice (some ⟨g,0,none⟩) (ints (at_ T t)).length c] rfl rfl ?c1 ?c2 ?c3 ?c4 ?c5 ?_));case c1=>
       intro j u hj
       match j,hj with
       |0,hj=>simp at hj;subst hj;simp[Addr.add]
      case c2=>intro u hu;simp at hu;subst hu;rfl
      case c3=>unfold maxLen;omega
      case c4=>omega
      case c5=>have:=HB1.out.size;simp;omega
      ·intro v' w2 hown hgrow _;have HN:=hid (show Own2 24 2 wo.heap.size w2 v' ((nums (Gn (nk T us os) (sz (BK os))) (t+1)).map (at_ T)) from by
        rw[Xm.out];exact Own2.push (w:=w1.alloc _) (us:=Jq) (by decide) ZR.out (h1.alloc _) G9.out.1 (fun i r u hr hu=>(G9.out.2 i r u hr hu).keep (S:=fun _=>True) (AJ.alloc _) (fun _ _=>trivial)) (HRR.out.keep (S:=fun _=>True) (AJ.alloc _) (fun _ _=>trivial)) hown hgrow)
       have HB2:=hid (show Below wo.heap.size wo w2 from(HB1.out.alloc (by have:=HB1.out.size;omega) _).grown hgrow (by simp;have:=HB1.out.size;omega) (fun g hg=>(Af h1 g hg).1));clear hown hgrow h1 G9 HRR;go_wp2_with fail;go_roundw;case rel=>exact⟨t+1,by omega,by go_num,HN,HB2.out⟩
       case measure=>simp[intOf]<;>omega
    ·obtain rfl:t=sz T:=by omega
     have HR:=hid (show ElR T us os w (.returned _) wr from⟨_,rfl,ho2.out.mono (by omega),(Dq Aa.out).trans (HB.out.mono (by omega))⟩);go_wp2_with fail;go_ret;exact HR.out
end Go.Proofs.YtaadbccidfdniaaGreat.Yn
