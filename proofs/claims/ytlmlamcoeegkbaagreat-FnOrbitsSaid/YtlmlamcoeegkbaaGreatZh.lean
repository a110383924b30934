import Derived.Test.YtlmlamcoeegkbaaGreatZ0
import Derived.Test.YtlmlamcoeegkbaaGreatZg
import Derived.Test.YtlmlamcoeegkbaaGreatZf
import Derived.Deep.AppendLies
/-
  Lemmas for the law FnOrbits, in short spelling.
-/
open Go.Lib (hid)
set_option linter.unusedVariables false
set_option linter.unusedSimpArgs false
set_option maxRecDepth 100000
set_option maxHeartbeats 40000000
namespace Go.Proofs.YtlmlamcoeegkbaaGreat.DwT
open Go.RowKit Go.Proofs.YtlmlamcoeegkbaaGreat Tow
theorem R2.at {B n c i m:Nat}{L:List Nat}{w:World}{a:Option Addr}(h:R2 B w L (.slice a n c))(hi:L[i]?=some m):
  ∃g u0 cur,a=some ⟨g,0,none⟩∧w.cell? ⟨g,i,none⟩=some u0∧w.frozen? ⟨g,i,none⟩=false∧w.heap[g]?=some (.cells cur 24 (0,0))∧cur[i]?=some u0∧R1 B w m u0∧B≤g∧g<w.heap.size:=by
 obtain⟨us,h1,h2⟩:=h;obtain⟨u,e1,e2⟩:=h2 i m hi;rcases id h1.2 with⟨h3,h4⟩|⟨g,cap,cur,h3,hB,hg,_,_,_,ht⟩
 ·have:=(zq2.1 hi).1;omega
 ·simp only[zq40]at h3;obtain⟨rfl,-, -⟩:=h3;rw[←ht,zq106]at e1;split at e1
  ·rw[zq118]at e1;exact⟨g,u,cur,rfl,by rw[zq15 w g i cur _ (0,0) hg];exact e1,zq25 w g i cur _ hg,hg,e1,e2,hB,(zq10.1 hg).1⟩
  ·cases e1
theorem R3.at {B n c i:Nat}{M:List (List Nat)}{L:List Nat}{w:World}{a:Option Addr}(h:R3 B w M (.slice a n c))(hi:M[i]?=some L):
  ∃g u0,a=some ⟨g,0,none⟩∧w.cell? ⟨g,i,none⟩=some u0∧R2 B w L u0∧B≤g∧g<w.heap.size:=by
 obtain⟨us,h1,h2⟩:=h;obtain⟨u,e1,e2⟩:=h2 i L hi;rcases id h1.2 with⟨h3,h4⟩|⟨g,cap,cur,h3,hB,hg,_,_,_,ht⟩
 ·have:=(zq2.1 hi).1;omega
 ·simp only[zq40]at h3;obtain⟨rfl,-, -⟩:=h3;rw[←ht,zq106]at e1;split at e1
  ·rw[zq118]at e1;exact⟨g,u,rfl,by rw[zq15 w g i cur _ (0,0) hg];exact e1,e2,hB,(zq10.1 hg).1⟩
  ·cases e1
theorem R2.form {B:Nat}{L:List Nat}{w:World}{v:Value}(h:R2 B w L v):∃a c,v= .slice a L.length c∧L.length≤c∧c≤maxLen:=by
 obtain⟨us,h1,_⟩:=h;rcases h1.2 with⟨rfl,h0⟩|⟨g,cap,cu,rfl,_,_,h3,h4,_⟩
 ·exact⟨none,0,by rw[h0],by omega,by simp[maxLen]⟩
 ·exact⟨_,cap,rfl,h3,h4⟩
theorem R3.form {B:Nat}{L:List (List Nat)}{w:World}{v:Value}(h:R3 B w L v):∃a c,v= .slice a L.length c∧L.length≤c∧c≤maxLen:=by
 obtain⟨us,h1,_⟩:=h;rcases h1.2 with⟨rfl,h0⟩|⟨g,cap,cu,rfl,_,_,h3,h4,_⟩
 ·exact⟨none,0,by rw[h0],by omega,by simp[maxLen]⟩
 ·exact⟨_,cap,rfl,h3,h4⟩
end Go.Proofs.YtlmlamcoeegkbaaGreat.DwT
namespace Go.Proofs.YtlmlamcoeegkbaaGreat.DwB
open Go.RowKit Go.Proofs.YtlmlamcoeegkbaaGreat Tow DwT
theorem PT.form {B n:Nat}{w:World}{vO vP vC:Value}(h:PT B w n vO vP vC):∃a1 c1 a2 c2 a3 c3,vO= .slice a1 n c1∧vP= .slice a2 n c2∧vC= .slice a3 n c3:=by
 obtain⟨a1,c1,rfl,_⟩:=h.1.len;obtain⟨a2,c2,rfl,_⟩:=h.2.1.form;obtain⟨a3,c3,rfl,_⟩:=h.2.2.form;exact⟨a1,c1,a2,c2,a3,c3,rfl,by simp,by simp⟩
theorem PT.ty {B n:Nat}{w w':World}{vO vP vC:Value}(h:PT B w n vO vP vC)(ht:Ty B w w'):PT B w' n vO vP vC:=⟨ht.one _ _ h.1,ht.two _ _ h.2.1,ht.three _ _ h.2.2⟩
theorem PT.mono {B B' n:Nat}{w:World}{vO vP vC:Value}(h:PT B w n vO vP vC)(hB:B'≤B):PT B' w n vO vP vC:=⟨h.1.mono hB,h.2.1.mono hB,h.2.2.mono hB⟩
end Go.Proofs.YtlmlamcoeegkbaaGreat.DwB
namespace Go.Proofs.YtlmlamcoeegkbaaGreat.DwD
open Go.RowKit Go.Proofs.YtlmlamcoeegkbaaGreat Tow CyA CyB CyC DwT DwB DwC
def cshape (n:Nat):List (List Nat):=(List.range n).map fun i=>List.replicate (n-(i+1)) n
theorem cshape_get {n i:Nat}(h:i<n):(cshape n)[i]?=some (List.replicate (n-(i+1)) n):=by unfold cshape;simp[h]
theorem rep_get {n m i:Nat}(h:i<m):(List.replicate m n)[i]?=some n:=by simp[h]
def PX (B n:Nat)(w:World)(g:Nat)(vO vP vC:Value):Prop:=w.heap[g]?=some (.cells #[vO,vP,vC] 28 (0,0))∧B≤g∧PT B w n vO vP vC
theorem PX.lt {B n:Nat}{w:World}{g:Nat}{vO vP vC:Value}(h:PX B n w g vO vP vC):g<w.heap.size:=(zq10.1 h.1).1
theorem PX.below {B n:Nat}{w w':World}{g:Nat}{vO vP vC:Value}(h:PX B n w g vO vP vC)(hb:Below w.heap.size w w'):PX B n w' g vO vP vC:=⟨(hb.block g h.lt).trans h.1,h.2.1,h.2.2.ty (Ty.below hb)⟩
theorem PX.put {B n b i m:Nat}{w:World}{g:Nat}{vO vP vC u0 u:Value}{cur:Array Value}(h:PX B n w g vO vP vC)(hb:w.heap[b]?=some (.cells cur 24 (0,0)))(h0:cur[i]?=some u0)(hu0:R1 B w m u0)(hu:R1 B w m u):PX B n (w.setCell ⟨b,i,none⟩ u) g vO vP vC:=
 ⟨by
  rw[zq53 w ⟨b,i,none⟩ g u ?_]
  ·exact h.1
  ·intro e;have e:g=b:=e;subst e;rw[h.1]at hb;simp at hb,h.2.1,h.2.2.ty (Ty.set2 hb h0 hu0 hu)⟩
theorem shift_r (b m k:Nat)(hb:b≤100)(hm:m≤100)(hk:k≤100)(v:Value)(B:Nat)(w:World)(hv:R1 B w k v):Calls Tryz.prog 192 #[.int .i64 (b:Int),v,.int .i64 (m:Int)] w (ShR (b+k+m) w):=by
 obtain⟨l,rfl,hl⟩:=hv.sl;exact shift_any b m hb hm v l w (hl.mono fun _ _=>trivial) hk
theorem run_app (w:World)(base:Nat)(ty:TypeId)(g n cap m c:Nat)(xs l:List Int)(b:Option Addr)(hown:w.ownsRow base 2 1 (.slice (some ⟨g,0,none⟩) n cap) n (vals xs))(hsl:SlI Any w (.slice b m c) l)(h63:n+m≤1000000)(hbase:base≤w.heap.size):
  ∃g' c' w',(Builtin.append_ #[24,24] ty #[.slice (some ⟨g,0,none⟩) n cap,.slice b m c]).run Tryz.prog w= .ok (.slice (some ⟨g',0,none⟩) (n+m) c') w'∧w'.ownsRow base 2 1 (.slice (some ⟨g',0,none⟩) (n+m) c') (n+m) (vals (xs++l))∧w.grownBy w' (some g):=by
 obtain⟨i0,hi,hz0,hz1,hz2⟩:=zq41 infoI;have ht:=Tryz.underlying24;have hsl2:=hsl;obtain⟨ao,c',he,hc,hm,hn,hx⟩:=hsl;obtain⟨rfl,rfl,rfl⟩:b=ao∧m=l.length∧c=c':=by simpa using he
 have hnc:n≤cap:=by
  rcases hown.2 with⟨h,_⟩|⟨g',cap',cur,h,_,_,h3,_⟩
  ·cases h
  ·have h:g=g'∧cap=cap':=by simpa using h
   omega
 cases b with
 |none=>
  have h0:c=0:=hn rfl;subst h0;have hl0:l=[]:=zq21 (by omega);subst hl0;refine⟨g,cap,w,?_,by simpa using hown,⟨rfl,rfl,rfl,zq1 _,fun _ _ _=>rfl⟩⟩;simp[Builtin.append_,run_underlying ht,sizeOf,typeInfo,hi,hz1,Builtin.lenOf,Builtin.firstCells,hnc,storeCells]
 |some ad=>
  obtain⟨v',w',h1,h2,h3,h4⟩:=run_append_own (P:=Tryz.prog) w base 24 ty 2 i0 (.int .i64 0) 1 8 ht hi hz0 hz1 hz2 rfl (by decide) _ n (vals xs) hown ad l.length c (vals l) (by simp[vals]) (SlI.src hsl2 zqK) (vals_one l) (by unfold maxLen;omega) (by omega) hbase;rcases h2.2 with⟨h5,_⟩|⟨g',cap',cur,h5,_⟩
  ·exact absurd (h4.1 h5).1 (by simp)
  ·subst h5;exact⟨g',cap',w',h1,by simpa[vals]using h2,h3⟩
theorem step_app {ops:Array Oper}{o:Oper}{a:Act}{w:World}{K:Act→World→Prop}{Q:Exit→Act→World→Prop}{E:Prop}(hgd:o.guard=none)(s x:Operand)
  (ho:o.op= .call { callee:=.builtin .append,args:= #[s,x],argTypes:= #[24,24] }) (base g n cap m c:Nat) (xs l:List Int) (b:Option Addr) (hs:a.eval s= .slice (some ⟨g,0,none⟩) n cap) (hown:w.ownsRow base 2 1 (.slice (some ⟨g,0,none⟩) n cap) n (vals xs))
  (hx:a.eval x= .slice b m c) (hsl:SlI Any w (.slice b m c) l) (h63:n+m≤1000000) (hbase:base≤w.heap.size)
  (h:∀g' c' w',w'.ownsRow base 2 1 (.slice (some ⟨g',0,none⟩) (n+m) c') (n+m) (vals (xs++l))→w.grownBy w' (some g)→K (a.put o.dst (.slice (some ⟨g',0,none⟩) (n+m) c')) w'):
  if Region.wanted o (yielded ops a.tmps)=true then Oper.wp Tryz.prog o a w K Q else E:=by
 have hw:Region.wanted o (yielded ops a.tmps)=true:=by simp[Region.wanted,hgd]
 rw[zq57 hw];obtain⟨g',c',w',hr,h2,h3⟩:=run_app w base o.type g n cap m c xs l b hown hsl h63 hbase;unfold Oper.wp execOp;simp only[ho,resolve,invoke,builtin,Sem.run_bind,Sem.run_pure,zq122,zq132,zq81,zq129,hs,hx,hr];exact h g' c' w' h2 h3
theorem sl_own {B n:Nat}{w:World}{v:Value}{l:List Int}(h:w.ownsRow B 2 1 v n (vals l))(hl:l.length=n):SlI Any w v l:=by
 subst hl;exact(Own.sl h).mono fun _ _=>trivial
abbrev zbox:Obj:=.cells #[.slice none 0 0,.slice none 0 0,.slice none 0 0] 28 (0,0)
theorem box_new {B B0 n:Nat}{W:World}{x y z:Value}(hp:PT B W n x y z)(hB:B0≤B)(hW:B0≤W.heap.size):PX B0 n (W.alloc (.cells #[x,y,z] 28)) W.heap.size x y z:=
 ⟨zq17 _ _,hW,(hp.ty (Ty.keep (S:=Any) (zqK.alloc _) fun _ _=>trivial)).mono hB⟩
theorem box_put {B B0 n g:Nat}{W:World}{x y z:Value}(hA:W.heap[g]?=some zbox)(hp:PT B W n x y z)(hB:B0≤B)(hg:B0≤g)(hgB:g<B):PX B0 n (((W.setCell ⟨g,0,none⟩ x).setCell ⟨g,1,none⟩ y).setCell ⟨g,2,none⟩ z) g x y z:=
 ⟨put3 hA,hg,(hp.ty (Ty.keep (S:=fun k=>B≤k) ((((Keep.refl _ W).setCell (by simp;omega) _).setCell (by simp;omega) _).setCell (by simp;omega) _) fun _ h=>h)).mono hB⟩
def Slot (B N:Nat)(w:World)(gp i:Nat):Prop:=w.frozen? ⟨gp,i,none⟩=false∧B≤gp∧gp<w.heap.size∧∃cur u0,w.heap[gp]?=some (.cells cur 24 (0,0))∧cur[i]?=some u0∧R1 B w N u0
theorem Slot.below {B N gp i:Nat}{w w':World}(h:Slot B N w gp i)(hb:Below w.heap.size w w'):Slot B N w' gp i:=by
 obtain⟨h1,h2,h3,cur,u0,h4,h5,h6⟩:=h;have hg:=(hb.block gp h3).trans h4;exact⟨zq25 w' gp i cur _ hg,h2,zq7 h3 hb.size,cur,u0,hg,h5,(Ty.below hb).one _ _ h6⟩
theorem Slot.put {B N gp i:Nat}{w:World}{g n:Nat}{vO vP vC u:Value}(h:Slot B N w gp i)(hx:PX B n w g vO vP vC)(hu:R1 B w N u):PX B n (w.setCell ⟨gp,i,none⟩ u) g vO vP vC:=by
 obtain⟨h1,h2,h3,cur,u0,h4,h5,h6⟩:=h;exact hx.put h4 h5 h6 hu
theorem Slot.cell {B N gp i:Nat}{w:World}(h:Slot B N w gp i):∃u,w.cell? ⟨gp,i,none⟩=some u:=by
 obtain⟨h1,h2,h3,cur,u0,h4,h5,h6⟩:=h;exact⟨u0,(zq15 w gp i cur _ (0,0) h4).trans h5⟩
theorem PX.pslot {B N g y2 i:Nat}{w:World}{vO vC:Value}{x2:Option Addr}(h:PX B N w g vO (.slice x2 N y2) vC)(hi:i<N):∃gp,x2=some ⟨gp,0,none⟩∧Slot B N w gp i:=by
 obtain⟨gp,u0,cur,e,_,h2,h3,h4,h5,h6,h7⟩:=h.2.2.2.1.at (rep_get hi);exact⟨gp,e,h2,h6,h7,cur,u0,h3,h4,h5⟩
theorem PX.cslot {B N g y3 i j:Nat}{w:World}{vO vP:Value}{x3:Option Addr}(h:PX B N w g vO vP (.slice x3 N y3))(hi:i<N)(hj:j<N-(i+1)):
  ∃gc gr yr,x3=some ⟨gc,0,none⟩∧w.cell? ⟨gc,i,none⟩=some (.slice (some ⟨gr,0,none⟩) (N-(i+1)) yr)∧gc<w.heap.size∧Slot B N w gr j:=by
 obtain⟨gc,u,e,h1,h2,h3,h4⟩:=h.2.2.2.2.at (cshape_get hi);obtain⟨a,yr,rfl,_⟩:=h2.form;rw[zq29]at h1 h2;obtain⟨gr,u0,cur,rfl,_,k2,k3,k4,k5,k6,k7⟩:=h2.at (rep_get hj);exact⟨gc,gr,yr,e,h1,h4,k2,k6,k7,cur,u0,k3,k4,k5⟩
theorem prow {B m i c:Nat}{w:World}{vO vC:Value}{a:Option Addr}(h:PT B w m vO (.slice a m c) vC)(hi:i<m):∃ga aa ca,a=some ⟨ga,0,none⟩∧w.cell? ⟨ga,i,none⟩=some (.slice aa m ca)∧ga<w.heap.size∧R1 B w m (.slice aa m ca):=by
 obtain⟨ga,u,cur,e,h1,h2,h3,h4,h5,h6,h7⟩:=h.2.1.at (rep_get hi);obtain⟨aa,ca,rfl,_⟩:=h5.len;exact⟨ga,aa,ca,e,h1,h7,h5⟩
theorem crow {B m i c:Nat}{w:World}{vO vP:Value}{a:Option Addr}(h:PT B w m vO vP (.slice a m c))(hi:i<m):∃ga aa ca,a=some ⟨ga,0,none⟩∧w.cell? ⟨ga,i,none⟩=some (.slice aa (m-(i+1)) ca)∧ga<w.heap.size∧R2 B w (List.replicate (m-(i+1)) m) (.slice aa (m-(i+1)) ca):=by
 obtain⟨ga,u,e,h1,h2,h3,h4⟩:=h.2.2.at (cshape_get hi);obtain⟨aa,ca,rfl,_⟩:=h2.form;rw[zq29]at h1 h2;exact⟨ga,aa,ca,e,h1,h4,h2⟩
theorem r2row {B k n m c:Nat}{w:World}{a:Option Addr}(h:R2 B w (List.replicate k m) (.slice a n c)){j:Nat}(hj:j<k):∃ga aa ca,a=some ⟨ga,0,none⟩∧w.cell? ⟨ga,j,none⟩=some (.slice aa m ca)∧ga<w.heap.size∧R1 B w m (.slice aa m ca):=by
 obtain⟨ga,u,cur,e,h1,h2,h3,h4,h5,h6,h7⟩:=h.at (rep_get hj);obtain⟨aa,ca,rfl,_⟩:=h5.len;exact⟨ga,aa,ca,e,h1,h7,h5⟩
theorem kn_mk {gN:Nat}{wr w':World}(h:Keep (fun k=>k≠gN) wr w'):(∀b o,b<wr.heap.size→¬b=gN→w'.cell? ⟨b,o,none⟩=wr.cell? ⟨b,o,none⟩)∧Keep (fun k=>k≠gN) wr w':=⟨fun b o hb hn=>h.cell hn hb,h⟩
def FinP (wc w6:World)(g k:Nat)(x y z:Value):Prop:=w6.heap[g]?=some zbox∧wc.heap.size≤g∧(∃B,PT B w6 k x y z∧g<B)∧Below wc.heap.size wc w6
def FinN (wc w6:World)(k:Nat)(x y z:Value):Prop:=(∃B,PT B w6 k x y z∧wc.heap.size≤B)∧Below wc.heap.size wc w6
abbrev FinR (wc W:World)(k:Nat)(p:Value):Prop:=∃g x1 y1 x2 y2 x3 y3,p= .pointer (some ⟨g,0,none⟩)∧Hid (PX wc.heap.size k W g (.slice x1 k y1) (.slice x2 k y2) (.slice x3 k y3))∧Hid (Below wc.heap.size wc W)
theorem fin_put {wc w6:World}{g k y1 y2 y3:Nat}{x1 x2 x3:Option Addr}(h:FinP wc w6 g k (.slice x1 k y1) (.slice x2 k y2) (.slice x3 k y3)):
  FinR wc (((w6.setCell ⟨g,0,none⟩ (.slice x1 k y1)).setCell ⟨g,1,none⟩ (.slice x2 k y2)).setCell ⟨g,2,none⟩ (.slice x3 k y3)) k (.pointer (some ⟨g,0,none⟩)):=by
 obtain⟨h1,h2,⟨B,h3,h4⟩,h5⟩:=h;exact⟨g,x1,y1,x2,y2,x3,y3,rfl,hid (box_put h1 h3 (by omega) h2 h4),hid (((h5.setCell (p:=⟨g,0,none⟩) h2 _).setCell (p:=⟨g,1,none⟩) h2 _).setCell (p:=⟨g,2,none⟩) h2 _)⟩
theorem fin_new {wc w6:World}{k y1 y2 y3:Nat}{x1 x2 x3:Option Addr}(h:FinN wc w6 k (.slice x1 k y1) (.slice x2 k y2) (.slice x3 k y3)):
  FinR wc (w6.alloc (.cells #[.slice x1 k y1,.slice x2 k y2,.slice x3 k y3] 28)) k (.pointer (some ⟨w6.heap.size,0,none⟩)):=by
 obtain⟨⟨B,h3,h4⟩,h5⟩:=h;exact⟨w6.heap.size,x1,y1,x2,y2,x3,y3,rfl,hid (box_new h3 h4 h5.size),hid (h5.alloc h5.size _)⟩
theorem unit_r (n k:Nat)(hn:n≤100)(hk:k<n)(w:World):Calls Tryz.prog 94 #[.int .i64 (n:Int),.int .i64 (k:Int)] w (ShR n w):=
 (unit_row n k hn hk w).mono fun e w' ⟨g,h1,h2,h3⟩=>⟨g,n,h1,⟨ints ((List.replicate n 0).set k 1),by simp[ints],by
  have hl:(ints ((List.replicate n 0).set k 1)).length=n:=by simp[ints]
  unfold Own at h2;rw[hl]at h2;exact h2⟩,h3⟩
theorem wpList_app {ops:Array Oper}{rest:List Oper}{o:Oper}{a:Act}{w:World}{Q:Exit→Act→World→Prop}(hgd:o.guard=none)(s x:Operand)
  (ho:o.op= .call { callee:=.builtin .append,args:= #[s,x],argTypes:= #[24,24] }) (base g n cap m c:Nat) (xs l:List Int) (b:Option Addr) (hs:a.eval s= .slice (some ⟨g,0,none⟩) n cap) (hown:w.ownsRow base 2 1 (.slice (some ⟨g,0,none⟩) n cap) n (vals xs))
  (hx:a.eval x= .slice b m c) (hsl:SlI Any w (.slice b m c) l) (h63:n+m≤1000000) (hbase:base≤w.heap.size)
  (h:∀g' c' w',w'.ownsRow base 2 1 (.slice (some ⟨g',0,none⟩) (n+m) c') (n+m) (vals (xs++l))→w.grownBy w' (some g)→wpList Tryz.prog ops Q rest (a.put o.dst (.slice (some ⟨g',0,none⟩) (n+m) c')) w'):wpList Tryz.prog ops Q (o::rest) a w:=by
 refine wpList_plain hgd fun K hK=>?_;obtain⟨g',c',w',hr,h2,h3⟩:=run_app w base o.type g n cap m c xs l b hown hsl h63 hbase;unfold Oper.wp execOp;simp only[ho,resolve,invoke,builtin,Sem.run_bind,Sem.run_pure,zq122,zq132,zq81,zq129,hs,hx,hr];exact hK _ _ (h g' c' w' h2 h3)
theorem own_r (m:Nat)(hm:m≤100)(a:Option Addr)(c:Nat)(l:List Int)(hl:l.length=m)(w:World)(hv:SlI Any w (.slice a m c) l):
  Calls Tryz.prog 97 #[.slice a m c] w fun e w'=>∃g c,e= .returned (.slice (some ⟨g,0,none⟩) m c)∧w'.ownsRow w.heap.size 2 1 (.slice (some ⟨g,0,none⟩) m c) m (vals l)∧Below w.heap.size w w':=by
 refine(own_any Any (.slice a m c) l w hv (by omega)).mono ?_;rintro e w2 ⟨g,c,rfl,ho,hb⟩;unfold Own at ho;rw[hl]at ho ⊢;exact⟨g,c,rfl,ho,hb⟩
theorem triv_r (n:Nat)(hn:n≤100)(os:List Int)(hl:os.length=n)(v:Value)(w:World)(hv:SlI Any w v os):
  Calls Tryz.prog 96 #[v] w fun e w'=>∃x1 y1 x2 y2 x3 y3,e= .returned (.agg #[.slice x1 n y1,.slice x2 n y2,.slice x3 n y3])∧PT w.heap.size w' n (.slice x1 n y1) (.slice x2 n y2) (.slice x3 n y3)∧Below w.heap.size w w':=by
 refine(triv_any os v w hv (by omega)).mono ?_;rintro e w2 ⟨vO,vP,vC,rfl,hp,hb⟩;rw[hl]at hp;obtain⟨x1,y1,x2,y2,x3,y3,rfl,rfl,rfl⟩:=hp.form;exact⟨_,_,_,_,_,_,rfl,hp,hb⟩
theorem gp_ne {B N n g gp i:Nat}{w:World}{vO vP vC:Value}(h:Slot B N w gp i)(hx:PX B n w g vO vP vC):¬g=gp:=fun e=>by
 obtain⟨_,_,_,cur,u0,h4,_⟩:=h;have h5:=hx.1;rw[e,h4]at h5;simp at h5
theorem gc_ne {B N g gc gr y3 i j:Nat}{w:World}{vO vP:Value}(hx:PX B N w g vO vP (.slice (some ⟨gc,0,none⟩) N y3))(h:Slot B N w gr j):¬gc=gr:=fun e=>by
 obtain⟨us,q1,_⟩:=hx.2.2.2.2;obtain⟨_,_,_,cur,u0,h5,_⟩:=h;exact owns_ne q1 h5 (by decide) (by rw[e];rfl)
end Go.Proofs.YtlmlamcoeegkbaaGreat.DwD
namespace Go.Proofs.YtlmlamcoeegkbaaGreat.DwE
open Go.RowKit Go.Proofs.YtlmlamcoeegkbaaGreat Tow Val CyA CyB DwT DwB DwC
abbrev OwL (B:Nat)(w:World)(v:Value)(x:List Nat):Prop:=w.ownsRow B 2 1 v x.length (vals (ints x))
def stripN:Nat→Nat→Nat→Nat×Nat
 |0,p,n=>(0,n)
 |k+1,p,n=>if n%p=0 then((stripN k p (n/p)).1+1,(stripN k p (n/p)).2)else(0,n)
def facS:List Nat→Nat→List Nat×Nat
 |[],n=>([],n)
 |d::ds,n=>(List.replicate (stripN 10 d n).1 d++(facS ds (stripN 10 d n).2).1,(facS ds (stripN 10 d n).2).2)
theorem vals_snoc (x:List Nat)(a:Nat):vals (ints x)++[.int .i64 (a:Int)]=vals (ints (x++[a])):=by simp[vals,ints]
theorem strip_more {j q m:Nat}(h:m%q=0):stripN (j+1) q m=((stripN j q (m/q)).1+1,(stripN j q (m/q)).2):=by rw[stripN,zq57 h]
theorem strip_end {j q m:Nat}(h:m%q≠0):stripN j q m=(0,m):=by cases j with
 |zero=>rfl
 |succ j=>rw[stripN,zq37 h]
def Sp (q n m e:Nat):Prop:=1≤m∧m≤n∧e≤10∧m<2^(10-e)∧stripN 10 q n=(e+(stripN (10-e) q m).1,(stripN (10-e) q m).2)
theorem Sp.start {q n:Nat}(h1:1≤n)(h2:n≤1000):Sp q n n 0:=⟨h1,zq1 _,by omega,by show n<1024;omega,by simp⟩
theorem Sp.step {q n m e:Nat}(h:Sp q n m e)(hq:2≤q)(hm:m%q=0):Sp q n (m/q) (e+1)∧m/q<m∧e<10:=by
 obtain⟨h1,h2,h3,h4,h5⟩:=h;have he:e<10:=by
  refine Nat.lt_of_not_le fun h=>?_;rw[show 10-e=0 by omega]at h4;simp at h4;omega
 have hd:m/q<m:=Nat.div_lt_self (by omega) (by omega);have hqm:q≤m:=Nat.le_of_dvd (by omega) (Nat.dvd_of_mod_eq_zero hm);have h1':1≤m/q:=(Nat.one_le_div_iff (by omega)).2 hqm;have h2':m/q<2^(10-(e+1)):=by
  rw[Nat.div_lt_iff_lt_mul (by omega)];rw[show 10-e=(10-(e+1))+1 by omega,zq112]at h4;exact zq7 h4 (Nat.mul_le_mul zqN hq)
 refine⟨⟨h1',by omega,by omega,h2',?_⟩,hd,he⟩;rw[h5,show 10-e=(10-(e+1))+1 by omega,strip_more hm];exact Prod.ext (by simp only;omega) rfl
theorem Sp.fin {q n m e:Nat}(h:Sp q n m e)(hm:m%q≠0):stripN 10 q n=(e,m):=by
 obtain⟨h1,h2,h3,h4,h5⟩:=h;rw[h5,strip_end hm];rfl
theorem own_push {B:Nat}{w':World}{v':Value}{x:List Nat}{a:Nat}(h:w'.ownsRow B 2 1 v' (x.length+1) (vals (ints x)++[.int .i64 (a:Int)])):OwL B w' v' (x++[a]):=by
 unfold OwL;rw[←vals_snoc,zq31];exact h
def dsF (d:Nat):List Nat:=[2,3,5,7].filter (fun p=>decide (d≤p))
def FSR (r:List Nat×Nat)(w:World)(e:Ending)(w':World):Prop:=∃v,e= .returned (.tuple #[v,.bool (r.2==1)])∧OwL w.heap.size w' v r.1∧Below w.heap.size w w'
theorem dsF_prime {d:Nat}(h:primeB (d:Int)=true):dsF d=d::dsF (d+1):=by
 simp[primeB]at h;rcases h with((h|h)|h)|h
 ·obtain rfl:d=2:=by omega
  rfl
 ·obtain rfl:d=3:=by omega
  rfl
 ·obtain rfl:d=5:=by omega
  rfl
 ·obtain rfl:d=7:=by omega
  rfl
theorem dsF_not {d:Nat}(hd:2≤d∧d≤7)(h:primeB (d:Int)=false):dsF d=dsF (d+1):=by
 simp[primeB]at h;have:d=4∨d=6:=by omega
 rcases this with rfl|rfl<;>rfl
theorem FS_next {d m m' e:Nat}{ds:List Nat}{R:List Nat×Nat}{out:List Nat}(h:out++(facS (d::ds) m).1=R.1∧(facS (d::ds) m).2=R.2)(hs:stripN 10 d m=(e,m')):(out++List.replicate e d)++(facS ds m').1=R.1∧(facS ds m').2=R.2:=by
 rw[facS,hs]at h;simp only at h;rw[zq74];exact h
theorem rep_snoc (out:List Nat)(e d:Nat):out++List.replicate e d++[d]=out++List.replicate (e+1) d:=by
 rw[zq74,zq101]
theorem facS_any (n0:Nat)(h1:1≤n0)(h2:n0≤729)(w:World):Calls Tryz.prog 218 #[.int .i64 (n0:Int)] w (FSR (facS [2,3,5,7] n0) w):=by
 obtain⟨i0,hi,hz0,hz1,hz2⟩:=zq41 infoI;obtain⟨R,hR⟩:∃R,facS [2,3,5,7] n0=R:=⟨_,rfl⟩;have HR0:=hid (show []++(facS (dsF 2) n0).1=R.1∧(facS (dsF 2) n0).2=R.2 from by rw[←hR];exact⟨rfl,rfl⟩);rw[hR];have H00:=hid (show OwL w.heap.size (w.alloc (.cells #[] 2)) (.slice (some ⟨w.heap.size,0,none⟩) 0 0) [] from zq47 (base:=w.heap.size) (e:=2) (size:=1) w #[] 0 zqN (zq4 _) rfl);have HP:=hid (fun d W=>SpecV.prime_any d W);clear hR;go_enter Tryz.func218,Tryz.ntmps218;go_wp2_with fail;go_loopw [0,4,5] (fun nv ov dv wr=>∃(m d:Nat) (out:List Nat),nv= .int .i64 (m:Int)∧dv= .int .i64 (d:Int)∧1≤m∧m≤729∧2≤d∧d≤8∧out.length≤10*d∧Hid (out++(facS (dsF d) m).1=R.1∧(facS (dsF d) m).2=R.2)∧Hid (OwL w.heap.size wr ov out)∧Hid (Below w.heap.size w wr)) (fun _ _ dv _=>8-(intOf dv).toNat);case atStart=>exact⟨n0,2,[],rfl,rfl,h1,h2,zq1 _,by omega,by simp,HR0,H00,hid (zqB.alloc zqN _)⟩
 case round=>
  obtain⟨m,d,out,rfl,rfl,hm1,hm2,hd2,hd8,hol,hF,hO,hB⟩:=hrel;by_cases hd7:d≤7
  ·have hdi:(d:Int)≤7:=by omega
   have hwd:IntKind.i64.wrap ((d:Int)+1)=(d:Int)+1:=zq6 _ (by omega);cases hp:primeB (d:Int)with
   |false=>
    have HPC:=hid (fun W=>by have h:=HP.out (d:Int) W;rw[hp]at h;exact h);have HF':=hid (show out++(facS (dsF (d+1)) m).1=R.1∧(facS (dsF (d+1)) m).2=R.2 by rw[←dsF_not ⟨hd2,hd7⟩ hp];exact hF.out);clear hp hF;go_wp2_with fail;rename World=>wo;go_loopw [0,4] (fun nv ov wr=>nv= .int .i64 (m:Int)∧Hid (OwL w.heap.size wr ov out)∧Hid (Below w.heap.size w wr)) (fun _ _ _=>0);case atStart=>exact⟨rfl,hO,hB⟩
    case round=>
     clear hO hB;obtain⟨rfl,hO,hB⟩:=hrel;go_wp2_with fail;refine(HPC.out _).mono ?_;rintro e w1 ⟨rfl,rfl⟩;go_wp2_with fail;go_roundw;case rel=>exact⟨m,d+1,out,rfl,by go_num,hm1,hm2,by omega,by omega,by omega,HF',hO,hB⟩
     case measure=>simp[intOf];omega
   |true=>
    have HPC:=hid (fun W=>by have h:=HP.out (d:Int) W;rw[hp]at h;exact h);have HF':=hid (show out++(facS (d::dsF (d+1)) m).1=R.1∧(facS (d::dsF (d+1)) m).2=R.2 by rw[←dsF_prime hp];exact hF.out);have HSP0:=hid (Sp.start (q:=d) hm1 (by omega));have HO0:=hid (show∀v W,OwL w.heap.size W v out→OwL w.heap.size W v (out++List.replicate 0 d) from fun v W h=>by simpa using h);clear hp hF;go_wp2_with fail;rename World=>wo;go_loopw [0,4] (fun nv ov wr=>∃m' e:Nat,nv= .int .i64 (m':Int)∧Hid (Sp d m m' e)∧Hid (OwL w.heap.size wr ov (out++List.replicate e d))∧Hid (Below w.heap.size w wr)) (fun nv _ _=>(intOf nv).toNat);case atStart=>exact⟨m,0,rfl,HSP0,hid (HO0.out _ _ hO.out),hB⟩
    case round=>
     clear hO hB HO0;obtain⟨m',e,rfl,hSP,hO,hB⟩:=hrel;have hmod:((m':Int)).tmod (d:Int)=((m'%d:Nat):Int):=tmod_nat m' d;have hdiv:((m':Int)).tdiv (d:Int)=((m'/d:Nat):Int):=tdiv_nat m' d;have hq0:¬(d:Int)=0:=by omega
     have hm3:1≤m'∧m'≤729∧e≤10:=by have:=hSP.out;unfold Sp at this;omega
     obtain⟨r,hr⟩:∃r,m'%d=r:=⟨_,rfl⟩;obtain⟨dv,hdv⟩:∃dv,m'/d=dv:=⟨_,rfl⟩;rw[hr]at hmod;rw[hdv]at hdiv;have hwr:IntKind.i64.wrap (r:Int)=(r:Int):=by
      have:r≤m':=by rw[←hr];exact Nat.mod_le _ _
      exact zq6 _ (by omega)
     have hwv:IntKind.i64.wrap (dv:Int)=(dv:Int):=by
      have:dv≤m':=by rw[←hdv];exact Nat.div_le_self _ _
      exact zq6 _ (by omega)
     by_cases hr0:r=0
     ·have hst:=hSP.out.step hd2 (hr.trans hr0);rw[hdv]at hst;have HST:=hid hst.1;have hdm:=hst.2.1;have he10:=hst.2.2;have hri:((r:Int)==0)=true:=by simp;omega
      have a1:=ownsRow_keep hO.out (S:=Any) ((Keep.refl _ wr).alloc (.cells #[.int .i64 (d:Int)] 2)) (fun _ _=>trivial);obtain⟨ll,hll⟩:∃ll,(out++List.replicate e d).length=ll:=⟨_,rfl⟩;have hll1:ll≤90:=by rw[←hll];simp;omega
      have HLL:=hid hll;rw[hll]at a1;have hBs:=hB.out.size;clear hst hSP hr hdv hO hll;go_wp2_with fail;refine(HPC.out _).mono ?_;rintro e' w1 ⟨rfl,rfl⟩;go_wp2_with (at_builtin;(refine zq52 _ rfl _ _ 24 rfl w.heap.size 2 i0 (.int .i64 0) 1 8 Tryz.underlying24 hi hz0 hz1 hz2 rfl (by decide) _ _ _ rfl a1 ⟨wr.heap.size,0,none⟩ 1 1 [.int .i64 (d:Int)] rfl rfl (zq50 (cs:= #[.int .i64 (d:Int)]) (t:=2) (fr:=(0,0)) (zq17 wr _)) (by simp[Value.oneCell']) (by decide) (by unfold maxLen;omega) (by omega) (by simp;omega) _ rfl ?_));intro g2 cap2 w2 hown2 hgrow2 hat2 hlt2;have hBa:=hB.out.alloc hBs (.cells #[.int .i64 (d:Int)] 2);have HB2:=hid (show Below w.heap.size w w2 from hBa.grown hgrow2 hBa.size (fun g hg=>(zq8 a1 g hg).1));have HO2:=hid (show OwL w.heap.size w2 (.slice (some ⟨g2,0,none⟩) (ll+1) cap2) (out++List.replicate (e+1) d) from by
       rw[←rep_snoc];exact own_push (by rw[HLL.out];exact hown2))
      clear a1 hown2 hgrow2 hat2 hlt2 hBa hB hBs;go_wp2_with fail;go_roundw;case rel=>exact⟨dv,e+1,rfl,HST,HO2,HB2⟩
      case measure=>simp[intOf];omega
     ·have hri:((r:Int)==0)=false:=by simp;omega
      have HFN:=hid (FS_next HF'.out (hSP.out.fin (q:=d) (by rw[hr];exact hr0)));have hlo:(out++List.replicate e d).length≤10*(d+1):=by simp;omega
      clear hSP hr hdv hdiv HF';go_wp2_with fail;refine(HPC.out _).mono ?_;rintro e' w1 ⟨rfl,rfl⟩;go_wp2_with fail;go_roundw;case rel=>exact⟨m',d+1,_,rfl,by go_num,hm3.1,hm3.2.1,by omega,by omega,hlo,HFN,hO,hB⟩
      case measure=>simp[intOf];omega
  ·obtain rfl:d=8:=by omega
   have hdi:¬((8:Nat):Int)≤7:=by decide
   have HR:=hid (show∀v,OwL w.heap.size wr v out→FSR R w (.returned (.tuple #[v,.bool ((m:Int)==1)])) wr from fun v h=>by
    have hf:=hF.out;have h8:dsF 8=[]:=rfl;rw[h8,facS]at hf;simp only[zq95]at hf;refine⟨v,?_,by rw[←hf.1];exact h,hB.out⟩;rw[←hf.2,show((m:Int)==1)=(m==1) from by rw[Bool.eq_iff_iff];simp;omega])
   have HRR:=hid (HR.out _ hO.out);clear hO hB HR hF;go_wp2_with fail;exact zq12 (v:=.tuple #[u4,.bool ((m:Int)==1)]) (by simp[results,Tryz.results218,go_sem]) rfl HRR.out
theorem facS_small:((List.range 41).all fun n=>n==0||(decide ((facS [2,3,5,7] n).1.length≤6)&&(facS [2,3,5,7] n).1.all fun p=>decide (2≤p)&&decide (p≤7)))=true:=by decide+kernel
def FacT (w:World)(e:Ending)(w':World):Prop:=∃(L:List Nat) (a:Option Addr) (c:Nat) (b:Bool),e= .returned (.tuple #[.slice a L.length c,.bool b])∧R1 w.heap.size w' L.length (.slice a L.length c)∧OwL w.heap.size w' (.slice a L.length c) L∧L.length≤6∧(∀p∈L,2≤p∧p≤7)∧Below w.heap.size w w'
theorem fac_any (n:Nat)(h1:1≤n)(h2:n≤40)(w:World):Calls Tryz.prog 218 #[.int .i64 (n:Int)] w (FacT w):=by
 refine(facS_any n h1 (by omega) w).mono ?_;rintro e w' ⟨v,rfl,ho,hb⟩;have h:=List.all_eq_true.1 facS_small n (zq62.2 (by omega));rw[zq135,zq71,zq85,List.all_eq_true]at h;rcases h with h|⟨h3,h4⟩
 ·have:n=0:=by simpa using h
  omega
 ·obtain⟨a,c,rfl⟩:=owns_form ho;exact⟨_,a,c,_,rfl,⟨ints (facS [2,3,5,7] n).1,by rw[ints_length],ho⟩,ho,h3,fun p hp=>by have:=h4 p hp;simpa using this,hb⟩
theorem r1at {B n c j:Nat}{w:World}{a:Option Addr}(h:R1 B w n (.slice a n c))(hj:j<n):∃g cur x,a=some ⟨g,0,none⟩∧w.cell? ⟨g,j,none⟩=some (.int .i64 x)∧w.frozen? ⟨g,j,none⟩=false∧w.heap[g]?=some (.cells cur 2 (0,0))∧B≤g∧g<w.heap.size:=by
 obtain⟨l,h1,h2⟩:=h;rcases id h2.2 with⟨h3,h4⟩|⟨g,cap,cur,h3,hB,hg,_,_,_,ht⟩
 ·omega
 ·simp only[zq40]at h3;obtain⟨rfl,-, -⟩:=h3;have e1:(vals l)[j]?=some (.int .i64 (l[j]'(by omega))):=by simp[vals]
  rw[←ht,zq106]at e1;split at e1
  ·rw[zq118]at e1;exact⟨g,cur,_,rfl,by rw[zq15 w g j cur _ (0,0) hg];exact e1,zq25 w g j cur _ hg,hg,hB,(zq10.1 hg).1⟩
  ·cases e1
theorem digits_any (L:List Int)(hp:∀x∈L,x≠0)(hL:L.length≤100)(f:Nat)(hf:f≤L.length)(x:Int)(v:Value)(w:World)(hv:SlI Any w v L):
  Calls Tryz.prog 219 #[v,.int .i64 (f:Int),.int .i64 x] w (ShR L.length w):=by
 obtain⟨a,c,rfl,_,_⟩:=slg_form hv;have HV:=hid hv;have HP:=hid hp;obtain⟨n,hn⟩:∃n,L.length=n:=⟨_,rfl⟩;have HN:=hid hn;rw[hn]at hL hf HV ⊢;have hmk:=mkE n (by omega) w;obtain⟨w1,hw1⟩:∃w1,w1=w.alloc (.cells (madeCells #[.int .i64 0] n) 2):=⟨_,rfl⟩;rw[←hw1]at hmk;obtain⟨g,hg⟩:∃g,w.heap.size=g:=⟨_,rfl⟩;have H1:=hid (show R1 w.heap.size w1 n (.slice (some ⟨g,0,none⟩) n n) from⟨List.replicate n 0,by simp,by
  have h:=Own.made (B:=w.heap.size) w n zqN (by unfold maxLen;omega);unfold Own at h;rw[zq29]at h;rw[hw1,←hg];exact h⟩)
 have HB1:=hid (show Below w.heap.size w w1 by rw[hw1];exact zqB.alloc zqN _);rw[hg]at hmk;have HG:=hid hg;clear hv hp hn hw1 hg;go_enter Tryz.func219,Tryz.ntmps219;go_wp2_with fail;go_loopw [2,8] (fun xv iv wr=>∃(x:Int) (i:Nat),i≤n∧xv= .int .i64 x∧iv= .int .i64 (i:Int)∧Hid (R1 w.heap.size wr n (.slice (some ⟨g,0,none⟩) n n))∧Hid (Below w.heap.size w wr)) (fun _ iv _=>n-(intOf iv).toNat);case atStart=>exact⟨x,f,hf,rfl,rfl,H1,HB1⟩
 case round=>
  obtain⟨y,i,hi,rfl,rfl,hR,hB⟩:=hrel;by_cases hlt:i<n
  ·have hki:(i:Int)<(n:Int):=by omega
   obtain⟨z,hz⟩:∃z,L[i]?=some z:=⟨_,zq0 (by rw[HN.out];exact hlt)⟩;have hz0:¬z=0:=HP.out z (zq5 hz);obtain⟨b,o,u,rfl,_,hbl,hcu,rfl⟩:=slg_get (HV.out.keep (Keep.of_below hB.out)) hz;obtain⟨g',cur,x0,hgg,hc,hfz,hhg,hgB,hgl⟩:=r1at hR.out hlt;obtain rfl:g=g':=by simpa using hgg
   have hbg:¬b=g:=by
    have hv:=slg_get HV.out hz;obtain⟨b',o',u',e,_,hbl',_⟩:=hv;simp only[zq42,zq96]at e;omega
   have HR2:=hid (fun t:Int=>(Ty.set1 (B:=w.heap.size) (b:=g) (i:=i) hhg t).one _ _ hR.out);have HB2:=hid (fun t:Int=>hB.out.setCell (p:=⟨g,i,none⟩) hgB (.int .i64 t));have hi6:i≤100:=by omega
   clear hgg hhg hz hR hB;go_wp2_with fail;go_roundw;case rel=>exact⟨_,i+1,by omega,rfl,by go_num,hid (HR2.out _),hid (HB2.out _)⟩
   case measure=>simp[intOf];omega
  ·obtain rfl:n=i:=by omega
   have HF:=hid (show ShR n w (.returned (.slice (some ⟨g,0,none⟩) n n)) wr from⟨g,n,rfl,hR.out,hB.out⟩);have hnl:¬(n:Int)<(n:Int):=by omega
   clear hR hB;go_wp2_with fail;go_ret;exact HF.out
theorem power_any (b:Int)(e:Nat)(he:e≤1000)(m:Int)(hm:m≠0)(w:World):
  Calls Tryz.prog 220 #[.int .i64 b,.int .i64 (e:Int),.int .i64 m] w fun e' w'=>∃r:Int,e'= .returned (.int .i64 r)∧w'=w:=by
 have hm0:¬m=0:=hm;go_enter Tryz.func220,Tryz.ntmps220;go_wp2_with fail;go_loopw [0,1,7] (fun bv ev ov wr=>∃(b o:Int) (e:Nat),bv= .int .i64 b∧ov= .int .i64 o∧ev= .int .i64 (e:Int)∧e≤1000∧wr=w) (fun _ ev _ _=>(intOf ev).toNat);case atStart=>exact⟨_,_,e,rfl,rfl,rfl,he,rfl⟩
 case round=>
  obtain⟨b,o,e,rfl,rfl,rfl,he,rfl⟩:=hrel;by_cases h0:0<e
  ·have h0i:(0:Int)<(e:Int):=by omega
   obtain⟨p,hp⟩:∃p,e%2=p:=⟨_,rfl⟩;obtain⟨q,hq⟩:∃q,e/2=q:=⟨_,rfl⟩;have hpm:((e:Int)).tmod 2=(p:Int):=by
    have:=tmod_nat e 2;rw[hp]at this;exact this
   have hqm:((e:Int)).tdiv 2=(q:Int):=by
    have:=tdiv_nat e 2;rw[hq]at this;exact this
   have hwp:IntKind.i64.wrap (p:Int)=(p:Int):=zq6 _ (by omega);have hwq:IntKind.i64.wrap (q:Int)=(q:Int):=zq6 _ (by omega);have hqe:q<e:=by omega
   have hqk:q≤1000:=by omega
   have hp2:p<2:=by omega
   clear hp hq;by_cases hp1:p=1
   ·subst hp1;go_wp2_with fail;go_roundw;case rel=>exact⟨_,_,q,rfl,rfl,rfl,hqk,trivial⟩
    case measure=>simp[intOf];omega
   ·obtain rfl:p=0:=by omega
    go_wp2_with fail;go_roundw;case rel=>exact⟨_,_,q,rfl,rfl,rfl,hqk,trivial⟩
    case measure=>simp[intOf];omega
  ·obtain rfl:e=0:=by omega
   go_wp2_with fail;go_ret;exact⟨_,rfl,rfl⟩
end Go.Proofs.YtlmlamcoeegkbaaGreat.DwE
namespace Go.Proofs.YtlmlamcoeegkbaaGreat.DwF
open Go.RowKit Go.Proofs.YtlmlamcoeegkbaaGreat Tow CyA CyB CyC DwT DwB DwC DwD DwE
def DrwR (b:Nat)(w:World)(e:Ending)(w':World):Prop:=∃N,N≤b∧TrivR N w e w'
theorem fac_r (n:Nat)(h1:1≤n)(h2:n≤40)(w:World):Calls Tryz.prog 218 #[.int .i64 (n:Int)] w fun e w'=>∃(k:Nat) (L:List Int) (a:Option Addr) (c:Nat) (b:Bool),e= .returned (.tuple #[.slice a k c,.bool b])∧L.length=k∧SlI Any w' (.slice a k c) L∧k≤6∧(∀p∈L,∃q:Nat,p=(q:Int)∧1≤q∧q≤7)∧Below w.heap.size w w':=by
 refine(fac_any n h1 h2 w).mono ?_;rintro e w' ⟨L,a,c,b,rfl,_,h,h3,h4,hb⟩;refine⟨L.length,ints L,a,c,b,rfl,by rw[ints_length],sl_own h (by rw[ints_length]),h3,fun p hp=>?_,hb⟩;obtain⟨q,hq,rfl⟩:=zq35.1 hp;exact⟨q,rfl,by have:=h4 q hq;omega,(h4 q hq).2⟩
theorem fin_res {B N g y1 y2 y3:Nat}{w wq wr:World}{x1 x2 x3:Option Addr}{b:Nat}(hN:N≤b)(hX:PX B N wr g (.slice x1 N y1) (.slice x2 N y2) (.slice x3 N y3))(hB:Below w.heap.size w wr)(hgB:w.heap.size<B)(hBw:B≤wr.heap.size):
  DrwR b w (.returned (.agg #[.slice x1 N y1,.slice x2 N y2,.slice x3 N y3])) (((wr.setCell ⟨w.heap.size,0,none⟩ (.slice x1 N y1)).setCell ⟨w.heap.size,1,none⟩ (.slice x2 N y2)).setCell ⟨w.heap.size,2,none⟩ (.slice x3 N y3)):=by
 refine⟨N,hN,_,_,_,rfl,?_,?_⟩
 ·exact(hX.2.2.ty (Ty.keep (S:=fun k=>B≤k) ((((Keep.refl _ wr).setCell (by simp;omega) _).setCell (by simp;omega) _).setCell (by simp;omega) _) fun _ h=>h)).mono (by omega)
 ·exact((hB.setCell (p:=⟨w.heap.size,0,none⟩) zqN _).setCell (p:=⟨w.heap.size,1,none⟩) zqN _).setCell (p:=⟨w.heap.size,2,none⟩) zqN _
theorem meta_any (n m:Nat)(hn:1≤n∧n≤40)(hm:1≤m∧m≤40)(r s:Int)(w:World):
  Calls Tryz.prog 188 #[.int .i64 (n:Int),.int .i64 (m:Int),.int .i64 r,.int .i64 s] w (DrwR 12 w):=by
 have HF1:=hid (fun W=>fac_r n hn.1 hn.2 W);have HF2:=hid (fun W=>fac_r m hm.1 hm.2 W);have hm0:¬(m:Int)=0:=by omega
 have HHM:=hid hm;clear hn hm;go_enter Tryz.func188,Tryz.ntmps188;go_upto_region 1 with fail;obtain⟨w1,hw1⟩:∃w1,w1=w.alloc zbox:=⟨_,rfl⟩;rw[←hw1];have K1:=hid (show w1.heap[w.heap.size]?=some zbox by rw[hw1];exact zq17 _ _);have HB1:=hid (show Below w.heap.size w w1 by rw[hw1];exact zqB.alloc zqN _);have HS1:=hid (show w1.heap.size=w.heap.size+1 by rw[hw1];simp);clear hw1;go_upto_region 3 with(first|(go_at_call_of 218 n;refine(HF1.out _).mono ?_;rintro e w2 ⟨k,T,aT,cT,bT,rfl,hTl,hT,hk6,hTp,hb2⟩)|(go_at_call_of 218 m;refine(HF2.out _).mono ?_;rintro e w3 ⟨l,U,aU,cU,bU,rfl,hUl,hU,hl6,hUp,hb3⟩));have HT:=hid (hT.keep (Keep.of_below (S:=Any) hb3));have HU:=hid hU;have HTL:=hid hTl;have HUL:=hid hUl;have HTP:=hid hTp;have HUP:=hid hUp;have HB3:=hid (HB1.out.trans ((hb2.trans (hb3.mono hb2.size)).mono (by have:=HS1.out;omega)));have HS3:=hid (show w.heap.size<w3.heap.size from by have h1:=HS1.out;have h2:=hb2.size;have h3:=hb3.size;omega);have K3:=hid (blk' (hb2.trans (hb3.mono hb2.size)) (by have:=HS1.out;omega) K1.out);clear hT hU hTl hUl hTp hUp hb2 hb3 K1 HB1 HS1 HF1 HF2;go_wp2_with fail;refine(own_r k (by omega) aT cT T HTL.out _ HT.out).mono ?_;rintro e w4 ⟨gO,cO,rfl,ho4,hb4⟩;have HU4:=hid (HU.out.keep (Keep.of_below (S:=Any) hb4));go_wp2_with (at_builtin;refine wpList_app rfl _ _ rfl w3.heap.size gO k cO l cU T U aU rfl ho4 rfl HU4.out (by omega) hb4.size ?_);intro g5 c5 w5 ho5 hg5;obtain⟨N,hN⟩:∃N,k+l=N:=⟨_,rfl⟩;have HN:=hid hN;have hN12:N≤12:=by omega
 have HOL:=hid (show(T++U).length=N by rw[zq31,HTL.out,HUL.out,hN]);rw[hN]at ho5 ⊢;have HOS:=hid (sl_own (l:=T++U) (by rw[vals,zq103];exact ho5) HOL.out);have HB5:=hid (show Below w3.heap.size w3 w5 from hb4.grown hg5 hb4.size (by intro b hb;injection hb with hb;have:=(zq8 ho4 gO rfl).1;omega));clear ho4 ho5 hg5 hb4 HU4 hN;go_wp2_with fail;refine(triv_r N (by omega) (T++U) HOL.out _ _ HOS.out).mono ?_;rintro e w6 ⟨x1,y1,x2,y2,x3,y3,rfl,hp6,hb6⟩;go_upto_region 5 with fail;obtain⟨g,hg⟩:∃g,w6.heap.size=g:=⟨_,rfl⟩;obtain⟨wb,hwb⟩:∃wb,wb=w6.alloc (.cells #[.slice x1 N y1,.slice x2 N y2,.slice x3 N y3] 28):=⟨_,rfl⟩;have HX0:=hid (show PX w5.heap.size N wb g (.slice x1 N y1) (.slice x2 N y2) (.slice x3 N y3) by rw[hwb,←hg];exact box_new hp6 zqN hb6.size);have HO0:=hid (show SlI Any w5 (.slice (some ⟨g5,0,none⟩) N c5) (T++U) from HOS.out);have HOB:=hid (show Below w5.heap.size w5 wb by rw[hwb];exact hb6.alloc hb6.size _);rw[←hwb,hg];clear hwb hg hp6 hb6 HOS;have HT5:=hid (HT.out.keep (Keep.of_below (S:=Any) HB5.out));have HW5:=hid (HB3.out.trans (HB5.out.mono (zq44 HS3.out)));have HS5:=hid (show w.heap.size<w5.heap.size from zq7 HS3.out HB5.out.size);have K5:=hid (blk' HB5.out HS3.out K3.out);clear HT HB5 HB3 K3 HU HS3;have HDG:=hid (fun(j:Nat) (hj:j≤N) (x:Int) (W:World) (hk:Keep Any w5 W)=>show Calls Tryz.prog 219 #[.slice (some ⟨g5,0,none⟩) N c5,.int .i64 (j:Int),.int .i64 x] W (ShR N W) from by
  have h:=digits_any (T++U) (fun y hy=>by
   rcases zq68.1 hy with h|h
   ·obtain⟨q,rfl,h1,_⟩:=HTP.out y h;omega
   ·obtain⟨q,rfl,h1,_⟩:=HUP.out y h;omega) (by rw[HOL.out];omega) j (by rw[HOL.out];exact hj) x _ W (HO0.out.keep hk)
  rw[HOL.out]at h;exact h)
 go_wp2_with fail;go_loopw [16] (fun iv wr=>∃i:Nat,i≤N∧iv= .int .i64 (i:Int)∧Hid (PX w5.heap.size N wr g (.slice x1 N y1) (.slice x2 N y2) (.slice x3 N y3))∧Hid (Below w5.heap.size w5 wr)) (fun iv _=>N-(intOf iv).toNat);case atStart=>exact⟨0,zq4 _,rfl,HX0,HOB⟩
 case round=>
  clear HX0 HOB;obtain⟨i,hi,rfl,hX1,hB1⟩:=hrel;have hwi:IntKind.i64.wrap ((i:Int)+1)=(i:Int)+1:=zq6 _ (by omega);have hwk:IntKind.i64.wrap ((k:Int)-1)=(k:Int)-1:=zq6 _ (by omega);have hsz:=hB1.out.size;obtain⟨⟨p0,p1,p2⟩,-⟩:=row3f hX1.out.1;have hgl:=hX1.out.lt;by_cases hlt:i+1<N
  ·have hki:(i:Int)+1<(N:Int):=by omega
   have hki0:(0:Int)≤(i:Int):=by omega
   by_cases hik:(i:Int)=(k:Int)-1
   ·have hd:((i:Int)==(k:Int)-1)=true:=by simp;omega
    go_wp2_with fail;go_roundw;case rel=>exact⟨i+1,by omega,by go_num,hX1,hB1⟩
    case measure=>simp[intOf];omega
   ·have hd:((i:Int)==(k:Int)-1)=false:=by simp;omega
    have hkN:(i:Int)<(N:Int):=by omega
    obtain⟨gp,rfl,hsl⟩:=hX1.out.pslot (i:=i) (by omega);have HSL:=hid hsl;have hgp:=gp_ne hsl hX1.out;clear hsl;have HSH:=hid (fun(W:World) (hk:Keep Any wr W)=>show Calls Tryz.prog 94 #[.int .i64 (N:Int),.int .i64 ((i:Int)+1)] W (ShR N W) from unit_r N (i+1) (by omega) hlt W);go_upto_region 10 with fail;go_region_held3 (fun w'=>(∀b o,b<wr.heap.size→¬b=gp→w'.cell? ⟨b,o,none⟩=wr.cell? ⟨b,o,none⟩)∧Keep (fun k=>k≠gp) wr w')
     (first|exact kn_mk (by repeat(first|exact zqK.drew|exact Keep.refl _ _|refine Keep.setCell ?_ (by simp) _|refine Keep.trans ?_ (Keep.of_below (by assumption)))))
     (first|(go_at_call 94;refine(HSH.out _ (by repeat(first|exact zqK.drew|exact Keep.refl _ _|refine Keep.drew ?_|refine Keep.trans ?_ (Keep.of_below (by assumption))))).mono ?_;rintro e w6 ⟨g6,c6,rfl,hr6,hb6⟩;have B6:Below wr.heap.size wr w6:=(by first|exact hb6|exact(zqB.drew).trans hb6);have f6:=(HSL.out.below B6).1;obtain⟨u6,s6⟩:=(HSL.out.below B6).cell)|fail)
    rename_i hHd;clear hHd;have HX7:=hid (show PX w5.heap.size N (w6.setCell ⟨gp,i,none⟩ (.slice (some ⟨g6,0,none⟩) N c6)) g (.slice x1 N y1) (.slice (some ⟨gp,0,none⟩) N y2) (.slice x3 N y3) from
     (HSL.out.below B6).put (hX1.out.below B6) (hr6.mono (by first|exact hsz|simpa using hsz)))
    have HB7:=hid (show Below w5.heap.size w5 (w6.setCell ⟨gp,i,none⟩ (.slice (some ⟨g6,0,none⟩) N c6)) from
     (hB1.out.trans (B6.mono hsz)).setCell (p:=⟨gp,i,none⟩) HSL.out.2.1 _)
    clear hr6 hb6 B6 f6 s6 HSH hgp HSL hgl p0 p1 p2 hX1 hB1;go_wp2_with fail;go_roundw;case rel=>exact⟨i+1,by omega,by go_num,HX7,HB7⟩
    case measure=>simp[intOf];omega
  ·have hki:¬(i:Int)+1<(N:Int):=by omega
   have hs8:=hB1.out.size;go_upto_if 59 with fail;go_cut [16] (fun sv W=>Hid (PX w5.heap.size N W g (.slice x1 N y1) (.slice x2 N y2) (.slice x3 N y3))∧Hid (Below w5.heap.size w5 W));case first=>
    by_cases hk0:0<k
    ·have hk0i:(0:Int)<(k:Int):=by omega
     have hkd:(k:Int)-1<(N:Int):=by have:=HN.out;omega
     have hkd0:(0:Int)≤(k:Int)-1:=by omega
     obtain⟨k1,hk1⟩:∃k1:Nat,k1+1=k:=⟨k-1,by omega⟩;have hkk:(k:Int)-1=(k1:Int):=by omega
     replace hwk:IntKind.i64.wrap ((k:Int)-1)=(k1:Int):=hwk.trans hkk;have hk1N:(k1:Int)<(N:Int):=by have:=HN.out;omega
     obtain⟨gp,rfl,hsl⟩:=hX1.out.pslot (i:=k1) (by have:=HN.out;omega);have HSL:=hid hsl;have hgp:=gp_ne hsl hX1.out;have HSH:=hid (fun(W:World) (hk:Keep Any wr W)=>HDG.out k (by have:=HN.out;omega) s W ((Keep.of_below hB1.out).trans hk));clear hsl hkd hkd0 hkk hk1;go_upto_region 12 with fail;go_region_held3 (fun w'=>(∀b o,b<wr.heap.size→¬b=gp→w'.cell? ⟨b,o,none⟩=wr.cell? ⟨b,o,none⟩)∧Keep (fun k=>k≠gp) wr w')
      (first|exact kn_mk (by repeat(first|exact zqK.drew|exact Keep.refl _ _|refine Keep.setCell ?_ (by simp) _|refine Keep.trans ?_ (Keep.of_below (by assumption)))))
      (first|(go_at_call 219;refine(HSH.out _ (by repeat(first|exact zqK.drew|exact Keep.refl _ _|refine Keep.drew ?_|refine Keep.trans ?_ (Keep.of_below (by assumption))))).mono ?_;rintro e w6 ⟨g6,c6,rfl,hr6,hb6⟩;have B6:Below wr.heap.size wr w6:=(by first|exact hb6|exact(zqB.drew).trans hb6);have f6:=(HSL.out.below B6).1;obtain⟨u6,s6⟩:=(HSL.out.below B6).cell)|fail)
     rename_i hHd;clear hHd;have HX7:=hid (show PX w5.heap.size N (w6.setCell ⟨gp,k1,none⟩ (.slice (some ⟨g6,0,none⟩) N c6)) g (.slice x1 N y1) (.slice (some ⟨gp,0,none⟩) N y2) (.slice x3 N y3) from
      (HSL.out.below B6).put (hX1.out.below B6) (hr6.mono (by first|exact hs8|simpa using hs8)))
     have HB7:=hid (show Below w5.heap.size w5 (w6.setCell ⟨gp,k1,none⟩ (.slice (some ⟨g6,0,none⟩) N c6)) from
      (hB1.out.trans (B6.mono hs8)).setCell (p:=⟨gp,k1,none⟩) HSL.out.2.1 _)
     clear hr6 hb6 B6 f6 s6 HSH hgp HSL hgl p0 p1 p2 hX1 hB1;go_wp2_with fail;go_meet;exact⟨HX7,HB7⟩
    ·have hk0i:¬(0:Int)<(k:Int):=by omega
     go_wp2_with fail;go_meet;exact⟨hX1,hB1⟩
   case rest=>
    obtain⟨hX8,hB8⟩:=hcut;clear hX1 hB1 hwi hi p0 p1 p2 hgl hsz hs8;go_wp2_with fail;go_loopw [17,18] (fun pv iv wr=>∃(x:Int) (i:Nat),i≤k∧pv= .int .i64 x∧iv= .int .i64 (i:Int)∧Hid (PX w5.heap.size N wr g (.slice x1 N y1) (.slice x2 N y2) (.slice x3 N y3))∧Hid (Below w5.heap.size w5 wr)) (fun _ iv _=>k-(intOf iv).toNat);case atStart=>exact⟨_,0,zq4 _,rfl,rfl,hX8,hB8⟩
    case round=>
     clear hX8 hB8;obtain⟨x,i,hi,rfl,rfl,hX1,hB1⟩:=hrel;have hsz:=hB1.out.size;by_cases hlt:i<k
     ·have hki:(i:Int)<(k:Int):=by omega
      have hki0:(0:Int)≤(i:Int):=by omega
      have HI:=hid hlt;go_wp2_with fail;go_loopw [19] (fun jv wr=>∃j:Nat,k≤j∧j≤N∧jv= .int .i64 (j:Int)∧Hid (PX w5.heap.size N wr g (.slice x1 N y1) (.slice x2 N y2) (.slice x3 N y3))∧Hid (Below w5.heap.size w5 wr)) (fun jv _=>N-(intOf jv).toNat);case atStart=>exact⟨k,zq1 _,by have:=HN.out;omega,rfl,hX1,hB1⟩
      case round=>
       clear hX1 hB1 hsz;obtain⟨j,hkj,hjN,rfl,hX1,hB1⟩:=hrel;have hsz:=hB1.out.size;by_cases hlj:j<N
       ·have hji:(j:Int)<(N:Int):=by omega
        have hj0:(0:Int)≤(j:Int):=by omega
        obtain⟨d,hd⟩:∃d:Nat,d+i+1=j:=⟨j-i-1,by have:=HI.out;omega⟩;have hw1:IntKind.i64.wrap ((j:Int)-(i:Int))=(d:Int)+1:=by rw[zq6 _ (by omega)];omega
        have hw2:IntKind.i64.wrap ((d:Int)+1-1)=(d:Int):=by rw[zq6 _ (by omega)];omega
        have hw3:IntKind.i64.wrap (d:Int)=(d:Int):=zq6 _ (by omega);have hiN:(i:Int)<(N:Int):=by omega
        obtain⟨⟨p0,p1,p2⟩,-⟩:=row3f hX1.out.1;have hgl:=hX1.out.lt;obtain⟨ni,hni⟩:∃ni,N-(i+1)=ni:=⟨_,rfl⟩;obtain⟨gc,gr,yr,rfl,hc1,hc2,hsl⟩:=hX1.out.cslot (i:=i) (j:=d) (by omega) (by omega);rw[hni]at hc1;have hdn:(d:Int)<(ni:Int):=by omega
        have HSL:=hid hsl;have hgp:=gp_ne hsl hX1.out;have hgcr:=gc_ne (i:=0) hX1.out hsl;have HSH:=hid (fun(W:World) (hk:Keep Any wr W)=>HDG.out j hjN x W ((Keep.of_below hB1.out).trans hk));have HD:=hid hd;clear hsl hni hd;go_upto_region 20 with fail;go_region_held3 (fun w'=>(∀b o,b<wr.heap.size→¬b=gr→w'.cell? ⟨b,o,none⟩=wr.cell? ⟨b,o,none⟩)∧Keep (fun k=>k≠gr) wr w')
         (first|exact kn_mk (by repeat(first|exact zqK.drew|exact Keep.refl _ _|refine Keep.setCell ?_ (by simp) _|refine Keep.trans ?_ (Keep.of_below (by assumption)))))
         (first|(go_at_call 219;refine(HSH.out _ (by repeat(first|exact zqK.drew|exact Keep.refl _ _|refine Keep.drew ?_|refine Keep.trans ?_ (Keep.of_below (by assumption))))).mono ?_;rintro e w6 ⟨g6,c6,rfl,hr6,hb6⟩;have B6:Below wr.heap.size wr w6:=(by first|exact hb6|exact(zqB.drew).trans hb6);have f6:=(HSL.out.below B6).1;obtain⟨u6,s6⟩:=(HSL.out.below B6).cell)|fail)
        rename_i hHd;clear hHd;have HX7:=hid (show PX w5.heap.size N (w6.setCell ⟨gr,d,none⟩ (.slice (some ⟨g6,0,none⟩) N c6)) g (.slice x1 N y1) (.slice x2 N y2) (.slice (some ⟨gc,0,none⟩) N y3) from
         (HSL.out.below B6).put (hX1.out.below B6) (hr6.mono (by first|exact hsz|simpa using hsz)))
        have HB7:=hid (show Below w5.heap.size w5 (w6.setCell ⟨gr,d,none⟩ (.slice (some ⟨g6,0,none⟩) N c6)) from
         (hB1.out.trans (B6.mono hsz)).setCell (p:=⟨gr,d,none⟩) HSL.out.2.1 _)
        clear hr6 hb6 B6 f6 s6 HSH hgp hgcr HSL hgl p0 p1 p2 hX1 hB1 hc1 hc2 hw1 hw2;go_wp2_with fail;go_roundw;case rel=>exact⟨j+1,by omega,by omega,by go_num,HX7,HB7⟩
        case measure=>simp[intOf];omega
       ·obtain rfl:N=j:=by omega
        have hnj:¬(N:Int)<(N:Int):=by omega
        obtain⟨z,hz⟩:∃z,T[i]?=some z:=⟨_,zq0 (by rw[HTL.out];exact HI.out)⟩;obtain⟨q,rfl,hq1,hq7⟩:=HTP.out z (zq5 hz);obtain⟨b,o,u,rfl,_,hbl,hcu,rfl⟩:=slg_get (HT5.out.keep (Keep.of_below hB1.out)) hz;have HPW:=hid (fun W=>power_any x q (by omega) (m:Int) hm0 W);have hik:(i:Int)<(k:Int):=by have:=HI.out;omega
        have hi6:i≤100:=by omega
        clear hz hlj hkj hjN;go_wp2_with fail;refine(HPW.out _).mono ?_;rintro e w8 ⟨y,rfl,rfl⟩;go_wp2_with fail;go_roundw;case rel=>exact⟨y,i+1,by have:=HI.out;omega,rfl,by go_num,hX1,hB1⟩
        case measure=>have:=HI.out;simp[intOf];omega
     ·obtain rfl:k=i:=by omega
      have hki:¬(k:Int)<(k:Int):=by omega
      have LG:=hid (blk' hB1.out HS5.out K5.out);obtain⟨⟨e0,e1,e2⟩,-⟩:=row3f hX1.out.1;obtain⟨⟨f0,f1,f2⟩,q0,q1,q2⟩:=row3f LG.out;have HFIN:=hid (fin_res (b:=12) (wq:=w) hN12 hX1.out (HW5.out.trans (hB1.out.mono (zq44 HS5.out))) HS5.out hsz);clear hX1 hB1;go_wp2_with fail;obtain⟨⟨z0,z1,z2⟩,-⟩:=row3f (put3 (x:=.slice x1 N y1) (y:=.slice x2 N y2) (z:=.slice x3 N y3) LG.out);exact zq12 (v:=.agg #[.slice x1 N y1,.slice x2 N y2,.slice x3 N y3]) (by simp[results,Tryz.results188,go_sem,z0,z1,z2]) rfl HFIN.out
end Go.Proofs.YtlmlamcoeegkbaaGreat.DwF
namespace Go.Proofs.YtlmlamcoeegkbaaGreat.DwH
open Go.RowKit Go.Proofs.YtlmlamcoeegkbaaGreat Tow CyA CyB CyC DwT DwB DwC DwD DwE DwF
theorem R2.push {B n m:Nat}{W1 W2:World}{v v' u:Value}{us:List Value}(h1:W1.ownsRow B 24 1 v n us)(h2:∀(i:Nat) u,us[i]?=some u→R1 B W1 m u)(hu:R1 B W1 m u)
  (ho:W2.ownsRow B 24 1 v' (n+1) (us++[u])) (hg:W1.grownBy W2 v.ownBlock):R2 B W2 (List.replicate (n+1) m) v':=by
 have k:∀x,R1 B W1 m x→R1 B W2 m x:=fun x hx=>hx.grown hg (hx.apart h1 (by decide));refine⟨us++[u],by rw[zq29];exact ho,fun i q hi=>?_⟩;rw[zq64]at hi;split at hi
 ·injection hi with hi;subst hi;rename_i hlt;rcases zq36 i us.length with hl|hl
  ·exact⟨_,by rw[zq28 hl];exact zq0 hl,k _ (h2 i _ (zq0 hl))⟩
  ·have:i=us.length:=by have:=h1.1;omega
   exact⟨u,by rw[this,zq27 zqN];simp,k _ hu⟩
 ·cases hi
def Sh2R (n m:Nat)(w:World)(e:Ending)(w':World):Prop:=∃a c,e= .returned (.slice a n c)∧R2 w.heap.size w' (List.replicate n m) (.slice a n c)∧Below w.heap.size w w'
theorem own2_r (n m:Nat)(hn:n≤100)(hm:m≤100)(a:Option Addr)(c:Nat)(w:World)(hA:R2 0 w (List.replicate n m) (.slice a n c)):
  Calls Tryz.prog 134 #[.slice a n c] w (Sh2R n m w):=by
 obtain⟨i0,hi,hz0,hz1,hz2⟩:=zq41 infoR;have HA:=hid hA;have H00:=hid (show R2 w.heap.size (w.alloc (.cells #[] 24)) (List.replicate 0 m) (.slice (some ⟨w.heap.size,0,none⟩) 0 0) from
  ⟨[],zq47 (base:=w.heap.size) (e:=24) (size:=1) w #[] 0 zqN (zq4 _) rfl,fun i n hi=>by simp at hi⟩)
 clear hA;go_enter Tryz.func134,Tryz.ntmps134;go_wp2_with fail;go_loopw [3,4] (fun ov iv wr=>∃i:Nat,i≤n∧iv= .int .i64 (i:Int)∧Hid (R2 w.heap.size wr (List.replicate i m) ov)∧Hid (Below w.heap.size w wr)) (fun _ iv _=>n-(intOf iv).toNat);case atStart=>exact⟨0,zq4 _,rfl,H00,hid (zqB.alloc zqN _)⟩
 case round=>
  clear H00;obtain⟨i,hi',rfl,hR,hB⟩:=hrel;obtain⟨ao,co,rfl,_,_⟩:=hR.out.form;rw[zq29]at hR ⊢;by_cases hlt:i<n
  ·have hki:(i:Int)<(n:Int):=by omega
   have hki0:(0:Int)≤(i:Int):=by omega
   have hsz:=hB.out.size;obtain⟨ga,aa,ca,rfl,ha1,ha2,ha3⟩:=r2row HA.out hlt;have ha1:=((Keep.of_below (S:=Any) hB.out).cell trivial ha2).trans ha1;have ha2:=zq7 ha2 hsz;have ha3:=hid ((Ty.below hB.out).one _ _ ha3);have hi6:i≤100:=by omega
   obtain⟨lx,hlx1,hlx2⟩:=ha3.out.sl;have HCC:=hid ((own_r m hm aa ca lx hlx1 wr (hlx2.mono fun _ _=>trivial)).mono (R':=ShR m wr) (by
    rintro e w5 ⟨g,c,rfl,ho,hb⟩;exact⟨g,c,rfl,⟨lx,hlx1,ho⟩,hb⟩))
   clear hlx2;go_wp2_with fail;refine HCC.out.mono ?_;rintro e w5 ⟨g5,c5,rfl,hr5,hb5⟩;have HR5:=hid ((hr5.mono hsz));obtain⟨us,q1,q2⟩:=(Ty.below hb5).two _ _ hR.out;rw[zq29]at q1;have HQ2:=hid q2;have HB5:=hid (hB.out.trans (hb5.mono hsz));have hs5:=HB5.out.size;have a1:=ownsRow_keep q1 (S:=Any) ((Keep.refl Any w5).alloc (.cells #[.slice (some ⟨g5,0,none⟩) m c5] 24)) (fun _ _=>trivial);clear hr5 hb5 q2 ha1 ha2 ha3 HCC hR hB hsz q1;go_wp2_with (at_builtin;(refine zq52 _ rfl _ _ 25 rfl w.heap.size 24 i0 (.slice none 0 0) 1 24 Tryz.underlying25 hi hz0 hz1 hz2 rfl (by decide) _ _ _ rfl a1 ⟨w5.heap.size,0,none⟩ 1 1 [.slice (some ⟨g5,0,none⟩) m c5] rfl rfl (zq50 (cs:= #[.slice (some ⟨g5,0,none⟩) m c5]) (t:=24) (fr:=(0,0)) (zq17 w5 _)) (by simp[Value.oneCell']) (by decide) (by unfold maxLen;omega) (by omega) (by simp;omega) _ rfl ?_));intro g6 c6 w6 ho6 hg6 hat6 hlt6;have HN:=hid (R2.push (m:=m) a1 (fun j x hj=>(Ty.keep (S:=Any) ((Keep.refl _ w5).alloc _) fun _ _=>trivial).one _ _ (by
    have hjl:=(zq2.1 hj).1;have:=a1.1;obtain⟨x',e1,e2⟩:=HQ2.out j m (by rw[zq64,zq57 (by omega)]);rw[hj]at e1;injection e1 with e1;rw[e1];exact e2)) ((Ty.keep (S:=Any) ((Keep.refl _ w5).alloc (.cells #[.slice (some ⟨g5,0,none⟩) m c5] 24)) fun _ _=>trivial).one _ _ HR5.out) ho6 hg6)
   have HBN:=hid ((HB5.out.alloc hs5 _).grown hg6 (by simp;omega) (by intro b hb;exact(zq8 a1 b hb).1));clear ho6 hg6 hat6 hlt6 a1 HQ2 HR5 HB5 hs5;go_wp2_with fail;go_roundw;case rel=>exact⟨i+1,by omega,by go_num,HN,HBN⟩
   case measure=>simp[intOf];omega
  ·obtain rfl:n=i:=by omega
   have hnl:¬(n:Int)<(n:Int):=by omega
   have HF:=hid (show Sh2R n m w (.returned (.slice ao n co)) wr from⟨_,_,rfl,hR.out,hB.out⟩);clear hR hB;go_wp2_with fail;go_ret;exact HF.out
theorem times_r (m:Nat)(hm:m≤100)(p:Int)(hp:p≠0)(av:Option Addr)(cv:Nat)(ab:Option Addr)(cb:Nat)(w:World)(hv:R1 0 w m (.slice av m cv))(hb:R2 0 w (List.replicate m m) (.slice ab m cb)):
  Calls Tryz.prog 229 #[.int .i64 p,.slice av m cv,.slice ab m cb,.int .i64 (m:Int)] w (ShR m w):=by
 have HV:=hid hv;have HBB:=hid hb;have hp0:¬p=0:=hp;have hmk:=mkE m (by omega) w;obtain⟨w1,hw1⟩:∃w1,w1=w.alloc (.cells (madeCells #[.int .i64 0] m) 2):=⟨_,rfl⟩;rw[←hw1]at hmk;obtain⟨g,hg⟩:∃g,w.heap.size=g:=⟨_,rfl⟩;have H1:=hid (show R1 w.heap.size w1 m (.slice (some ⟨g,0,none⟩) m m) from⟨List.replicate m 0,by simp,by
  have h:=Own.made (B:=w.heap.size) w m zqN (by unfold maxLen;omega);unfold Own at h;rw[zq29]at h;rw[hw1,←hg];exact h⟩)
 have HB1:=hid (show Below w.heap.size w w1 by rw[hw1];exact zqB.alloc zqN _);rw[hg]at hmk;have HG:=hid hg;clear hv hb hw1 hg hp;go_enter Tryz.func229,Tryz.ntmps229;go_wp2_with fail;go_loopw [10] (fun iv wr=>∃i:Nat,i≤m∧iv= .int .i64 (i:Int)∧Hid (R1 w.heap.size wr m (.slice (some ⟨g,0,none⟩) m m))∧Hid (Below w.heap.size w wr)) (fun iv _=>m-(intOf iv).toNat);case atStart=>exact⟨0,zq4 _,rfl,H1,HB1⟩
 case round=>
  clear H1 HB1;obtain⟨i,hi,rfl,hR,hB⟩:=hrel;by_cases hlt:i<m
  ·have hki:(i:Int)<(m:Int):=by omega
   have hki0:(0:Int)≤(i:Int):=by omega
   have HI:=hid hlt;go_wp2_with fail;go_loopw [11] (fun jv wr=>∃j:Nat,j≤m∧jv= .int .i64 (j:Int)∧Hid (R1 w.heap.size wr m (.slice (some ⟨g,0,none⟩) m m))∧Hid (Below w.heap.size w wr)) (fun jv _=>m-(intOf jv).toNat);case atStart=>exact⟨0,zq4 _,rfl,hR,hB⟩
   case round=>
    clear hR hB;obtain⟨j,hj,rfl,hR,hB⟩:=hrel;obtain⟨gb,ar,cr,rfl,hb1,hb2,hb3⟩:=r2row HBB.out HI.out;have hb1':=((Keep.of_below (S:=Any) hB.out).cell trivial hb2).trans hb1;by_cases hlj:j<m
    ·have hkj:(j:Int)<(m:Int):=by omega
     have hkj0:(0:Int)≤(j:Int):=by omega
     obtain⟨gv,curv,xv,rfl,hv1,_,_,_,hv3⟩:=r1at HV.out HI.out;have hv1':=((Keep.of_below (S:=Any) hB.out).cell trivial hv3).trans hv1;obtain⟨gr,curr,xr,rfl,hr1,_,_,_,hr3⟩:=r1at hb3 hlj;have hr1':=((Keep.of_below (S:=Any) hB.out).cell trivial hr3).trans hr1;obtain⟨g',cur,x0,hgg,hc,hfz,hhg,hgB,hgl⟩:=r1at hR.out hlj;obtain rfl:g=g':=by simpa using hgg
     have HR2:=hid (fun t:Int=>(Ty.set1 (B:=w.heap.size) (b:=g) (i:=j) hhg t).one _ _ hR.out);have HB2:=hid (fun t:Int=>hB.out.setCell (p:=⟨g,j,none⟩) hgB (.int .i64 t));have HTR:=hid (fun(W:World) (h:R1 w.heap.size W m (.slice (some ⟨g,0,none⟩) m m))=>(show R1 w.heap.size W.drew m (.slice (some ⟨g,0,none⟩) m m) from(Ty.keep (S:=Any) (zqK.drew) fun _ _=>trivial).one _ _ h));have hj6:j≤100:=by omega
     clear hgg hhg hR hb1 hb3 hv1 hr1;go_upto_region 8 with fail;go_region_law (fail);all_goals
      go_wp2_with fail;go_roundw;case rel=>exact⟨j+1,by omega,by go_num,hid (by first|exact HR2.out _|exact HTR.out _ (HR2.out _)),hid (by first|exact HB2.out _|exact(HB2.out _).drew)⟩
      case measure=>simp[intOf];omega
    ·obtain rfl:m=j:=by omega
     have hnj:¬(m:Int)<(m:Int):=by omega
     have him:(i:Int)<(m:Int):=by have:=HI.out;omega
     have hi6:i≤100:=by omega
     clear hb1 hb3;go_wp2_with fail;go_roundw;case rel=>exact⟨i+1,by have:=HI.out;omega,by go_num,hR,hB⟩
     case measure=>have:=HI.out;simp[intOf];omega
  ·obtain rfl:m=i:=by omega
   have hnl:¬(m:Int)<(m:Int):=by omega
   have HF:=hid (show ShR m w (.returned (.slice (some ⟨g,0,none⟩) m m)) wr from⟨g,m,rfl,hR.out,hB.out⟩);clear hR hB;go_wp2_with fail;go_ret;exact HF.out
theorem product_r (n m:Nat)(hnm:n=m)(hm:m≤100)(p:Int)(hp:p≠0)(a:Option Addr)(c:Nat)(ab:Option Addr)(cb:Nat)(w:World)(hA:R2 0 w (List.replicate n m) (.slice a n c))(hb:R2 0 w (List.replicate m m) (.slice ab m cb)):
  Calls Tryz.prog 221 #[.int .i64 p,.slice a n c,.slice ab m cb,.int .i64 (m:Int)] w (Sh2R n m w):=by
 obtain⟨i0,hi,hz0,hz1,hz2⟩:=zq41 infoR;have HA:=hid hA;have H00:=hid (show R2 w.heap.size (w.alloc (.cells #[] 24)) (List.replicate 0 m) (.slice (some ⟨w.heap.size,0,none⟩) 0 0) from
  ⟨[],zq47 (base:=w.heap.size) (e:=24) (size:=1) w #[] 0 zqN (zq4 _) rfl,fun i n hi=>by simp at hi⟩)
 have HBB:=hid hb;have hn:n≤100:=by omega
 have HPZ:=hid hp;clear hb hnm hp;clear hA;go_enter Tryz.func221,Tryz.ntmps221;go_wp2_with fail;go_loopw [9,10] (fun ov iv wr=>∃i:Nat,i≤n∧iv= .int .i64 (i:Int)∧Hid (R2 w.heap.size wr (List.replicate i m) ov)∧Hid (Below w.heap.size w wr)) (fun _ iv _=>n-(intOf iv).toNat);case atStart=>exact⟨0,zq4 _,rfl,H00,hid (zqB.alloc zqN _)⟩
 case round=>
  clear H00;obtain⟨i,hi',rfl,hR,hB⟩:=hrel;obtain⟨ao,co,rfl,_,_⟩:=hR.out.form;rw[zq29]at hR ⊢;by_cases hlt:i<n
  ·have hki:(i:Int)<(n:Int):=by omega
   have hki0:(0:Int)≤(i:Int):=by omega
   have hsz:=hB.out.size;obtain⟨ga,aa,ca,rfl,ha1,ha2,ha3⟩:=r2row HA.out hlt;have ha1:=((Keep.of_below (S:=Any) hB.out).cell trivial ha2).trans ha1;have ha2:=zq7 ha2 hsz;have ha3:=hid ((Ty.below hB.out).one _ _ ha3);have hi6:i≤100:=by omega
   have HCC:=hid (times_r m hm p HPZ.out aa ca ab cb wr ha3.out ((Ty.below hB.out).two _ _ HBB.out));go_wp2_with fail;refine HCC.out.mono ?_;rintro e w5 ⟨g5,c5,rfl,hr5,hb5⟩;have HR5:=hid ((hr5.mono hsz));obtain⟨us,q1,q2⟩:=(Ty.below hb5).two _ _ hR.out;rw[zq29]at q1;have HQ2:=hid q2;have HB5:=hid (hB.out.trans (hb5.mono hsz));have hs5:=HB5.out.size;have a1:=ownsRow_keep q1 (S:=Any) ((Keep.refl Any w5).alloc (.cells #[.slice (some ⟨g5,0,none⟩) m c5] 24)) (fun _ _=>trivial);clear hr5 hb5 q2 ha1 ha2 ha3 HCC hR hB hsz q1;go_wp2_with (at_builtin;(refine zq52 _ rfl _ _ 25 rfl w.heap.size 24 i0 (.slice none 0 0) 1 24 Tryz.underlying25 hi hz0 hz1 hz2 rfl (by decide) _ _ _ rfl a1 ⟨w5.heap.size,0,none⟩ 1 1 [.slice (some ⟨g5,0,none⟩) m c5] rfl rfl (zq50 (cs:= #[.slice (some ⟨g5,0,none⟩) m c5]) (t:=24) (fr:=(0,0)) (zq17 w5 _)) (by simp[Value.oneCell']) (by decide) (by unfold maxLen;omega) (by omega) (by simp;omega) _ rfl ?_));intro g6 c6 w6 ho6 hg6 hat6 hlt6;have HN:=hid (R2.push (m:=m) a1 (fun j x hj=>(Ty.keep (S:=Any) ((Keep.refl _ w5).alloc _) fun _ _=>trivial).one _ _ (by
    have hjl:=(zq2.1 hj).1;have:=a1.1;obtain⟨x',e1,e2⟩:=HQ2.out j m (by rw[zq64,zq57 (by omega)]);rw[hj]at e1;injection e1 with e1;rw[e1];exact e2)) ((Ty.keep (S:=Any) ((Keep.refl _ w5).alloc (.cells #[.slice (some ⟨g5,0,none⟩) m c5] 24)) fun _ _=>trivial).one _ _ HR5.out) ho6 hg6)
   have HBN:=hid ((HB5.out.alloc hs5 _).grown hg6 (by simp;omega) (by intro b hb;exact(zq8 a1 b hb).1));clear ho6 hg6 hat6 hlt6 a1 HQ2 HR5 HB5 hs5;go_wp2_with fail;go_roundw;case rel=>exact⟨i+1,by omega,by go_num,HN,HBN⟩
   case measure=>simp[intOf];omega
  ·obtain rfl:n=i:=by omega
   have hnl:¬(n:Int)<(n:Int):=by omega
   have HF:=hid (show Sh2R n m w (.returned (.slice ao n co)) wr from⟨_,_,rfl,hR.out,hB.out⟩);clear hR hB;go_wp2_with fail;go_ret;exact HF.out
end Go.Proofs.YtlmlamcoeegkbaaGreat.DwH
