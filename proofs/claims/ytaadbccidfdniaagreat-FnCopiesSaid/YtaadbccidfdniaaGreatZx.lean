import Derived.Test.YtaadbccidfdniaaGreatZ0
import Derived.Test.YtaadbccidfdniaaGreatZw
import Derived.Deep.AppendLies
import Derived.Test.YtaadbccidfdniaaGreatZq
import Derived.Test.YtaadbccidfdniaaGreatZu
import Derived.Test.YtaadbccidfdniaaGreatZv
import Derived.Test.YtaadbccidfdniaaGreatZt
import Derived.Test.YtaadbccidfdniaaGreatZp
/-
  Lemmas for the law FnCopies, in short spelling.
-/
open Go.Lib (hid)
set_option linter.unusedVariables false
set_option linter.unusedSimpArgs false
set_option maxRecDepth 100000
set_option maxHeartbeats 40000000
namespace Go.Proofs.YtaadbccidfdniaaGreat.Re
open Go.Proofs.YtaadbccidfdniaaGreat AB CU Gf Yn RH
theorem AAF {α:Type}(p:Nat→Bool)(f:Nat→List α):∀l:List Nat,(l.flatMap fun t=>if p t=true then f t else [])=(l.filter p).flatMap f
 |[]=>rfl
 |a::l=>by
  rw[Og,AAF p f l,List.filter_cons];by_cases h:p a=true
  ·rw[Bo h,Bo h,Og]
  ·rw[BD h,BD h,List.nil_append]
theorem AAm {Q T:Tw}{k:Nat}{L:Lv}(hL:T[k]?=some L)(im:List (List Nat)):Bf Q T (k+1) im=(He Q L im).flatMap fun x=>Bf Q T k (x::im):=by
 classical
 have hd:T.getD k ⟨0,[],[]⟩=L:=by rw[BV,hL];rfl
 rw[Bf,hd];unfold He nums;rw[List.flatMap_map,←AAF];congr 1;funext t;by_cases h:may Q L im t=true
 ·rw[Bo h,Bo (iA.1 h)]
 ·rw[BD h,BD (fun h'=>h (iA.2 h'))]
theorem dx {Q T:Tw}(hQ:Wf Q)(hg:AB.Good Q)(hT:Wf T):(Bf Q T T.length []).length=(Grow.grow Q T T.length []).length:=by
 have h:=AAf hQ hg hT T.length AR [] (by rw[Nb];trivial);rw[Ng]at h;rw[←h,Bh]
theorem AAb {Q T:Tw}(hz:sz Q≤27):∀(k:Nat),k≤T.length→∀im,(Bf Q T k im).length≤27^k
 |0,_,im=>by simp[Bf]
 |k+1,hk,im=>by
  obtain⟨L,hL⟩:∃L,T[k]?=some L:=⟨_,AO (by omega)⟩;rw[AAm hL];have hl:(He Q L im).length≤27:=by unfold He;rw[Bh];exact Ad (nums_length _ _) hz
  have:∀l:List (List Nat),(l.flatMap fun x=>Bf Q T k (x::im)).length≤l.length*27^k:=by
   intro l
   induction l with
   |nil=>simp
   |cons a l ih=>
    rw[Og,Cs,Hl,Nat.succ_mul];rw[Ki (l.length*27^k)];exact Nat.add_le_add (AAb hz k (by omega) (a::im)) ih
  refine Ad (this _) ?_;rw[TI,Oh];exact iY _ hl
end Go.Proofs.YtaadbccidfdniaaGreat.Re
namespace Go.Proofs.YtaadbccidfdniaaGreat
open Go.RowKit
theorem TF:(Tryz.prog.info? 25).map (fun i=>(i.zero,i.size,i.bytes))=some (some (.slice none 0 0),1,24):=by kernel_rfl
theorem AA.ext {S:Nat→Prop}{w w':World}(h:AA S w w'):AA (fun k=>k<w.heap.size→S k) w w':=⟨h.size,fun k hk hl=>h.block k (hk hl) hl⟩
theorem AL.bnd {S:Nat→Prop}{w:World}{v:Value}{l:List Int}(h:AL S w v l):AL (fun k=>S k∧k<w.heap.size) w v l:=by
 obtain⟨ao,c,h1,h2,h3,h0,h4⟩:=h;refine⟨ao,c,h1,h2,h3,h0,fun i x hx=>?_⟩;obtain⟨b,o,e1,e2,e3,u,e4,e5⟩:=h4 i x hx;exact⟨b,o,e1,⟨e2,e3⟩,e3,u,e4,e5⟩
theorem AP.bnd {S:Nat→Prop}{w:World}{v:Value}{l:List (List Int)}(h:AP S w v l):AP (fun k=>S k∧k<w.heap.size) w v l:=by
 obtain⟨ao,c,h1,h2,h3,h0,h4⟩:=h;refine⟨ao,c,h1,h2,h3,h0,fun i x hx=>?_⟩;obtain⟨b,o,e1,e2,e3,u,e4,e5⟩:=h4 i x hx;exact⟨b,o,e1,⟨e2,e3⟩,e3,u,e4,e5.bnd⟩
theorem GA.bnd {S:Nat→Prop}{w:World}{v:Value}{l:List (List (List Int))}(h:GA S w v l):GA (fun k=>S k∧k<w.heap.size) w v l:=by
 obtain⟨ao,c,h1,h2,h3,h0,h4⟩:=h;refine⟨ao,c,h1,h2,h3,h0,fun i x hx=>?_⟩;obtain⟨b,o,e1,e2,e3,u,e4,e5⟩:=h4 i x hx;exact⟨b,o,e1,⟨e2,e3⟩,e3,u,e4,AP.bnd e5⟩
theorem BC.bnd {S:Nat→Prop}{w:World}{vO vP vC:Value}{P:Bu}(h:BC S w vO vP vC P):BC (fun k=>S k∧k<w.heap.size) w vO vP vC P:=⟨h.os.bnd,h.ps.bnd,h.cs.bnd⟩
theorem AP.put {S:Nat→Prop}{w:World}{g n c:Nat}{rows:List (List Nat)}(hn:rows.length=n)(h:Own2 24 2 0 w (.slice (some ⟨g,0,none⟩) n c) rows)(hS:AP S w (.slice (some ⟨g,0,none⟩) n c) (rows.map ints))(k:Nat){u:Value}{r:List Nat}
  (hu:AL (fun b=>S b∧b≠g) w u (ints r)):AP S (w.setCell ⟨g,k,none⟩ u) (.slice (some ⟨g,0,none⟩) n c) ((rows.set k r).map ints):=by
 subst hn;obtain⟨us,h1,h2,h3⟩:=h;have hs:=Q8 h1 k u;have hkp:AA (fun b=>b≠g) w (w.setCell ⟨g,k,none⟩ u):=AJ.setCell (by simp) _;obtain⟨ao,c',e,g2,g3,g0,g4⟩:=hS;simp only[EY]at e;obtain⟨rfl,-, rfl⟩:=e;refine⟨some ⟨g,0,none⟩,c,by simp,by simpa using g2,g3,by simp,fun i x hx=>?_⟩;have hi:i<rows.length:=by
  have:=(Ag.1 hx).1;simpa using this
 obtain⟨b,o,e1,e2,e3,v,e4,e5⟩:=g4 i (ints rows[i]) (by rw[Bn,AO hi];rfl);simp only[Eg,Kj,and_true]at e1;obtain⟨rfl,rfl⟩:=e1;have hv:us[i]?=some v:=by
  have:=Ig h1 i (by omega);rw[Cg]at e4;rw[this]at e4;exact e4
 by_cases hik:i=k
 ·subst hik;rw[Bn,P7 hi]at hx;injection hx with hx;subst hx;refine⟨g,0,rfl,e2,by rw[World.size_setCell];exact e3,u,?_,(hu.keep (hkp.mono (fun b hb=>hb.2))).mono (fun b hb=>hb.1)⟩;have:=Ig hs.1 i (by omega);rw[P7 (by omega)]at this;rw[Cg];exact this
 ·rw[Bn,Q9 (fun h=>hik h.symm),AO hi]at hx;injection hx with hx;subst hx;have hrow:=h3 i rows[i] v (AO hi) hv;have hap:∀k,v.ownBlock=some k→k≠g:=fun k hk hg=>by
   rcases LF hrow.2 h1 (by decide)with h|h
   ·rw[h]at hk;cases hk
   ·rw[hk,hg]at h;exact h rfl
  obtain⟨gv,cv,rfl⟩:=hrow.1;refine⟨g,0,rfl,e2,by rw[World.size_setCell];exact e3,.slice (some ⟨gv,0,none⟩) rows[i].length cv,?_,?_⟩
  ·have:=Ig hs.1 i (by omega);rw[Q9 (fun h=>hik h.symm),hv]at this;rw[Cg];exact this
  ·obtain⟨ao,c'',f1,f2,f3,f0,f4⟩:=e5;refine⟨ao,c'',f1,f2,f3,f0,fun j y hy=>?_⟩;obtain⟨b',o',q1,q2,q3,q4,q5,q6⟩:=f4 j y hy;subst q1;simp only[EY,Eg,Kj,and_true]at f1;have hb':b'≠g:=fun hbg=>hap gv rfl (f1.1.1.trans hbg);exact⟨b',o',rfl,q2,by rw[World.size_setCell];exact q3,q4,by rw[hkp.cell hb' q3];exact q5,q6⟩
def Own3 (B:Nat)(w:World)(v:Value)(L:List (List (List Nat))):Prop:=
 ∃us:List Value,w.ownsRow B 25 1 v L.length us∧us.length=L.length∧∀(i:Nat) (rows:List (List Nat)) (u:Value),L[i]?=some rows→us[i]?=some u→Own2 24 2 B w u rows
theorem Own2.apart {e2 e e3:TypeId}(h2:e2≠e3)(h1:e≠e3){B B' s n:Nat}{w w':World}{v v3:Value}{rows:List (List Nat)}{us:List Value}(h:Own2 e2 e B w v rows)(h3:w.ownsRow B' e3 s v3 n us)(hg:w.grownBy w' v3.ownBlock):Own2 e2 e B w' v rows:=by
 obtain⟨Jq,a1,a2,a4⟩:=h;exact⟨Jq,a1.kept hg (LF a1 h3 h2),a2,fun i r u hr hu=>⟨(a4 i r u hr hu).1,Np (a4 i r u hr hu).2 hg (LF (a4 i r u hr hu).2 h3 h1)⟩⟩
theorem Own3.nil (B:Nat)(w:World):Own3 B w (.slice none 0 0) []:=⟨[],F7 _ _ _ _,rfl,by simp⟩
theorem AGx {w w':World}{B:Nat}{e:TypeId}{s n:Nat}{v:Value}{xs:List Value}{S:Nat→Prop}(h:w.ownsRow B e s v n xs)(hk:AA S w w')(hS:∀k,B≤k→k<w.heap.size→S k):w'.ownsRow B e s v n xs:=Br h hk.ext hS
theorem Own2.keep' {e2 e:TypeId}{B:Nat}{S:Nat→Prop}{w w':World}{v:Value}{rows:List (List Nat)}(h:Own2 e2 e B w v rows)(hk:AA S w w')(hS:∀k,B≤k→k<w.heap.size→S k):Own2 e2 e B w' v rows:=h.keep hk.ext hS
theorem Own3.keep {B:Nat}{S:Nat→Prop}{w w':World}{v:Value}{L:List (List (List Nat))}(h:Own3 B w v L)(hk:AA S w w')(hS:∀k,B≤k→k<w.heap.size→S k):Own3 B w' v L:=by
 obtain⟨us,h1,h2,h4⟩:=h;exact⟨us,AGx h1 hk hS,h2,fun i r u hr hu=>(h4 i r u hr hu).keep' hk hS⟩
theorem Own3.of_below {B:Nat}{w w':World}{v:Value}{L:List (List (List Nat))}(h:Own3 B w v L)(hb:Below w.heap.size w w'):Own3 B w' v L:=h.keep (S:=fun _=>True) (AA.of_below hb) (fun _ _ _=>trivial)
theorem Own3.mono {B B':Nat}{w:World}{v:Value}{L:List (List (List Nat))}(h:Own3 B w v L)(hB:B'≤B):Own3 B' w v L:=by
 obtain⟨us,h1,h2,h4⟩:=h;exact⟨us,JI h1 hB,h2,fun i r u hr hu=>(h4 i r u hr hu).mono hB⟩
theorem Own3.form {B:Nat}{w:World}{v:Value}{L:List (List (List Nat))}(h:Own3 B w v L):∃a cap,v= .slice a L.length cap∧L.length≤cap∧cap≤maxLen:=by
 obtain⟨us,h1,h2,h4⟩:=h;rcases h1.2 with⟨rfl,hn⟩|⟨g,cap,cur,rfl,hb,hgg,hn,hm,hs,ht⟩
 ·exact⟨none,0,by rw[hn],by omega,by simp⟩
 ·exact⟨_,cap,rfl,hn,hm⟩
theorem Own3.lt {B:Nat}{w:World}{v:Value}{L:List (List (List Nat))}(h:Own3 B w v L):∀k,v.ownBlock=some k→B≤k∧k<w.heap.size:=by
 obtain⟨us,h1,h2,h4⟩:=h;exact Af h1
theorem Own3.push {B n:Nat}{w w':World}{v v' u:Value}{L:List (List (List Nat))}{rows:List (List Nat)}{us:List Value}(hn:L.length=n)
  (h1:w.ownsRow B 25 1 v n us) (h2:us.length=L.length) (h4:∀(i:Nat) (rows:List (List Nat)) (u:Value),L[i]?=some rows→us[i]?=some u→Own2 24 2 B w u rows)
  (hu:Own2 24 2 B w u rows) (ho:w'.ownsRow B 25 1 v' (n+1) (us++[u])) (hg:w.grownBy w' v.ownBlock):Own3 B w' v' (L++[rows]):=by
 subst hn;refine⟨us++[u],by simpa using ho,by simp[h2],fun i r' u' hr' hu'=>?_⟩;have hown:Own2 24 2 B w u' r':=by
  rcases CP i L.length with hi|hi
  ·rw[EA hi]at hr';rw[EA (by omega)]at hu';exact h4 i r' u' hr' hu'
  ·rw[D9 hi]at hr';rw[D9 (by omega)]at hu';rw[h2]at hu';rcases hj:i-L.length with _|j
   ·rw[hj]at hr' hu';simp at hr' hu';subst hr';subst hu';exact hu
   ·rw[hj]at hr';simp at hr'
 exact hown.apart (by decide) (by decide) h1 hg
end Go.Proofs.YtaadbccidfdniaaGreat
namespace Go.Proofs.YtaadbccidfdniaaGreat.AD6
open Go.RowKit Go.Proofs.YtaadbccidfdniaaGreat AB CU Gf Re Dr Oe Yn RH
def zq (B:Nat)(w:World)(vF:Value)(R:List (List (List Nat)))(e:Ending)(w':World):Prop:=
 ∃v,e= .returned v∧Own3 B w' v R∧AA (fun b=>some b≠vF.ownBlock) w w'∧(v.ownBlock=vF.ownBlock∨∀b,v.ownBlock=some b→w.heap.size≤b)∧Below B w w'
def JG (Q:Tw)(k:Nat)(im:List (List Nat)):List (List Nat):=List.replicate k (AB.one Q)++im
theorem AKg (Q:Tw)(k:Nat)(im:List (List Nat))(x:List Nat):(JG Q (k+1) im).set k x=JG Q k (x::im):=by
 unfold JG;rw[Pp,Ih,List.set_append_right _ _ (by simp)];simp
theorem AJP (Q:Tw)(k:Nat)(im:List (List Nat)):(JG Q k im).drop k=im:=by simp[JG]
theorem Xu (Q:Tw)(k:Nat)(im:List (List Nat)):(JG Q k im).length=k+im.length:=by simp[JG]
theorem ADH {Q:Tw}(hQ:Wf Q){k:Nat}{im:List (List Nat)}(h:∀x∈im,El Q x):∀x∈JG Q k im,El Q x:=fun x hx=>by
 rcases GY.1 hx with h1|h1
 ·rw[(Kh.1 h1).2];exact D5 hQ
 ·exact h x h1
theorem ALN {Q:Tw}(hQ:Wf Q){L:Lv}{im:List (List Nat)}:∀x∈He Q L im,El Q x:=fun x hx=>by
 unfold He at hx;obtain⟨t,_,rfl⟩:=Cy.1 hx;exact D7 hQ t
theorem AAn {Q:Tw}(hz:sz Q≤27){L:Lv}{im:List (List Nat)}:(He Q L im).length≤27:=by
 unfold He;rw[Bh];exact Ad (nums_length _ _) hz
theorem fQ {Q T:Tw}(hz:sz Q≤27){k:Nat}(hk:k≤T.length)(im:List (List Nat)):∀l:List (List Nat),(l.flatMap fun x=>Bf Q T k (x::im)).length≤l.length*27^k:=by
 intro l
 induction l with
 |nil=>simp
 |cons a l ih=>
  rw[Og,Cs,Hl,Nat.succ_mul,Ki (l.length*27^k)];exact Nat.add_le_add (AAb hz k hk (a::im)) ih
theorem AIB {Q T:Tw}(hz:sz Q≤27){k:Nat}(hk:k≤T.length){im:List (List Nat)}{F:List (List (List Nat))}{l:List (List Nat)}{c N:Nat}(h:F.length+27^(k+1)≤N)(hl:l.length≤27)(hc:c<l.length):
  (F++(l.take c).flatMap fun x=>Bf Q T k (x::im)).length+27^k≤N:=by
 have h1:=fQ hz hk im (l.take c);rw[JX,Nat.min_eq_left (by omega)]at h1;rw[Cs];have h2:(c+1)*27^k≤27*27^k:=RI _ (by omega);rw[TI,Oh]at h;rw[Nat.succ_mul]at h2;omega
def X9 (T Q:Tw)(k:Nat):Prop:=∀(B:Nat) (w:World) (pO pP pC qO qP qC vi vF:Value) (im:List (List Nat)) (F:List (List (List Nat))),BC (fun b=>some b≠vF.ownBlock) w pO pP pC (AQ T)→BC (fun b=>some b≠vF.ownBlock) w qO qP qC (AQ Q)→
 AP (fun b=>some b≠vF.ownBlock) w vi ((JG Q k im).map ints)→k+im.length=T.length→(∀x∈im,El Q x)→Own3 B w vF F→B≤w.heap.size→F.length+27^k≤1000000000→
 Calls Tryz.prog 53 #[.agg #[pO,pP,pC],.agg #[qO,qP,qC],.int .i64 ((k:Int)-1),vi,vF] w (zq B w vF (F++Bf Q T k im))
theorem ABC (T Q:Tw)(CK:Small T)(hs:Small Q):X9 T Q 0:=by
 intro B w pO pP pC qO qP qC vi vF im F KW hPQ hi hl hE hF hB hN;obtain⟨i0,WY,hz0,hz1,hz2⟩:=Bt TF;have hi':AP (fun b=>some b≠vF.ownBlock) w vi (im.map ints):=hi;have HI:=hid hi';have HN:=hid (show F.length+1≤1000000000 from hN);have HF:=hid hF;have HOWN:=hid (fun W hv=>X5 W vi im hv (by have:=CK.1;omega) (fun r hr=>by rw[AZ (hE r hr)];have:=hs.1;omega));rw[show(((0:Nat):Int)-1)= -1 from rfl];obtain⟨W0,hW0⟩:∃W0,W0=(w.alloc (.cells #[pO,pP,pC] 28)).alloc (.cells #[qO,qP,qC] 28):=⟨_,rfl⟩;have HB0:=hid (show Below w.heap.size w W0 by rw[hW0];exact(AX.alloc AR _).alloc (by simp) _);clear KW hPQ hi hi' hE hF hN hl;go_enter Tryz.func53,Tryz.ntmps53;go_upto_region 1 with fail;rw[←hW0];clear hW0;go_wp2_with fail;refine(HOWN.out _ ((HI.out.keep (AA.of_below HB0.out)).mono (fun _ _=>trivial))).mono ?_;rintro e w1 ⟨v1,rfl,ho1,hb1⟩;have DD:=hid (ho1.mono (B':=B) (Ad hB HB0.out.size));have HB1:=hid (HB0.out.trans (hb1.mono HB0.out.size));obtain⟨us,h1,h2,h4⟩:=HF.out.of_below HB1.out;have HU:=hid (And.intro h2 h4);obtain⟨a1,c1,rfl,_,_⟩:=ho1.form;have BI:=hid HB1.out.size;clear ho1 hb1 h2 h4;go_wp2_with (at_builtin;(refine GQ _ rfl _ _ 26 rfl B 25 i0 (.slice none 0 0) 1 24 Tryz.underlying26 WY hz0 hz1 hz2 rfl (by decide) _ _ _ rfl (h1.alloc _) ⟨w1.heap.size,0,none⟩ 1 1 [.slice a1 im.length c1] rfl rfl ?c1 ?c2 ?c3 ?c4 ?c5 ?c6 _ rfl ?_));case c1=>
  intro j u hj
  match j,hj with
  |0,hj=>simp at hj;subst hj;simp[Addr.add]
 case c2=>intro u hu;simp at hu;subst hu;rfl
 case c3=>omega
 case c4=>have:=HN.out;unfold maxLen;omega
 case c5=>have:=HN.out;omega
 case c6=>have:=HB1.out.size;simp;omega
 ·intro g cap w2 hown hgrow hat hlt;have HR:=hid (show zq B w vF (F++Bf Q T 0 im) (.returned (.slice (some ⟨g,0,none⟩) (F.length+1) cap)) w2 from by
   refine⟨_,rfl,?_,?_,?_,?_⟩
   ·exact Own3.push (w:=w1.alloc _) (us:=us) rfl (h1.alloc _) HU.out.1 (fun i r u hr hu=>(HU.out.2 i r u hr hu).keep (S:=fun _=>True) (AJ.alloc _) (fun _ _=>trivial)) (DD.out.keep (S:=fun _=>True) (AJ.alloc _) (fun _ _=>trivial)) hown hgrow
   ·exact((AA.of_below HB1.out).alloc _).trans (AA.grown hgrow (fun k hk=>hk))
   ·rcases hat with h|h
    ·exact .inl h.symm
    ·refine .inr fun b hb=>?_;simp only[Value.ownBlock,Eg]at hb;subst hb;rw[h];have:=HB1.out.size;simp;omega
   ·exact((HB1.out.mono hB).alloc (by have:=HB1.out.size;omega) _).grown hgrow (by simp;have:=HB1.out.size;omega) (fun g hg=>(Af h1 g hg).1))
  clear hown hgrow hat hlt h1 HU DD;go_wp2_with fail;go_ret;exact HR.out
theorem ALO {S:Nat→Prop}{a b:World}(h:AA (fun k=>S k∧k<a.heap.size) a b):AA S a b:=⟨h.size,fun k hk hs=>h.block k ⟨hk,hs⟩ hs⟩
open Classical in
theorem AJQ {L:Lv}{im:List (List Nat)}:He [] L im=[]:=by
 have hm:∀t,may [] L im t=false:=fun t=>by
  unfold may;refine GX fun h=>h.1 ?_;have e:at_ [] t=AB.one []:=rfl;rw[e];exact Gen.Gen.one
 unfold He nums;rw[List.filter_eq_nil_iff.2 (fun t _=>by rw[hm t];simp)];rfl
theorem ABD (T Q:Tw)(hT:Wf T)(CK:Small T)(hQ:Wf Q)(hs:Small Q)(hg:AB.Good Q)(hp:Hg.Pr Q)(hz:sz Q≤27)(k:Nat)(hk:k<T.length)(hq0:0<Q.length∨(Q=[]∧k+1=T.length))(hrec:0<Q.length→X9 T Q k):X9 T Q (k+1):=by
 intro B w pO pP pC qO qP qC vi vF im F KW hPQ hi hl hE hF hB hN;obtain⟨L,hL⟩:∃L,T[k]?=some L:=⟨_,AO hk⟩;have Sj:=CK.1;have HI:=hid hi;have IP:=hid KW;have IQ:=hid hPQ;have HN:=hid hN;have HF:=hid hF;have HE:=hid hE;have DV:=hid hl;have AOt:=hid hrec;have HQ0:=hid (show∀x,x∈He Q L im→0<Q.length from fun x hx=>by
  rcases hq0 with h|⟨h,_⟩
  ·exact h
  ·subst h;exact absurd hx (by rw[AJQ];simp))
 have SE:=hid hF.lt;have M5:=hid (AAm (Q:=Q) hL im);have PU:=hid (fun W hP hQ' hv=>show Calls _ _ _ _ (TZ _ _ (He Q L im) W) from by
  have h:=AHC T Q hT CK hQ hs hg hp (by omega) W pO pP pC qO qP qC vi k L hL (JG Q (k+1) im) hP hQ' hv (by rw[Xu];omega) (ADH hQ hE) hq0;rwa[AJP]at h)
 have HOWN:=hid (fun W hv=>X5 W vi (JG Q (k+1) im) hv (by rw[Xu];omega) (fun r hr=>by rw[AZ (ADH hQ hE r hr)];have:=hs.1;omega));have Lr:=hid (ALN hQ (L:=L) (im:=im));have Ec:=hid (AAn hz (L:=L) (im:=im));have HRM:=hid (fun c hc=>AIB (Q:=Q) (T:=T) hz (DT hk) (im:=im) hN (AAn hz (L:=L) (im:=im)) (c:=c) hc);obtain⟨n,hn⟩:∃n,(He Q L im).length=n:=⟨_,rfl⟩;have Iy:=hid hn;have AQb:n≤27:=by rw[←hn];exact Ec.out
 rw[show(((k+1:Nat):Int)-1)=(k:Int) by omega];obtain⟨W0,hW0⟩:∃W0,W0=(w.alloc (.cells #[pO,pP,pC] 28)).alloc (.cells #[qO,qP,qC] 28):=⟨_,rfl⟩;have HB0:=hid (show Below (w.heap.size+2) ((w.alloc (.cells #[pO,pP,pC] 28)).alloc (.cells #[qO,qP,qC] 28)) W0 by rw[hW0];exact A7 _ _);have hd0:decide ((k:Int)<0)=false:=by simp
 clear KW hPQ hi hE hF hN hl hn hL hrec hq0;go_enter Tryz.func53,Tryz.ntmps53;go_upto_region 1 with fail;rw[←hW0];clear hW0;obtain⟨⟨p0,p1,p2⟩,⟨q0,q1,q2⟩,hkk,hbw,hsz⟩:=bx HB0.out;go_wp2_with fail;refine(PU.out _ ((IP.out.keep (hkk.mono (fun _ _=>trivial))).mono (fun _ _=>trivial)) ((IQ.out.keep (hkk.mono (fun _ _=>trivial))).mono (fun _ _=>trivial)) ((HI.out.keep (hkk.mono (fun _ _=>trivial))).mono (fun _ _=>trivial))).mono ?_;rintro e w1 ⟨vc,rfl,hoc,hb1⟩;have HB1:=hid (HB0.out.trans (hb1.mono hsz));obtain⟨-, -, hk1,AGa,hsz1⟩:=bx HB1.out;have O0:=hid hk1;have QC:=hid AGa;have hvF:∀b,vF.ownBlock=some b→b<w.heap.size:=fun b hb=>(SE.out b hb).2;have HVF:=hid hvF;have NP:=hid (IP.out.keep (hk1.mono (fun _ _=>trivial))).bnd;have VD:=hid (IQ.out.keep (hk1.mono (fun _ _=>trivial))).bnd;have HI1:=hid (HI.out.keep (hk1.mono (fun _ _=>trivial))).bnd;have Hy:=hid (show AP (fun b=>some b≠vF.ownBlock∧b<w1.heap.size) w1 vc ((He Q L im).map ints) from(hoc.sl.bnd).mono (fun b hb=>⟨fun h=>by have:=HVF.out b h.symm;have:=hb.1;omega,hb.2⟩));obtain⟨ac,cc,hvc,_,_⟩:=hoc.form;rw[Iy.out]at hvc;subst hvc;have K4:=hid (show Own3 B w1 vF (F++((He Q L im).take 0).flatMap fun x=>Bf Q T k (x::im)) from by
  rw[List.take_zero,List.flatMap_nil,La];exact HF.out.of_below QC.out)
 clear hoc hb1 hkk hbw hsz hk1 AGa p0 p1 p2 q0 q1 q2 IP IQ HI PU HF SE hvF;go_wp2_with fail;go_loopw [4,12] (fun vf iv wr=>∃c:Nat,c≤n∧iv= .int .i64 (c:Int)∧Hid (Own3 B wr vf (F++((He Q L im).take c).flatMap fun x=>Bf Q T k (x::im)))∧Hid (AA (fun b=>some b≠vF.ownBlock∧b<w1.heap.size) w1 wr)∧Hid (vf.ownBlock=vF.ownBlock∨∀b,vf.ownBlock=some b→w1.heap.size≤b)∧Hid (Below B w1 wr)) (fun _ iv _=>n-(intOf iv).toNat);case atStart=>exact⟨0,AU _,rfl,K4,hid AJ,hid (.inl rfl),hid AX⟩
 case round=>
  obtain⟨c,hc,rfl,hO,hK,hW,Xi⟩:=hrel;have AQc:=hK.out.size;by_cases hlt:c<n
  ·have hdc:decide ((c:Int)<(n:Int))=true:=by simp;omega
   obtain⟨x,hx⟩:∃x,(He Q L im)[c]?=some x:=⟨_,AO (by rw[Iy.out];exact hlt)⟩;have HX:=hid hx;obtain⟨bC,oC,ux,e1,⟨hbS,hbC⟩,_,hcC,hrC⟩:=Aq.get Hy.out (k:=c) (x:=ints x) (by rw[Bn,hx];rfl);subst e1;have nM:=hid hrC;have Oj:bC<wr.heap.size:=by omega
   have ZU:wr.cell? ⟨bC,oC+c,none⟩=some ux:=(hK.out.cell ⟨hbS,hbC⟩ hbC).trans hcC;have DC:=hid ZU;clear hx hrC hcC ZU;go_wp2_with fail;refine(HOWN.out _ ((HI1.out.keep hK.out).mono (fun _ _=>trivial))).mono ?_;rintro e w4 ⟨v4,rfl,Ey,hb4⟩;obtain⟨g4,c4,_,hv4,AQd,AQe,_,_⟩:=Ey.at (i:=0) (r:=(JG Q (k+1) im)[0]'(by rw[Xu];omega)) (by rw[AO]);have HL4:=hid (show(JG Q (k+1) im).length=T.length by rw[Xu];exact DV.out);rw[HL4.out]at hv4;subst hv4;have Iu:=hid Ey;have Bl:=hid hb4;have hs4:=hb4.size;obtain⟨⟨s4,f4⟩,ff4⟩:=Own2.AD2 Ey (k:=k) (by rw[Xu];omega);have AOu:w4.cell? ⟨bC,oC+c,none⟩=some ux:=(hb4.cell (p:=⟨bC,oC+c,none⟩) Oj).trans DC.out;have zk:(k:Int)<(T.length:Int):=by omega
   have hk0:(0:Int)≤(k:Int):=by omega
   have hcn:(c:Int)<(n:Int):=by omega
   have hc0:(0:Int)≤(c:Int):=by omega
   obtain⟨aR,cR,Je,_⟩:=AL.open nM.out;subst Je;clear Ey hb4;go_upto_region 9 with fail;obtain⟨w5,Ce⟩:∃w5,w5=w4.setCell ⟨g4,k,none⟩ (.slice aR x.length cR):=⟨_,rfl⟩;rw[←Ce];have hs5:w5.heap.size=w4.heap.size:=by rw[Ce,World.size_setCell]
   have wW:AA (fun b=>b≠g4) w4 w5:=by rw[Ce];exact AJ.setCell (by simp) _
   have ZY:AA (fun b=>some b≠vF.ownBlock∧b<w1.heap.size) w1 w5:=(hK.out.trans (AA.of_below Bl.out)).trans (wW.mono (fun b hb=>by omega));have dS:∀b,some b≠vF.ownBlock→b<w1.heap.size→some b≠u4.ownBlock:=fun b h1 h2=>by
    rcases hW.out with h|h
    ·rw[h];exact h1
    ·intro e;have:=h b e.symm;omega
   have hVf:∀b,u4.ownBlock=some b→b<wr.heap.size:=fun b hb=>(hO.out.lt b hb).2;have FH:=hid (show AP (fun b=>some b≠u4.ownBlock) w5 (.slice (some ⟨g4,0,none⟩) T.length c4) ((JG Q k (x::im)).map ints) from by
    rw[Ce,←AKg];exact AP.put HL4.out (Iu.out.mono (AU _)) (Iu.out.sl.mono (fun b hb e=>by have:=hVf b e.symm;omega)) k ((nM.out.keep (hK.out.trans (AA.of_below Bl.out))).mono (fun b hb=>⟨dS b hb.1 hb.2,by have:=hb.2;omega⟩)))
   have Ch:=hid (hO.out.keep (S:=fun b=>b<wr.heap.size) ((AA.lt Bl.out).trans (wW.mono (fun b hb=>by omega))) (fun b _ hb=>hb));have Dx:=hid ((NP.out.keep ZY).mono (fun b hb=>dS b hb.1 hb.2));have aH:=hid ((VD.out.keep ZY).mono (fun b hb=>dS b hb.1 hb.2));have Aa:=hid (show Below B w1 w5 from by rw[Ce];exact(Xi.out.trans (Bl.out.mono (by omega))).setCell (by show B≤g4;omega) _);obtain⟨⟨p0,p1,p2⟩,⟨q0,q1,q2⟩,-, -, -⟩:=bx HB1.out;have hbx:∀j o,w.heap.size≤j→j<w1.heap.size→w5.cell? ⟨j,o,none⟩=w1.cell? ⟨j,o,none⟩:=fun j o h1 h2=>ZY.cell ⟨fun e=>by have:=HVF.out j e.symm;omega,h2⟩ h2;rw[←hbx _ _ (by omega) (by omega)]at p0 p1 p2 q0 q1 q2;have vT:=hid ZY;have SB:=hid dS;have Dw:(k:Int)≤6:=by omega
   have DN:=hid (show∀y∈x::im,El Q y from fun y hy=>by
    rcases F8.1 hy with h|h
    ·rw[h];exact Lr.out x (Ak HX.out)
    ·exact HE.out y h)
   have Ew:=hid (show B≤w5.heap.size∧w1.heap.size≤w5.heap.size by omega);clear Ce hs5 wW ZY dS hVf hbx f4 ff4 AOu hs4;go_wp2_with fail;refine(AOt.out (HQ0.out x (Ak HX.out)) B w5 pO pP pC qO qP qC (.slice (some ⟨g4,0,none⟩) T.length c4) u4 (x::im) _ Dx.out aH.out FH.out (by have:=DV.out;simp;omega) DN.out Ch.out Ew.out.1 (HRM.out c (by rw[Iy.out];exact hlt))).mono ?_;rintro e w6 ⟨v6,rfl,OW,nV,SC,U7⟩;have zK:=hid (show Own3 B w6 v6 (F++((He Q L im).take (c+1)).flatMap fun x=>Bf Q T k (x::im)) from by
    rw[take_succ HX.out,List.flatMap_append,Og,List.flatMap_nil,La,←Ih];exact OW)
   have HKK:=hid (vT.out.trans (nV.mono (fun b hb=>SB.out b hb.1 hb.2)));have HWW:=hid (show v6.ownBlock=vF.ownBlock∨∀b,v6.ownBlock=some b→w1.heap.size≤b from by
    rcases SC with h|h
    ·rw[h];exact hW.out
    ·exact .inr (fun b hb=>Ad Ew.out.2 (h b hb)))
   have AOv:=hid (Aa.out.trans U7);clear OW nV SC U7 p0 p1 p2 q0 q1 q2;go_wp2_with fail;go_roundw;case rel=>exact⟨c+1,by omega,by go_num,zK,HKK,HWW,AOv⟩
   case measure=>simp[intOf];omega
  ·obtain rfl:c=n:=by omega
   have HR:=hid (show zq B w vF (F++Bf Q T (k+1) im) (.returned _) wr from by
    refine⟨_,rfl,?_,?_,?_,?_⟩
    ·have h:=hO.out;rw[←Iy.out,KC,←M5.out]at h;exact h
    ·exact(AA.mono O0.out (fun _ _=>trivial)).trans (ALO hK.out)
    ·rcases hW.out with h|h
     ·exact .inl h
     ·exact .inr (fun b hb=>Ad O0.out.size (h b hb))
    ·exact(QC.out.mono hB).trans Xi.out)
   go_wp2_with fail;go_ret;exact HR.out
theorem ABx (T Q:Tw)(hT:Wf T)(CK:Small T)(hQ:Wf Q)(hs:Small Q)(hg:AB.Good Q)(hp:Hg.Pr Q)(hz:sz Q≤27)(dR:0<T.length→0<Q.length):∀k,k≤T.length→X9 T Q k
 |0,_=>ABC T Q CK hs
 |k+1,h=>ABD T Q hT CK hQ hs hg hp hz k (by omega) (.inl (dR (by omega))) (fun _=>ABx T Q hT CK hQ hs hg hp hz dR k (by omega))
theorem AJR (T Q:Tw)(hT:Wf T)(CK:Small T)(hQ:Wf Q)(hs:Small Q)(hg:AB.Good Q)(hp:Hg.Pr Q)(hz:sz Q≤27):X9 T Q T.length:=by
 rcases Nat.eq_zero_or_pos Q.length with h|h
 ·obtain rfl:Q=[]:=D8 h;cases hn:T.length with
  |zero=>exact ABC T [] CK hs
  |succ k=>exact ABD T [] hT CK hQ hs hg hp hz k (by omega) (.inr ⟨rfl,by omega⟩) (fun h=>absurd h (by simp))
 ·exact ABx T Q hT CK hQ hs hg hp hz (fun _=>h) T.length AR
end Go.Proofs.YtaadbccidfdniaaGreat.AD6
namespace Go.Proofs.YtaadbccidfdniaaGreat.Mh
open Go.RowKit Go.Proofs.YtaadbccidfdniaaGreat AB CU Gf Re Dr Oe RH AD6
def AGb (R:List (List (List Nat)))(w:World)(e:Ending)(w':World):Prop:=∃v,e= .returned v∧Own3 w.heap.size w' v R∧Below w.heap.size w w'
theorem ABE (T Q:Tw)(hT:Wf T)(CK:Small T)(hQ:Wf Q)(hs:Small Q)(hg:AB.Good Q)(hp:Hg.Pr Q)(hz:sz Q≤27)(w:World)(pO pP pC qO qP qC:Value)
  (KW:BC Any w pO pP pC (AQ T)) (hPQ:BC Any w qO qP qC (AQ Q)):
  Calls Tryz.prog 23 #[.agg #[pO,pP,pC],.agg #[qO,qP,qC]] w (AGb (Bf Q T T.length []) w):=by
 obtain⟨i0,WY,hz0,hz1,hz2⟩:=Bt Ie;have Sj:=CK.1;obtain⟨aO,cO,aP,cP,aC,cC,rfl,rfl,rfl,Eo,hP1,FC⟩:=KW.open;have IP:=hid KW;have IQ:=hid hPQ;have PW:=hid (Cm.VN Q);have WO:=hid (fun W hO=>Cm.gH Q hs.1 W qO qP qC hO);have Gi:=hid (AJR T Q hT CK hQ hs hg hp hz);have Jg:=hid (show JG Q T.length []=List.replicate T.length (AB.one Q) by unfold JG;rw[La]);have HZN:=hid (show(0:Nat)+27^T.length≤1000000000 from by
  have h6:27^T.length≤27^6:=Vm (by omega) Sj;omega)
 obtain⟨W0,hW0⟩:∃W0,W0=(w.alloc (.cells #[.slice aO T.length cO,.slice aP T.length cP,.slice aC T.length cC] 28)).alloc (.cells #[qO,qP,qC] 28):=⟨_,rfl⟩;have HB0:=hid (show Below (w.heap.size+2) ((w.alloc (.cells #[.slice aO T.length cO,.slice aP T.length cP,.slice aC T.length cC] 28)).alloc (.cells #[qO,qP,qC] 28)) W0 by rw[hW0];exact A7 _ _);have nW:=hid (show W0.heap.size=w.heap.size+2 by rw[hW0];simp);have Wz:=hid (Fb (base:=w.heap.size+2) (e:=24) (size:=1) W0 #[] 0 (by rw[nW.out];exact Av _) (AU _) rfl);clear KW hPQ;go_enter Tryz.func23,Tryz.ntmps23;go_upto_region 1 with fail;rw[←hW0];clear hW0;go_wp2_with fail;go_loopw [5,6] (fun v iv wr=>∃k:Nat,k≤T.length∧iv= .int .i64 (k:Int)∧Hid (Own2 24 2 (w.heap.size+2) wr v (List.replicate k (AB.one Q)))∧Hid (Below (w.heap.size+2) ((w.alloc (.cells #[.slice aO T.length cO,.slice aP T.length cP,.slice aC T.length cC] 28)).alloc (.cells #[qO,qP,qC] 28)) wr)) (fun _ iv _=>T.length-(intOf iv).toNat);case atStart=>exact⟨0,AU _,rfl,hid ⟨[],Wz.out,rfl,by simp⟩,hid (HB0.out.alloc (by rw[nW.out];exact Av _) _)⟩
 case round=>
  obtain⟨k,hk,rfl,hO,hB⟩:=hrel;obtain⟨⟨p0,p1,p2⟩,⟨q0,q1,q2⟩,hkk,hbw,hsz⟩:=bx hB.out;by_cases hlt:k<T.length
  ·have NU:=hid (show AL Any wr qO (ints (Cm.Gd Q)) from by
    have h:=(IQ.out.keep hkk).os;rwa[PW.out]at h)
   clear hkk hbw;go_wp2_with fail;refine(WO.out _ NU.out).mono ?_;rintro e w1 ⟨g,c,rfl,ho,hb1⟩;have HB1:=hid (hB.out.trans (hb1.mono hsz));have HRR:=hid (Ej.row (ho.mono (B':=w.heap.size+2) hsz));obtain⟨us,h1,h2,h4⟩:=hO.out.of_below hb1;have HU:=hid (And.intro h2 h4);have hrl:(List.replicate k (AB.one Q)).length=k:=DK;rw[hrl]at h1;have KN:=hid hrl;have wX:=hid (Ad hsz hb1.size);clear ho hb1 h2 h4 hO hrl p0 p1 p2 q0 q1 q2;go_wp2_with (at_builtin;(refine Fz _ rfl _ _ 25 rfl (w.heap.size+2) 24 i0 (.slice none 0 0) 1 24 Tryz.underlying25 WY hz0 hz1 hz2 rfl (by decide) _ _ _ rfl (h1.alloc _) ⟨w1.heap.size,0,none⟩ 1 1 [.slice (some ⟨g,0,none⟩) (ints (AB.one Q)).length c] rfl rfl ?c1 ?c2 ?c3 ?c4 ?c5 ?_));case c1=>
    intro j u hj
    match j,hj with
    |0,hj=>simp at hj;subst hj;simp[Addr.add]
   case c2=>intro u hu;simp at hu;subst hu;rfl
   case c3=>unfold maxLen;omega
   case c4=>omega
   case c5=>have:=wX.out;simp;omega
   ·intro v' w2 hown hgrow _;have HN:=hid (show Own2 24 2 (w.heap.size+2) w2 v' (List.replicate (k+1) (AB.one Q)) from by
     rw[Pp];exact Own2.push (w:=w1.alloc _) (us:=us) (by decide) KN.out (h1.alloc _) HU.out.1 (fun i r u hr hu=>(HU.out.2 i r u hr hu).keep (S:=fun _=>True) (AJ.alloc _) (fun _ _=>trivial)) (HRR.out.keep (S:=fun _=>True) (AJ.alloc _) (fun _ _=>trivial)) hown hgrow)
    have HB2:=hid (show Below (w.heap.size+2) ((w.alloc (.cells #[.slice aO T.length cO,.slice aP T.length cP,.slice aC T.length cC] 28)).alloc (.cells #[qO,qP,qC] 28)) w2 from(HB1.out.alloc (by have:=wX.out;omega) _).grown hgrow (by simp;have:=wX.out;omega) (fun g hg=>(Af h1 g hg).1));clear hown hgrow h1 HU HRR;go_wp2_with fail;go_roundw;case rel=>exact⟨k+1,by omega,by go_num,HN,HB2⟩
    case measure=>simp[intOf];omega
  ·obtain rfl:k=T.length:=by omega
   have AQf:decide ((T.length:Int)<(T.length:Int))=false:=by simp
   have HK:=hid hkk;have A9:=hid hbw;obtain⟨W1,hW1⟩:∃W1,W1=wr.alloc (.cells #[] 25):=⟨_,rfl⟩;have hk1:AA Any wr W1:=by rw[hW1];exact AJ.alloc _
   have SB:=hid (show∀b,b<wr.heap.size→some b≠(Value.slice (some ⟨wr.heap.size,0,none⟩) 0 0).ownBlock from fun b hb e=>by
    simp only[Value.ownBlock,Eg]at e;omega)
   have NP:=hid (((IP.out.keep hkk).bnd.mono (fun b hb=>SB.out b hb.2)).keep (hk1.mono (fun _ _=>trivial)));have VD:=hid (((IQ.out.keep hkk).bnd.mono (fun b hb=>SB.out b hb.2)).keep (hk1.mono (fun _ _=>trivial)));obtain⟨ai,ci,rfl,_,_⟩:=hO.out.form;rw[DK]at hO ⊢;have HI1:=hid (show AP (fun b=>some b≠(Value.slice (some ⟨wr.heap.size,0,none⟩) 0 0).ownBlock) W1 (.slice ai T.length ci) ((JG Q T.length []).map ints) from by
    rw[Jg.out];exact((hO.out.sl.bnd).mono (fun b hb=>SB.out b hb.2)).keep (hk1.mono (fun _ _=>trivial)))
   have K4:=hid (show Own3 w.heap.size W1 (.slice (some ⟨wr.heap.size,0,none⟩) 0 0) [] from⟨[],by
    rw[hW1];exact Fb (base:=w.heap.size) (e:=25) (size:=1) wr #[] 0 (by omega) (AU _) rfl,rfl,by simp⟩)
   have HB1:=hid (show Below w.heap.size w W1 from by rw[hW1];exact hbw.alloc (by omega) _);have HWS:=hid (show w.heap.size≤W1.heap.size from by rw[hW1];simp;omega);clear hkk hbw hk1;go_wp2_with fail;rw[←hW1];have hGO:=Gi.out w.heap.size W1 (.slice aO T.length cO) (.slice aP T.length cP) (.slice aC T.length cC) qO qP qC (.slice ai T.length ci) (.slice (some ⟨wr.heap.size,0,none⟩) 0 0) [] [] NP.out VD.out HI1.out (by simp) (by simp) K4.out HWS.out HZN.out;refine hGO.mono ?_;rintro e w6 ⟨v6,rfl,OW,nV,SC,U7⟩;have HR:=hid (show AGb (Bf Q T T.length []) w (.returned v6) w6 from⟨_,rfl,by rw[List.nil_append]at OW;exact OW,HB1.out.trans U7⟩);clear OW nV SC U7 hGO p0 p1 p2 q0 q1 q2;go_wp2_with fail;go_ret;exact HR.out
theorem JM {T:Tw}(h:Ct.Bb (AQ T)):Wf T∧Small T∧AB.Good T∧Hg.Pr T:=by
 obtain⟨T',h1,h2,h3,h5,h4⟩:=h;obtain rfl:=Ct.KX h3;refine⟨h1,h2,h4,fun L hL=>?_⟩;have:=h5.pr (L.o:Int) (Cy.2 ⟨L,hL,rfl⟩);simp[Val.CL]at this;omega
end Go.Proofs.YtaadbccidfdniaaGreat.Mh
namespace Go.Proofs.YtaadbccidfdniaaGreat.FcA
open Go.RowKit Go.Proofs.YtaadbccidfdniaaGreat AB Val Ct CU Gen Cu Gt FY Qj NQ PM Ql U2 yx
def FM (p:Prop)(w:World)(e:Ending)(w':World):Prop:=∃r:Bool,e= .returned (.bool r)∧(r=true↔p)∧Below w.heap.size w w'
theorem FM.t {p:Prop}{w w':World}(h:p)(hb:Below w.heap.size w w'):FM p w (.returned (.bool true)) w':=⟨true,rfl,⟨fun _=>h,fun _=>rfl⟩,hb⟩
theorem FM.f {p:Prop}{w w':World}(h:¬p)(hb:Below w.heap.size w w'):FM p w (.returned (.bool false)) w':=⟨false,rfl,⟨fun h=>Bool.noConfusion h,fun h'=>absurd h' h⟩,hb⟩
theorem ADI {P:Bu}(h:Bb P):∀x∈P.os,CL x=true:=by
 obtain⟨_,_,_,_,hv,_⟩:=h;exact hv.pr
theorem AMB {T:Tw}{l:List Int}(h:Cj (AQ T).os 0 l):∃x,l=ints x∧El T x:=by
 have hx:∀(j:Nat) (x o:Int),l[j]?=some x→(AQ T).os[j]?=some o→0≤x∧x<o:=fun j x o h1 h2=>⟨(h.2 j x o h1 h2).1,(h.2 j x o h1 h2).2.1⟩;refine⟨Gs l,(pE (fun y hy=>?_)).symm,AB3 rfl h.1 hx⟩;obtain⟨j,hj⟩:=GM hy;have hjl:=(Ag.1 hj).1;obtain⟨o,ho⟩:∃o,(AQ T).os[j]?=some o:=⟨_,AO (by rw[←h.1];exact hjl)⟩;exact(hx j y o hj ho).1
theorem AIC {B:Nat}{a w w':World}(hb:Below B a w)(h:∃n,w'=w.drewN n):Below B a w':=by
 obtain⟨n,rfl⟩:=h;exact Dk hb n
theorem AJS {T:Tw}{x:List Nat}(h:El T x):Cj (AQ T).os 0 (ints x):=by
 refine⟨by rw[BL,qQ,AZ h],fun j y q hy hq=>?_⟩;rw[Fx,II]at hy;obtain⟨a,ha,rfl⟩:=hy;obtain⟨L,hL,hlt⟩:=LP h ha;rw[nu T j L hL]at hq;cases hq;exact⟨by simp,by simp;omega,fun h=>absurd h (CO _)⟩
def Hu (P:Bu)(l:List (List Int)):Prop:=Bb P∧∃T rows,P=AQ T∧l=rows.map ints∧Dl T rows rows
theorem ABy {a b:List (List Nat)}(h:a.map ints=b.map ints):a=b:=by
 induction a generalizing b with
 |nil=>cases b with
  |nil=>rfl
  |cons y b=>simp at h
 |cons x a ih=>cases b with
  |nil=>simp at h
  |cons y b=>
   simp only[GZ,RA]at h;rw[RL.Sw.1 h.1,ih h.2]
theorem Hu.len {T:Tw}{l:List (List Int)}(h:Hu (AQ T) l):l.length≤T.length:=by
 obtain⟨_,T',rows,hT,rfl,hc⟩:=h;obtain rfl:=Ct.KX hT;rw[Bh];exact hc.le
theorem Hu.row {P:Bu}{l:List (List Int)}(h:Hu P l):∀r∈l,Cj P.os 0 r:=by
 obtain⟨_,T',rows,rfl,rfl,hc⟩:=h;intro r hr;obtain⟨x,hx,rfl⟩:=Cy.1 hr;exact AJS (hc.el x hx)
theorem Hu.iff {T:Tw}(hT:Wf T)(hg:AB.Good T)(hG:Bb (AQ T)){rows us:List (List Nat)}(hc:Dl T rows us):Hu (AQ T) (rows.map ints)↔us=rows:=by
 constructor
 ·rintro⟨_,T',rows',hT',hr,h'⟩;obtain rfl:=Ct.KX hT';obtain rfl:=ABy hr;exact hc.uniq hT hg h'
 ·rintro rfl;exact⟨hG,T,us,rfl,rfl,hc⟩
theorem ACe {T:Tw}:∀{l:List (List Int)},(∀r∈l,Cj (AQ T).os 0 r)→∃rows:List (List Nat),l=rows.map ints∧∀u∈rows,El T u
 |[],_=>⟨[],rfl,fun u hu=>by simp at hu⟩
 |r::l,h=>by
  obtain⟨x,hx,hE⟩:=AMB (h r DJ);obtain⟨rows,hr,hE'⟩:=ACe (l:=l) (fun r hr=>h r (Dj _ hr));exact⟨x::rows,by rw[GZ,hx,hr],fun u hu=>by
   rcases F8.1 hu with rfl|hu
   ·exact hE
   ·exact hE' u hu⟩
theorem AKh (w:World)(va vb:Value)(a b:List (List Int))(ha:AP Any w va a)(hb:AP Any w vb b):
  Calls Tryz.prog 96 #[va,vb,.func (.func 97) #[] #[]] w (FM (a=b) w):=by
 obtain⟨aA,cA,rfl,hlA,Ox⟩:=Aq.form ha;obtain⟨aB,cB,rfl,hlB,Oy⟩:=Aq.form hb;unfold maxLen at Ox Oy;obtain⟨n,hn⟩:∃n,a.length=n:=⟨_,rfl⟩;have HA:=hid ha;have HB:=hid hb;have HN:=hid hn;have y8:=hid (fun W u v x y (h1:AL Any W u x) (h2:AL Any W v y)=>YY.Qv W u v x y h1 h2);rw[hn]at HA hlA ⊢;have hn63:(n:Int)≤9223372036854775807:=by omega
 obtain⟨n',hn'⟩:∃n',b.length=n':=⟨_,rfl⟩;have zu:=hid hn';rw[hn']at HB hlB ⊢;clear ha hb hn hn' Ox Oy hlA hlB;by_cases hl:n=n'
 ·subst hl;have hl2:((n:Int) !=(n:Int))=false:=by simp
  go_enter Tryz.func96,Tryz.ntmps96;go_wp2_with fail;go_loopw [17] (fun iv wr=>∃k:Nat,k≤n∧iv= .int .i64 (k:Int)∧Hid (∀j,j<k→a[j]?=b[j]?)∧Hid (Below w.heap.size w wr)) (fun iv _=>n-(intOf iv).toNat);case atStart=>exact⟨0,AU _,rfl,hid (fun j h=>absurd h (CO _)),hid AX⟩
  case round=>
   obtain⟨k,hk,rfl,hR,hB⟩:=hrel;by_cases hlt:k<n
   ·obtain⟨x,hx⟩:∃x,a[k]?=some x:=⟨_,AO (by rw[HN.out];omega)⟩;obtain⟨y,hy⟩:∃y,b[k]?=some y:=⟨_,AO (by rw[zu.out];omega)⟩;obtain⟨bA,oA,u,rfl,_,Rn,hcA,hu⟩:=Aq.get HA.out hx;obtain⟨bB,oB,v,rfl,_,UQ,hcB,hv⟩:=Aq.get HB.out hy;have hkB:=AA.of_below (S:=Any) hB.out;have AQg:=(hkB.cell (b:=bA) (o:=oA+k) trivial Rn).trans hcA;have hcB':=(hkB.cell (b:=bB) (o:=oB+k) trivial UQ).trans hcB;have AQh:=Ai Rn hkB.size;have AQi:=Ai UQ hkB.size;have HEC:=hid (y8.out wr u v x y (AL.keep hu hkB) (AL.keep hv hkB));have HX:=hid hx;have HY:=hid hy;have hki:(k:Int)<(n:Int):=by omega
    clear hx hy hcA hcB hu hv hkB;go_wp2_with fail;refine HEC.out.mono ?_;rintro e w2 ⟨rfl,hq⟩;have HB2:=hid (hB.out.trans ((AIC (A7 wr.heap.size wr) hq).mono hB.out.size));clear hq HEC;by_cases hxy:x=y
    ·have h2:decide (x=y)=true:=by simpa using hxy
     have Iy:=hid (show∀j,j<k+1→a[j]?=b[j]? from fun j hj=>by
      rcases EB.1 hj with h|h
      ·exact hR.out j h
      ·subst h;rw[HX.out,HY.out,hxy])
     clear hxy hR hB;go_wp2_with fail;go_roundw;case rel=>exact⟨k+1,by omega,by go_num,Iy,HB2⟩
     case measure=>simp[intOf];omega
    ·have h2:decide (x=y)=false:=by simpa using hxy
     have HR:=hid (show FM (a=b) w (.returned (.bool false)) w2 from FM.f (fun e=>hxy (by
      have h1:=HX.out;rw[e,HY.out]at h1;exact(Mc h1).symm)) HB2.out)
     clear hxy hR hB;go_wp2_with fail;go_ret;exact HR.out
   ·obtain rfl:k=n:=by omega
    have HR:=hid (show FM (a=b) w (.returned (.bool true)) wr from FM.t (Oi fun j=>by
     by_cases hj:j<k
     ·exact hR.out j hj
     ·rw[J9 (by rw[HN.out];omega),J9 (by rw[zu.out];omega)]) hB.out)
    clear hR hB;go_wp2_with fail;go_ret;exact HR.out
 ·have hl2:((n:Int) !=(n':Int))=true:=by simp;omega
  have HR:=hid (show FM (a=b) w (.returned (.bool false)) w from FM.f (fun e=>hl (by rw[←HN.out,←zu.out,e])) AX);clear hl;go_enter Tryz.func96,Tryz.ntmps96;go_wp2_with fail;go_ret;exact HR.out
theorem AG2 (w:World)(va vb:Value)(a b:List (List Int))(ha:AP Any w va a)(hb:AP Any w vb b):
  Calls Tryz.prog 55 #[va,vb] w (FM (a=b) w):=by
 have HC:=hid (AKh w va vb a b ha hb);clear ha hb;go_enter Tryz.func55,Tryz.ntmps55;go_wp2_with fail;refine HC.out.mono ?_;rintro e w1 ⟨r,rfl,hr,hb⟩;have HR:=hid (show FM (a=b) w (.returned (.bool r)) w1 from⟨r,rfl,hr,hb⟩);clear hr hb HC;go_wp2_with fail;go_ret;exact HR.out
theorem AHg (w:World)(b o g:Nat)(P:Bu)(vu:Value)(l:List (List Int))(hP:BN Any w b o P)(hg:g<w.heap.size)(hc:w.cell? ⟨g,0,none⟩=some vu)(hu:AP Any w vu l):
  Calls Tryz.prog 24 #[.pointer (some ⟨b,o,none⟩),.slice (some ⟨g,0,none⟩) 1 1] w (FM (Hu P l) w):=by
 have HP:=hid hP;have HU:=hid hu;obtain⟨aU,cU,rfl,dU,dV⟩:=Aq.form hu;obtain⟨_,hPb,vO,vP,vC,p0,p1,p2,hv⟩:=hP;have dW:=hid (Yj.Su w vO vP vC P hv);obtain⟨n,hn⟩:∃n,l.length=n:=⟨_,rfl⟩;have MP:=hid hn;rw[hn]at HU dU hc;have hn63:(n:Int)≤9223372036854775807:=by unfold maxLen at dV;omega
 have DC:=hid hc;clear hu hv hn dV dU;go_enter Tryz.func24,Tryz.ntmps24;go_wp2_with fail;refine dW.out.mono ?_;rintro e w1 ⟨r,rfl,hr,hb1⟩;have HB1:=hid hb1;clear hb1 dW p0 p1 p2 hc;by_cases hG:Bb P
 ·obtain rfl:r=true:=hr.2 hG;obtain⟨T,dX⟩:∃T,P=AQ T:=by obtain⟨T,_,_,h,_⟩:=hG;exact⟨T,h⟩
  subst dX;obtain⟨hT,CK,BH,JH⟩:=Mh.JM hG;have hs6:=CK.1;have AOw:=hid (ADI hG);have Ay:=hid (fun h=>Hu.len (T:=T) (l:=l) h);have I6:=hid (fun h=>Hu.row (P:=AQ T) (l:=l) h);have AOx:=hid (fun rows us h=>Hu.iff hT BH hG (rows:=rows) (us:=us) h);have AOy:=hid (fun W vl im h1 h2 h3 h4=>AKK T hT CK BH JH W b o vl im h1 h2 h3 h4);clear hr hG hT CK BH JH;go_wp2_with fail;go_loopw [16] (fun iv wr=>∃i:Nat,i≤1∧iv= .int .i64 (i:Int)∧Hid (i=1→Hu (AQ T) l)∧Hid (Below w.heap.size w wr)) (fun iv _=>1-(intOf iv).toNat);case atStart=>exact⟨0,AU _,rfl,hid (fun h=>absurd h (by omega)),HB1⟩
  case round=>
   obtain⟨i,hi,rfl,hS,hB⟩:=hrel;have hkB:=AA.of_below (S:=Any) hB.out;by_cases hi0:i=0
   ·have HI0:=hid hi0;have hcg:wr.cell? ⟨g,i,none⟩=some (.slice aU n cU):=by rw[hi0];exact(hkB.cell (b:=g) (o:=0) trivial hg).trans DC.out
    have hii:(i:Int)<(1:Int):=by omega
    have AMT:(0:Int)≤(i:Int):=by omega
    have hin:i<1:=by omega
    clear hi0;have hgw:g<wr.heap.size:=Ai hg hkB.size;obtain⟨-, AOz,Qo,PR,PS,p0,p1,p2,hv⟩:=HP.out.keep hkB;obtain⟨aO,cO,aP,cP,aC,cC,rfl,rfl,rfl,-, -, -⟩:=hv.open;have VC:=hid (AP.keep HU.out hkB);by_cases hlen:T.length<n
    ·have hd:decide ((n:Int)>(T.length:Int))=true:=by simp;omega
     have HR:=hid (show FM (Hu (AQ T) l) w (.returned (.bool false)) wr from FM.f (fun h=>by have h1:=Ay.out h;rw[MP.out]at h1;omega) hB.out);clear hv hkB hS hB;go_wp2_with fail;go_ret;exact HR.out
    ·have hd:decide ((n:Int)>(T.length:Int))=false:=by simp;omega
     clear hv hkB hS;go_wp2_with fail;go_loopw [30] (fun jv wi=>∃j:Nat,j≤n∧jv= .int .i64 (j:Int)∧Hid (∀k r,k<j→l[k]?=some r→Cj (AQ T).os 0 r)∧Hid (Below w.heap.size w wi)) (fun jv _=>n-(intOf jv).toNat);case atStart=>exact⟨0,AU _,rfl,hid (fun k r h=>absurd h (CO _)),hB⟩
     case round=>
      clear hB hcg hgw AOz p0 p1 p2 VC;obtain⟨j,hj,rfl,hR,hB⟩:=hrel;have hkB:=AA.of_below (S:=Any) hB.out;by_cases hlt:j<n
      ·obtain⟨x,hx⟩:∃x,l[j]?=some x:=⟨_,AO (by rw[MP.out];omega)⟩;obtain⟨bU,oU,u,rfl,_,EU,Db,hu⟩:=Aq.get HU.out hx;have WR:=(hkB.cell (b:=bU) (o:=oU+j) trivial EU).trans Db;have vD:=Ai EU hkB.size;have zw:=hid (Vu.AAD _ b o (AQ T) u x (HP.out.keep hkB) (AL.keep hu hkB) AOw.out);have HX:=hid hx;have hji:(j:Int)<(n:Int):=by omega
       clear hx Db hu hkB;go_wp2_with fail;refine zw.out.mono ?_;rintro e w3 ⟨r,rfl,hr,rfl⟩;cases r with
       |false=>
        have HRR:=hid (show FM (Hu (AQ T) l) w (.returned (.bool false)) _ from FM.f (fun h=>Bool.noConfusion (hr.2 (I6.out h x (Ak HX.out)))) hB.out);clear hr zw hR hB;go_wp2_with fail;go_ret;exact HRR.out
       |true=>
        have HN:=hid (show∀k r,k<j+1→l[k]?=some r→Cj (AQ T).os 0 r from fun k r hk hr'=>by
         rcases EB.1 hk with h|h
         ·exact hR.out k r h hr'
         ·subst h;rw[HX.out]at hr';injection hr' with hr';rw[←hr'];exact hr.1 rfl)
        clear hr zw hR;go_wp2_with fail;go_roundw;case rel=>exact⟨j+1,by omega,by go_num,HN,hB⟩
        case measure=>simp[intOf];omega
      ·obtain rfl:j=n:=by omega
       obtain⟨rows,hrows,U5⟩:=ACe (T:=T) (l:=l) (fun r hr=>by
        obtain⟨k,hk⟩:=GM hr;exact hR.out k r (by have:=(Ag.1 hk).1;rw[MP.out]at this;exact this) hk)
       have VC:=hid (AP.keep HU.out hkB);have dW:=hid (AOy.out _ (.slice aU j cU) rows (HP.out.keep hkB) (by rw[←hrows];exact VC.out) U5 (by
        have:rows.length=j:=by rw[←MP.out,hrows,Bh]
        omega))
       have HRW:=hid hrows;clear hrows U5 hkB hR;go_wp2_with fail;refine dW.out.mono ?_;rintro e w3 ⟨v3,us,rfl,hcan,hsl,hb3⟩;have HB3:=hid (hB.out.trans (hb3.mono hB.out.size));have AO0:=hid hcan;have SK:=hid (AG2 w3 v3 (.slice aU j cU) (us.map ints) l hsl (AP.keep VC.out (AA.of_below hb3)));clear hcan hsl hb3 dW hB VC;go_wp2_with fail;refine SK.out.mono ?_;rintro e w4 ⟨r,rfl,hr,hb4⟩;have Bl:=hid (HB3.out.trans (hb4.mono HB3.out.size));have HI:=hid (show Hu (AQ T) l↔us.map ints=l from by
        have h:=AOx.out rows us AO0.out;rw[HRW.out,h];exact⟨fun h=>by rw[h],fun h=>ABy h⟩)
       clear hb4 SK;cases r with
       |false=>
        have HRR:=hid (show FM (Hu (AQ T) l) w (.returned (.bool false)) w4 from FM.f (fun h=>Bool.noConfusion (hr.2 (HI.out.1 h))) Bl.out);clear hr;go_wp2_with fail;go_ret;exact HRR.out
       |true=>
        have HN:=hid (show Hu (AQ T) l from HI.out.2 (hr.1 rfl));clear hr;go_wp2_with fail;go_roundw;case rel=>exact⟨i+1,by omega,by go_num,hid (fun _=>HN.out),Bl⟩
        case measure=>simp[intOf];omega
   ·obtain rfl:i=1:=by omega
    have HR:=hid (show FM (Hu (AQ T) l) w (.returned (.bool true)) wr from FM.t (hS.out rfl) hB.out);clear hS hB hkB;go_wp2_with fail;go_ret;exact HR.out
 ·obtain rfl:r=false:=by
   cases r with
   |false=>rfl
   |true=>exact absurd (hr.1 rfl) hG
  have HR:=hid (show FM (Hu P l) w (.returned (.bool false)) w1 from FM.f (fun h=>hG h.1) HB1.out);clear hr hG;go_wp2_with fail;go_ret;exact HR.out
end Go.Proofs.YtaadbccidfdniaaGreat.FcA
namespace Go.Proofs.YtaadbccidfdniaaGreat.UH
open Go.RowKit Go.Proofs.YtaadbccidfdniaaGreat AB CU Gf Re Dr RH Mh
def AMC (P Q:Bu)(k:Int):Prop:=(k=1∧¬(Ct.Bb P∧Ct.Bb Q))∨∃T U,P=AQ T∧Q=AQ U∧Ct.Bb P∧Ct.Bb Q∧((k=3∧(27<sz T∨27<sz U))∨(k=0∧sz T≤27∧sz U≤27))
def WA (P Q:Bu)(w:World)(e:Ending)(w':World):Prop:=∃k:Int,e= .returned (.int .i64 k)∧AMC P Q k∧Below w.heap.size w w'
theorem TH {T:Tw}(h:Ct.Bb (AQ T)):Cm.Os T∧sz T≤729:=by
 obtain⟨T',h1,h2,h3,h5,h4⟩:=h;obtain rfl:=Ct.KX h3;have hz:=fB h5;exact⟨Cm.Os.of h1 h2 hz,hz⟩
theorem AID (w:World)(pO pP pC qO qP qC:Value)(P Q:Bu)(hP:BC Any w pO pP pC P)(hQ:BC Any w qO qP qC Q):
  Calls Tryz.prog 22 #[.agg #[pO,pP,pC],.agg #[qO,qP,qC]] w (WA P Q w):=by
 have HP:=hid hP;have HQ:=hid hQ;have HG:=hid (fun W h=>sU.Su W pO pP pC P h);have LB:=hid (fun W h=>sU.Su W qO qP qC Q h);obtain⟨W0,hW0⟩:∃W0,W0=(w.alloc (.cells #[pO,pP,pC] 28)).alloc (.cells #[qO,qP,qC] 28):=⟨_,rfl⟩;have HB0:=hid (show Below (w.heap.size+2) ((w.alloc (.cells #[pO,pP,pC] 28)).alloc (.cells #[qO,qP,qC] 28)) W0 by rw[hW0];exact A7 _ _);clear hP hQ;go_enter Tryz.func22,Tryz.ntmps22;go_upto_region 1 with fail;rw[←hW0];clear hW0;obtain⟨⟨p0,p1,p2⟩,⟨q0,q1,q2⟩,hk,hbw,hs⟩:=bx HB0.out;go_wp2_with fail;refine(HG.out _ (HP.out.keep hk)).mono ?_;rintro e w1 ⟨r,rfl,hr,hb1⟩;have HB1:=hid (HB0.out.trans (hb1.mono hs));clear p0 p1 p2 q0 q1 q2 hk hbw hs hb1;obtain⟨⟨p0,p1,p2⟩,⟨q0,q1,q2⟩,hk,hbw,hs⟩:=bx HB1.out;by_cases Es:Ct.Bb P
 ·obtain rfl:r=true:=hr.2 Es;have Fu:=hid Es;clear hr Es;go_wp2_with fail;refine(LB.out _ (HQ.out.keep hk)).mono ?_;rintro e w2 ⟨r,rfl,hr,hb2⟩;have HB2:=hid (HB1.out.trans (hb2.mono hs));clear p0 p1 p2 q0 q1 q2 hk hbw hs hb2;obtain⟨⟨p0,p1,p2⟩,⟨q0,q1,q2⟩,hk,hbw,hs⟩:=bx HB2.out;by_cases FR:Ct.Bb Q
  ·obtain rfl:r=true:=hr.2 FR;obtain⟨T,dX⟩:∃T,P=AQ T:=by obtain⟨T,_,_,h,_⟩:=Fu.out;exact⟨T,h⟩
   obtain⟨U,zx⟩:∃U,Q=AQ U:=by obtain⟨T,_,_,h,_⟩:=FR;exact⟨T,h⟩
   subst dX;subst zx;have kN:=hid FR;have Bv:=hid (Cm.LJ T (TH Fu.out).1 w2 pO pP pC (by have h:=(HP.out.keep hk).os;rwa[Cm.VN]at h));clear hr FR;go_wp2_with fail;refine Bv.out.mono ?_;rintro e w3 ⟨rfl,hb3⟩;have HB3:=hid (HB2.out.trans (hb3.mono hs));clear p0 p1 p2 q0 q1 q2 hk hbw hs hb3;obtain⟨⟨p0,p1,p2⟩,⟨q0,q1,q2⟩,hk,hbw,hs⟩:=bx HB3.out;have A9:=hid hbw;by_cases h27:27<sz T
   ·have hd:decide ((sz T:Int)>27)=true:=by simp;omega
    have HR:=hid (show WA (AQ T) (AQ U) w (.returned (.int .i64 3)) w3 from⟨3,rfl,.inr ⟨T,U,rfl,rfl,Fu.out,kN.out,.inl ⟨rfl,.inl h27⟩⟩,A9.out⟩);clear hk hbw hs;go_wp2_with fail;go_ret;exact HR.out
   ·have hd:decide ((sz T:Int)>27)=false:=by simp;omega
    have KP:=hid (Cm.LJ U (TH kN.out).1 w3 qO qP qC (by have h:=(HQ.out.keep hk).os;rwa[Cm.VN]at h));clear hk hbw;go_wp2_with fail;refine KP.out.mono ?_;rintro e w4 ⟨rfl,hb4⟩;have AGc:=hid (bx (HB3.out.trans (hb4.mono hs))).2.2.2.1;clear p0 p1 p2 q0 q1 q2 hb4;by_cases Xn:27<sz U
    ·have hd2:decide ((sz U:Int)>27)=true:=by simp;omega
     have HR:=hid (show WA (AQ T) (AQ U) w (.returned (.int .i64 3)) w4 from⟨3,rfl,.inr ⟨T,U,rfl,rfl,Fu.out,kN.out,.inl ⟨rfl,.inr Xn⟩⟩,AGc.out⟩);go_wp2_with fail;go_ret;exact HR.out
    ·have hd2:decide ((sz U:Int)>27)=false:=by simp;omega
     have HR:=hid (show WA (AQ T) (AQ U) w (.returned (.int .i64 0)) w4 from⟨0,rfl,.inr ⟨T,U,rfl,rfl,Fu.out,kN.out,.inr ⟨rfl,by omega,by omega⟩⟩,AGc.out⟩);go_wp2_with fail;go_ret;exact HR.out
  ·obtain rfl:r=false:=by
    cases r with
    |false=>rfl
    |true=>exact absurd (hr.1 rfl) FR
   have HR:=hid (show WA P Q w (.returned (.int .i64 1)) w2 from⟨1,rfl,.inl ⟨rfl,fun h=>FR h.2⟩,hbw⟩);clear hr FR hk hbw hs;go_wp2_with fail;go_ret;exact HR.out
 ·obtain rfl:r=false:=by
   cases r with
   |false=>rfl
   |true=>exact absurd (hr.1 rfl) Es
  have HR:=hid (show WA P Q w (.returned (.int .i64 1)) w1 from⟨1,rfl,.inl ⟨rfl,fun h=>Es h.1⟩,hbw⟩);clear hr Es hk hbw hs;go_wp2_with fail;go_ret;exact HR.out
end Go.Proofs.YtaadbccidfdniaaGreat.UH
namespace Go.Proofs.YtaadbccidfdniaaGreat.Ord
open Go.Proofs.YtaadbccidfdniaaGreat AB CU Gf dM dN
end Go.Proofs.YtaadbccidfdniaaGreat.Ord
namespace Go.Proofs.YtaadbccidfdniaaGreat.zy
open Go.RowKit Go.Proofs.YtaadbccidfdniaaGreat AB CU Gf Dr RH dM dN Go.Proofs.YtaadbccidfdniaaGreat.Ord
def Fg (B:Nat)(w:World)(v:Value)(L:List (Nat×List Int)):Prop:=
 ∃us:List Value,w.ownsRow B 24 1 v L.length us∧us.length=L.length∧∀(i:Nat) (p:Nat×List Int) (u:Value),L[i]?=some p→us[i]?=some u→(∃c,u= .slice (some ⟨p.1,0,none⟩) p.2.length c)∧Own B w u p.2
theorem Fg.nil (B:Nat)(w:World):Fg B w (.slice none 0 0) []:=⟨[],F7 _ _ _ _,rfl,by simp⟩
theorem Fg.row {B:Nat}{w:World}{v:Value}{L:List (Nat×List Int)}(h:Fg B w v L){p:Nat×List Int}(hp:p∈L):∃c,Own B w (.slice (some ⟨p.1,0,none⟩) p.2.length c) p.2:=by
 obtain⟨us,h1,h2,h4⟩:=h;obtain⟨i,hi⟩:=GM hp;have hil:=(Ag.1 hi).1;obtain⟨⟨c,hc⟩,ho⟩:=h4 i p us[i] hi (AO (by omega));rw[hc]at ho;exact⟨c,ho⟩
theorem Fg.lt {B:Nat}{w:World}{v:Value}{L:List (Nat×List Int)}(h:Fg B w v L):∀p∈L,B≤p.1∧p.1<w.heap.size:=fun p hp=>by
 obtain⟨c,ho⟩:=h.row hp;exact ho.lt
theorem Fg.form {B:Nat}{w:World}{v:Value}{L:List (Nat×List Int)}(h:Fg B w v L):∃a cap,v= .slice a L.length cap∧L.length≤cap∧cap≤maxLen∧(a=none→cap=0):=by
 obtain⟨us,h1,h2,h4⟩:=h;rcases h1.2 with⟨rfl,hn⟩|⟨g,cap,cur,rfl,hb,hgg,hn,hm,hs,ht⟩
 ·exact⟨none,0,by rw[hn],by omega,by simp,fun _=>rfl⟩
 ·exact⟨_,cap,rfl,hn,hm,by simp⟩
theorem Fg.keep {B:Nat}{w w':World}{v:Value}{L:List (Nat×List Int)}(h:Fg B w v L)(hb:Below w.heap.size w w'):Fg B w' v L:=by
 obtain⟨us,h1,h2,h4⟩:=h;exact⟨us,Br h1 (AA.of_below (S:=fun _=>True) hb) (fun _ _=>trivial),h2,fun i p u hp hu=>⟨(h4 i p u hp hu).1,(h4 i p u hp hu).2.of_below hb⟩⟩
theorem Fg.push {B n:Nat}{w w':World}{v v' u:Value}{L:List (Nat×List Int)}{p:Nat×List Int}{us:List Value}(hn:L.length=n)
  (h1:w.ownsRow B 24 1 v n us) (h2:us.length=L.length) (h4:∀(i:Nat) (p:Nat×List Int) (u:Value),L[i]?=some p→us[i]?=some u→(∃c,u= .slice (some ⟨p.1,0,none⟩) p.2.length c)∧Own B w u p.2)
  (hu:(∃c,u= .slice (some ⟨p.1,0,none⟩) p.2.length c)∧Own B w u p.2) (ho:w'.ownsRow B 24 1 v' (n+1) (us++[u])) (hg:w.grownBy w' v.ownBlock):Fg B w' v' (L++[p]):=by
 subst hn;refine⟨us++[u],by simpa using ho,by simp[h2],fun i r' u' hr' hu'=>?_⟩;have hown:(∃c,u'= .slice (some ⟨r'.1,0,none⟩) r'.2.length c)∧Own B w u' r'.2:=by
  rcases CP i L.length with hi|hi
  ·rw[EA hi]at hr';rw[EA (by omega)]at hu';exact h4 i r' u' hr' hu'
  ·rw[D9 hi]at hr';rw[D9 (by omega)]at hu';rw[h2]at hu';rcases hj:i-L.length with _|j
   ·rw[hj]at hr' hu';simp at hr' hu';subst hr';subst hu';exact hu
   ·rw[hj]at hr';simp at hr'
 exact⟨hown.1,Np hown.2 hg (LF hown.2 h1 (by decide))⟩
def Rf (B:Nat)(w:World)(v:Value)(rows:List (List Int)):Prop:=∃L,Fg B w v L∧L.map (·.2)=rows∧(L.map (·.1)).Nodup
def AGd (rows:List (List Int))(w:World)(e:Ending)(w':World):Prop:=∃v,e= .returned v∧Rf w.heap.size w' v rows∧Below w.heap.size w w'
theorem AGu (U:Tw)(hU:Wf U)(hs:U.length≤6)(hz:sz U≤729)(w:World)(b o:Nat)(hP:BN Any w b o (AQ U))(vn:Value)(l:List Nat)(hn:AL Any w vn (ints l))(hl:l.length≤1000)(hq:∀q∈l,q≤1000000):
  Calls Tryz.prog 26 #[.pointer (some ⟨b,o,none⟩),vn] w (AGd (l.map fun q=>ints (at_ U q)) w):=by
 obtain⟨i0,hi,hz0,hz1,hz2⟩:=Bt Ie;obtain⟨aN,cN,rfl,hNc⟩:=hn.open;have HN:=hid hn;have HP:=hid hP;have HQ:=hid hq;have HL:=hid hl;have HAT:=hid (fun W q (hq:q≤1000000) hP=>JV.MZ U hU hs hz q hq W b o hP);have hl63:(l.length:Int)≤9223372036854775807:=by omega
 clear hn hP hq hl;go_enter Tryz.func26,Tryz.ntmps26;go_wp2_with fail;go_loopw [5,10] (fun ov iv wr=>∃(k:Nat) (L:List (Nat×List Int)),k≤l.length∧iv= .int .i64 (k:Int)∧Hid (Fg w.heap.size wr ov L∧L.map (·.2)=(l.take k).map (fun q=>ints (at_ U q))∧(L.map (·.1)).Nodup)∧Hid (Below w.heap.size w wr)) (fun _ iv _=>l.length-(intOf iv).toNat);case atStart=>exact⟨0,[],AU _,rfl,hid ⟨Fg.nil _ _,by simp,by simp⟩,hid AX⟩
 case round=>
  obtain⟨k,L,hk,rfl,hO,hB⟩:=hrel;by_cases hlt:k<l.length
  ·obtain⟨q,hq⟩:∃q,l[k]?=some q:=⟨_,AO hlt⟩;obtain⟨bN,oN,rfl,_,hbN,zn⟩:=HN.out.at hq;have hcr:=((AA.of_below (S:=Any) hB.out).cell (b:=bN) (o:=oN+k) trivial hbN).trans zn;have hq6:=HQ.out q (Ak hq);have HC:=hid (HAT.out wr q hq6 (HP.out.keep (AA.of_below hB.out)));have Qc:=hid (show l.take (k+1)=l.take k++[q] from take_succ hq);have hLk:L.length=k:=by
    have:=BM List.length hO.out.2.1;rw[Bh,Bh,JX]at this;omega
   have HLK:=hid hLk;clear hq zn hLk;go_wp2_with fail;refine HC.out.mono ?_;rintro e w1 ⟨g,c,rfl,ho,hb1⟩;have HB1:=hid (hB.out.trans (hb1.mono hB.out.size));have HG:=hid (show wr.heap.size≤g from ho.lt.1);have HO:=hid (ho.mono (B':=w.heap.size) hB.out.size);have SE:=hid (hO.out.1.lt);have AD7:=hid hO.out.2;obtain⟨us,h1,h2,h4⟩:=hO.out.1.keep hb1;have HU:=hid (And.intro h2 h4);rw[HLK.out]at h1;clear ho hb1 h2 h4 hO;go_wp2_with (at_builtin;(refine Fz _ rfl _ _ 25 rfl w.heap.size 24 i0 (.slice none 0 0) 1 24 Tryz.underlying25 hi hz0 hz1 hz2 rfl (by decide) _ _ _ rfl (h1.alloc _) ⟨w1.heap.size,0,none⟩ 1 1 [.slice (some ⟨g,0,none⟩) (ints (at_ U q)).length c] rfl rfl ?c1 ?c2 ?c3 ?c4 ?c5 ?_));case c1=>
    intro j u hj
    match j,hj with
    |0,hj=>simp at hj;subst hj;simp[Addr.add]
   case c2=>intro u hu;simp at hu;subst hu;rfl
   case c3=>have:=HL.out;unfold maxLen;omega
   case c4=>have:=HL.out;omega
   case c5=>have:=HB1.out.size;simp;omega
   ·intro v' w2 hown hgrow _;have QU:=hid (show Fg w.heap.size w2 v' (L++[(g,ints (at_ U q))])∧(L++[(g,ints (at_ U q))]).map (·.2)=(l.take (k+1)).map (fun q=>ints (at_ U q))∧((L++[(g,ints (at_ U q))]).map (·.1)).Nodup from by
     refine⟨Fg.push (w:=w1.alloc _) (us:=us) HLK.out (h1.alloc _) HU.out.1 (fun i p u hp hu=>⟨(HU.out.2 i p u hp hu).1,(HU.out.2 i p u hp hu).2.alloc _⟩) ⟨⟨c,rfl⟩,HO.out.alloc _⟩ hown hgrow,?_,?_⟩
     ·rw[Qc.out,Md,Md,AD7.out.1];rfl
     ·rw[Md,List.nodup_append];refine⟨AD7.out.2,by simp,fun a ha b hb=>?_⟩;obtain⟨p,hp,rfl⟩:=Cy.1 ha;simp at hb;subst hb;have:=(SE.out p hp).2;have:=HG.out;omega)
    have HB2:=hid (show Below w.heap.size w w2 from(HB1.out.alloc (by have:=HB1.out.size;omega) _).grown hgrow (by simp;have:=HB1.out.size;omega) (fun g hg=>(Af h1 g hg).1));have jC:(k:Int)≤1000:=by have:=HL.out;omega
    clear hown hgrow h1 HU HO;go_wp2_with fail;go_roundw;case rel=>exact⟨k+1,_,by omega,by go_num,QU,HB2⟩
    case measure=>simp[intOf];omega
  ·obtain rfl:k=l.length:=by omega
   have HR:=hid (show AGd (l.map fun q=>ints (at_ U q)) w (.returned _) wr from⟨_,rfl,⟨L,hO.out.1,by have h:=hO.out.2.1;rwa[KC]at h,hO.out.2.2⟩,hB.out⟩);clear hO hB;go_wp2_with fail;go_ret;exact HR.out
def sV (P Q:Bu)(res:List (List Int))(k:Int):Prop:=
 (res=[]∧k=1∧¬(Ct.Bb P∧Ct.Bb Q))∨∃T U,P=AQ T∧Q=AQ U∧Ct.Bb P∧Ct.Bb Q∧
  ((res=[]∧k=3∧(27<sz T∨27<sz U))∨(res=[]∧k=4∧sz T≤27∧sz U≤27∧(sz T=sz U→Grow.grow U T T.length []=[]))∨
   (k=0∧sz T=sz U∧sz U≤27∧∃f,f∈Grow.grow U T T.length []∧(∀f'∈Grow.grow U T T.length [],¬cmpL f' f<0)∧res=f.map fun q=>ints (at_ U q)))
theorem ACf {U T:Tw}(hU:Wf U):∀(k:Nat) (im:List Nat),(∀q∈im,q<sz U)→∀f∈Grow.grow U T k im,∀q∈f,q<sz U
 |0,im,h,f,hf,q,hq=>by
  simp only[Grow.grow,GU]at hf;subst hf;exact h q hq
 |k+1,im,h,f,hf,q,hq=>by
  rw[Grow.grow,List.mem_flatMap]at hf;obtain⟨x,hx,hf⟩:=hf;split at hf
  ·exact ACf hU k (x::im) (fun y hy=>by
    rcases F8.1 hy with h'|h'
    ·rw[h'];exact JW.1 hx
    ·exact h y h') f hf q hq
  ·cases hf
theorem AKi {T:Tw}(h:Ct.Bb (AQ T)):sz T≤729:=(UH.TH h).2
theorem Fg.mono {B B':Nat}{w:World}{v:Value}{L:List (Nat×List Int)}(h:Fg B w v L)(hB:B'≤B):Fg B' w v L:=by
 obtain⟨us,h1,h2,h4⟩:=h;exact⟨us,JI h1 hB,h2,fun i p u hp hu=>⟨(h4 i p u hp hu).1,(h4 i p u hp hu).2.mono hB⟩⟩
def WC (P Q:Bu)(w:World)(e:Ending)(w':World):Prop:=∃v k res,e= .returned (.tuple #[v,.int .i64 k])∧sV P Q res k∧Rf w.heap.size w' v res∧Below w.heap.size w w'
theorem Rf.nil (B:Nat)(w:World):Rf B w (.slice none 0 0) []:=⟨[],Fg.nil _ _,rfl,by simp⟩
theorem AIE (w:World)(pO pP pC qO qP qC:Value)(P Q:Bu)(hP:BC Any w pO pP pC P)(hQ:BC Any w qO qP qC Q):
  Calls Tryz.prog 11 #[.agg #[pO,pP,pC],.agg #[qO,qP,qC]] w (WC P Q w):=by
 obtain⟨W0,hW0⟩:∃W0,W0=(w.alloc (.cells #[pO,pP,pC] 28)).alloc (.cells #[qO,qP,qC] 28):=⟨_,rfl⟩;have HB0:=hid (show Below (w.heap.size+2) ((w.alloc (.cells #[pO,pP,pC] 28)).alloc (.cells #[qO,qP,qC] 28)) W0 by rw[hW0];exact A7 _ _);obtain⟨⟨p0,p1,p2⟩,⟨q0,q1,q2⟩,hk,hbw,hs⟩:=bx HB0.out;have HC:=hid (Ym.AAB W0 w.heap.size 0 (w.heap.size+1) 0 P Q ⟨trivial,by omega,_,_,_,p0,p1,p2,hP.keep hk⟩ ⟨trivial,by omega,_,_,_,q0,q1,q2,hQ.keep hk⟩);have nX:=hid (show BN Any W0 (w.heap.size+1) 0 Q from⟨trivial,by omega,_,_,_,q0,q1,q2,hQ.keep hk⟩);have A9:=hid hbw;have zB:=hid hs;clear p0 p1 p2 q0 q1 q2 hk hbw hP hQ hs;go_enter Tryz.func11,Tryz.ntmps11;go_upto_region 1 with fail;rw[←hW0];clear hW0;go_wp2_with fail;refine HC.out.mono ?_;rintro e w1 ⟨v,k,rfl,hb,h⟩;have HB1:=hid (A9.out.trans (hb.mono (by have:=zB.out;omega)));have O0:=hid (AA.of_below (S:=Any) hb);clear hb;rcases h with⟨rfl,rfl,h⟩|⟨T,U,rfl,rfl,gP,gQ,h⟩
 ·have HR:=hid (show WC P Q w (.returned (.tuple #[.slice none 0 0,.int .i64 1])) w1 from⟨_,1,[],rfl,.inl ⟨rfl,rfl,h⟩,Rf.nil _ _,HB1.out⟩);clear h;go_wp2_with fail;exact Aj (v:=.tuple #[.slice none 0 0,.int .i64 1]) (by simp[results,Tryz.results11,go_sem]) rfl HR.out
 rcases h with⟨rfl,rfl,h⟩|⟨rfl,rfl,h1,h2,h3⟩|⟨rfl,h1,h2,F,hperm,hasc,ho⟩
 ·have HR:=hid (show WC (AQ T) (AQ U) w (.returned (.tuple #[.slice none 0 0,.int .i64 3])) w1 from⟨_,3,[],rfl,.inr ⟨T,U,rfl,rfl,gP,gQ,.inl ⟨rfl,rfl,h⟩⟩,Rf.nil _ _,HB1.out⟩);clear h gP gQ;go_wp2_with fail;exact Aj (v:=.tuple #[.slice none 0 0,.int .i64 3]) (by simp[results,Tryz.results11,go_sem]) rfl HR.out
 ·have HR:=hid (show WC (AQ T) (AQ U) w (.returned (.tuple #[.slice none 0 0,.int .i64 4])) w1 from⟨_,4,[],rfl,.inr ⟨T,U,rfl,rfl,gP,gQ,.inr (.inl ⟨rfl,rfl,h1,h2,fun h=>absurd h h3⟩)⟩,Rf.nil _ _,HB1.out⟩);clear h1 h2 h3 gP gQ;go_wp2_with fail;exact Aj (v:=.tuple #[.slice none 0 0,.int .i64 4]) (by simp[results,Tryz.results11,go_sem]) rfl HR.out
 ·cases F with
  |nil=>
   obtain⟨a,c,rfl,_,_⟩:=ho.form;have HR:=hid (show WC (AQ T) (AQ U) w (.returned (.tuple #[.slice none 0 0,.int .i64 4])) w1 from⟨_,4,[],rfl,.inr ⟨T,U,rfl,rfl,gP,gQ,.inr (.inl ⟨rfl,rfl,by omega,h2,fun _=>by
    have:=hperm.length_eq;exact D8 this.symm⟩)⟩,Rf.nil _ _,HB1.out⟩)
   clear h1 h2 gP gQ hperm hasc ho;go_wp2_with fail;exact Aj (v:=.tuple #[.slice none 0 0,.int .i64 4]) (by simp[results,Tryz.results11,go_sem]) rfl HR.out
  |cons f F=>
   have hmem:f∈Grow.grow U T T.length []:=hperm.mem_iff.1 DJ;have hmin:∀f'∈Grow.grow U T T.length [],¬cmpL f' f<0:=fun f' hf'=>by
    rcases F8.1 (hperm.mem_iff.2 hf')with e|e
    ·rw[e,pR];omega
    ·exact(List.pairwise_cons.1 hasc).1 f' e
   obtain⟨g,cap,u,rfl,_,hgl,hcell,hrow⟩:=ho.at (i:=0) (r:=f) rfl;obtain⟨hU,G7,FU,MR⟩:=Mh.JM gQ;have hfl:=Ym.pV _ _ _ hmem;have Sj:T.length≤6:=(Mh.JM gP).2.1.1;have Qg:=hid (AGu U hU G7.1 (AKi gQ) w1 (w.heap.size+1) 0 (nX.out.keep O0.out) u f (hrow.sl.mono (fun _ _=>trivial)) (by simp at hfl;omega) (fun q hq=>by have:=ACf hU _ _ (by simp) f hmem q hq;omega));have HFV:=hid (show sV (AQ T) (AQ U) (f.map fun q=>ints (at_ U q)) 0 from .inr ⟨T,U,rfl,rfl,gP,gQ,.inr (.inr ⟨rfl,h1,h2,f,hmem,hmin,rfl⟩)⟩);have hne:(((f::F).length:Int)==0)=false:=by simp<;>omega
   have hl0:(0:Int)<(((f::F).length:Nat):Int):=by simp<;>omega
   obtain⟨n,hn⟩:∃n,(f::F).length=n:=⟨_,rfl⟩;rw[hn]at hne hl0 ⊢;clear hmem hmin hperm hasc ho hrow gP gQ hU G7 FU MR hfl h1 h2 hn;go_wp2_with fail;refine Qg.out.mono ?_;rintro e w2 ⟨v2,rfl,hel,hb2⟩;have HR:=hid (show WC (AQ T) (AQ U) w (.returned (.tuple #[v2,.int .i64 0])) w2 from⟨_,0,_,rfl,HFV.out,by obtain⟨L,h1,h2,h3⟩:=hel;exact⟨L,Fg.mono h1 HB1.out.size,h2,h3⟩,HB1.out.trans (hb2.mono HB1.out.size)⟩);clear hel hb2;go_wp2_with fail;exact Aj (v:=.tuple #[v2,.int .i64 0]) (by simp[results,Tryz.results11,go_sem]) rfl HR.out
end Go.Proofs.YtaadbccidfdniaaGreat.zy
namespace Go.Proofs.YtaadbccidfdniaaGreat.nY
open Go.RowKit Go.Proofs.YtaadbccidfdniaaGreat AB Ct CU Gf Re EZ Dr RH Mh I9 SH ML U4 SQ
def ZZ (P Q:Bu)(n k:Int):Prop:=
 (n=0∧k=1∧¬(Bb P∧Bb Q))∨∃T U,P=AQ T∧Q=AQ U∧Bb P∧Bb Q∧
  ((n=0∧k=3∧(27<sz T∨27<sz U))∨(k=0∧sz T≤27∧sz U≤27∧n=(((Bf T U U.length []).length/(Bf U U U.length []).length:Nat):Int)))
def Ov (P Q:Bu)(w:World)(e:Ending)(w':World):Prop:=∃n k:Int,e= .returned (.tuple #[.int .i64 n,.int .i64 k])∧ZZ P Q n k∧Below w.heap.size w w'
theorem AKj {P Q:Bu}{n k n' k':Int}(h:ZZ P Q n k)(h':ZZ P Q n' k'):n'=n∧k'=k:=by
 rcases h with⟨rfl,rfl,hn⟩|⟨T,U,rfl,rfl,hG,hG2,h⟩
 ·rcases h' with⟨rfl,rfl,_⟩|⟨T',U',_,_,hG,hG2,_⟩
  ·exact⟨rfl,rfl⟩
  ·exact absurd ⟨hG,hG2⟩ hn
 ·rcases h' with⟨_,_,hn⟩|⟨T',U',hT,hU,_,_,h'⟩
  ·exact absurd ⟨hG,hG2⟩ hn
  ·obtain rfl:=Ct.KX hT;obtain rfl:=Ct.KX hU;rcases h with⟨rfl,rfl,h1⟩|⟨rfl,h1,h2,rfl⟩<;>rcases h' with⟨rfl,rfl,h3⟩|⟨rfl,h3,h4,rfl⟩<;>first|exact⟨rfl,rfl⟩|omega
theorem JS {T:Tw}(h:Hg.Pr T):Er T:=fun L hL=>h L hL
theorem ACg {T U:Tw}{L:List (List (List Nat))}{j:Nat}{u:List (List Nat)}(hu:L[j]?=some u)(h:sz (Ac T u)=sz U∧Bf (Ac T u) U U.length []≠[]):(IC T U (L.take (j+1))).length=(IC T U (L.take j)).length+1:=by
 classical
 unfold IC;rw[IJ,hu,List.filter_append,Cs];simp[h.1,h.2]
theorem iX {T U:Tw}{L:List (List (List Nat))}{j:Nat}{u:List (List Nat)}(hu:L[j]?=some u)(h:¬(sz (Ac T u)=sz U∧Bf (Ac T u) U U.length []≠[])):(IC T U (L.take (j+1))).length=(IC T U (L.take j)).length:=by
 classical
 unfold IC;rw[IJ,hu,List.filter_append,Cs];simp only[Option.toList_some,List.filter_cons,List.filter_nil];rw[BD (by simpa using h)];simp
theorem AJT {U S:Tw}(gU:Bb (AQ U))(gS:Bb (AQ S))(hs:sz S=sz U)(h27:sz U≤27){w w':World}{e:Ending}(h:Ym.iW (AQ U) (AQ S) w e w'):
  ∃a n c,e= .returned (.tuple #[.slice a n c,.int .i64 0])∧n=(Bf S U U.length []).length∧n≤1000000000∧Below w.heap.size w w':=by
 obtain⟨v,k,rfl,hb,h⟩:=h;rcases h with⟨_,_,h⟩|⟨T',U',hT,hU,_,_,h⟩
 ·exact absurd ⟨gU,gS⟩ h
 ·obtain rfl:=Ct.KX hT;obtain rfl:=Ct.KX hU;rcases h with⟨_,_,h⟩|⟨_,_,_,_,h⟩|⟨rfl,_,_,F,hperm,_,ho⟩
  ·omega
  ·omega
  ·obtain⟨a,c,rfl,_,_⟩:=ho.form;obtain⟨hT,CK,BH,JH⟩:=JM gU;obtain⟨hS,hsS,Cv,hpS⟩:=JM gS;have hl:=hperm.length_eq;have hg:=Grow.Xr S U (by omega) U.length [];have h6:27^U.length≤27^6:=Vm (by omega) CK.1;refine⟨a,F.length,c,rfl,?_,by omega,hb⟩;rw[hl,dx hS Cv hT]
theorem ABF {n a c:Nat}(h:n=c*a)(ha:0<a):n/a=c:=by rw[h,Nat.mul_div_cancel _ ha]
theorem AHD (w:World)(pO pP pC qO qP qC:Value)(P Q:Bu)(hP:BC Any w pO pP pC P)(hQ:BC Any w qO qP qC Q):
  Calls Tryz.prog 6 #[.agg #[pO,pP,pC],.agg #[qO,qP,qC]] w (Ov P Q w):=by
 have HP:=hid hP;have HQ:=hid hQ;have HG:=hid (fun W a b c P h=>Yj.Su W a b c P h);obtain⟨W0,hW0⟩:∃W0,W0=(w.alloc (.cells #[pO,pP,pC] 28)).alloc (.cells #[qO,qP,qC] 28):=⟨_,rfl⟩;have HB0:=hid (show Below (w.heap.size+2) ((w.alloc (.cells #[pO,pP,pC] 28)).alloc (.cells #[qO,qP,qC] 28)) W0 by rw[hW0];exact A7 _ _);have Ci:=hid (fun W (h:Below (w.heap.size+2) ((w.alloc (.cells #[pO,pP,pC] 28)).alloc (.cells #[qO,qP,qC] 28)) W)=>show BN Any W w.heap.size 0 P from by
  obtain⟨⟨p0,p1,p2⟩,_,hk,_,hs⟩:=bx h;exact⟨trivial,by omega,_,_,_,p0,p1,p2,hP.keep hk⟩)
 have nX:=hid (fun W (h:Below (w.heap.size+2) ((w.alloc (.cells #[pO,pP,pC] 28)).alloc (.cells #[qO,qP,qC] 28)) W)=>show BN Any W (w.heap.size+1) 0 Q from by
  obtain⟨_,⟨q0,q1,q2⟩,hk,_,hs⟩:=bx h;exact⟨trivial,by omega,_,_,_,q0,q1,q2,hQ.keep hk⟩)
 clear hP hQ;go_enter Tryz.func6,Tryz.ntmps6;go_upto_region 1 with fail;rw[←hW0];clear hW0;obtain⟨⟨p0,p1,p2⟩,⟨q0,q1,q2⟩,hk,hbw,hs⟩:=bx HB0.out;go_wp2_with fail;refine(HG.out _ _ _ _ _ (HP.out.keep hk)).mono ?_;rintro e w1 ⟨r,rfl,hr,hb1⟩;have HB1:=hid (HB0.out.trans (hb1.mono hs));clear p0 p1 p2 q0 q1 q2 hk hbw hs hb1;obtain⟨⟨p0,p1,p2⟩,⟨q0,q1,q2⟩,hk,hbw,hs⟩:=bx HB1.out;by_cases Es:Bb P
 ·obtain rfl:r=true:=hr.2 Es;have Fu:=hid Es;clear hr Es;go_wp2_with fail;refine(HG.out _ _ _ _ _ (HQ.out.keep hk)).mono ?_;rintro e w2 ⟨r,rfl,hr,hb2⟩;have HB2:=hid (HB1.out.trans (hb2.mono hs));clear p0 p1 p2 q0 q1 q2 hk hbw hs hb2;obtain⟨-, -, -, hbw,hs⟩:=bx HB2.out;by_cases FR:Bb Q
  ·obtain rfl:r=true:=hr.2 FR;have LB:=hid FR;clear hr;obtain⟨T,dX⟩:∃T,P=AQ T:=by obtain⟨T,_,_,h,_⟩:=Fu.out;exact⟨T,h⟩
   obtain⟨U,zx⟩:∃U,Q=AQ U:=by obtain⟨T,_,_,h,_⟩:=FR;exact⟨T,h⟩
   subst dX;subst zx;obtain⟨hT,CK,BH,JH⟩:=JM Fu.out;obtain⟨hU,G7,FU,MR⟩:=JM FR;have LY:=(UH.TH Fu.out).2;have AMD:=(UH.TH FR).2;have L9:=hid (fun W h=>JV.LJ T hT CK.1 LY W w.heap.size 0 (Ci.out W h));have NU:=hid (fun W h=>JV.LJ U hU G7.1 AMD W (w.heap.size+1) 0 (nX.out W h));have Bv:=hid (fun W h vu us h1 h2 h3 h4=>U8.AAk T CK W w.heap.size 0 vu us (Ci.out W h) h1 h2 h3 h4);have kP:=hid (fun W h vu us h1 h2 h3=>mo.ABr T hT CK BH W w.heap.size 0 vu us (Ci.out W h) h1 h2 h3);have vk:=hid (fun W h g S hS=>Ym.AAB W (w.heap.size+1) 0 g 0 (AQ U) (AQ S) (nX.out W h) hS);have Jw:=hid (And.intro hT (And.intro CK (And.intro BH JH)));have G9:=hid (And.intro hU (And.intro G7 (And.intro FU MR)));clear hT CK BH JH hU G7 FU MR FR;go_wp2_with fail;refine(L9.out _ HB2.out).mono ?_;rintro e w3 ⟨rfl,hb3⟩;have HB3:=hid (HB2.out.trans (hb3.mono hs));clear hbw hs hb3;obtain⟨-, -, -, hbw,hs⟩:=bx HB3.out;by_cases h27:27<sz T
   ·have hd:decide ((sz T:Int)>27)=true:=by simp;omega
    have HR:=hid (show Ov (AQ T) (AQ U) w (.returned (.tuple #[.int .i64 0,.int .i64 3])) w3 from⟨0,3,rfl,.inr ⟨T,U,rfl,rfl,Fu.out,LB.out,.inl ⟨rfl,rfl,.inl h27⟩⟩,hbw⟩);clear h27 hbw hs;go_wp2_with fail;exact Aj (v:=.tuple #[.int .i64 0,.int .i64 3]) (by simp[results,Tryz.results6,go_sem]) rfl HR.out
   ·have hd:decide ((sz T:Int)>27)=false:=by simp;omega
    go_wp2_with fail;refine(NU.out _ HB3.out).mono ?_;rintro e w4 ⟨rfl,hb4⟩;have Bl:=hid (HB3.out.trans (hb4.mono hs));clear hbw hs hb4;obtain⟨-, -, -, hbw,hs⟩:=bx Bl.out;by_cases QG:27<sz U
    ·have hd2:decide ((sz U:Int)>27)=true:=by simp;omega
     have HR:=hid (show Ov (AQ T) (AQ U) w (.returned (.tuple #[.int .i64 0,.int .i64 3])) w4 from⟨0,3,rfl,.inr ⟨T,U,rfl,rfl,Fu.out,LB.out,.inl ⟨rfl,rfl,.inr QG⟩⟩,hbw⟩);clear h27 QG hbw hs;go_wp2_with fail;exact Aj (v:=.tuple #[.int .i64 0,.int .i64 3]) (by simp[results,Tryz.results6,go_sem]) rfl HR.out
    ·have hd2:decide ((sz U:Int)>27)=false:=by simp;omega
     have Z7:=hid (nJ.AAa w4 w.heap.size 0 (AQ T) (Ci.out w4 Bl.out));have hs4:w.heap.size+2≤w4.heap.size:=hs;clear hbw hs;go_wp2_with fail;refine Z7.out.mono ?_;rintro e w5 ⟨v,k,rfl,hb5,hcase⟩;obtain⟨rfl,hz32,hlat⟩:k=0∧sz T≤32∧nJ.AFh T w5 v:=by
      rcases hcase with⟨_,_,h⟩|⟨T',hT',_,h⟩
      ·exact absurd Fu.out h
      ·obtain rfl:=Ct.KX hT';rcases h with⟨_,_,h⟩|⟨h1,h2,h3⟩
       ·omega
       ·exact⟨h1,h2,h3⟩
     obtain⟨lb,lv,L,us,ms,rfl,hlb,hcl,hsl,hSub,Ow,hperm,MC⟩:=hlat;have Aa:=hid (Bl.out.trans (hb5.mono hs4));have hs5:w.heap.size+2≤w5.heap.size:=Ad hs4 hb5.size;have AO1:=hid (count Jw.out.1 Jw.out.2.2.1 (JS Jw.out.2.2.2) G9.out.1 G9.out.2.2.1 (JS G9.out.2.2.2) hSub Ow hperm);have EN:=hid MC;have Ay:=hid hsl;have Xh:=hid (show∀u∈L,JC T u∧U8.Ll T u from fun u hu=>by
      obtain⟨M,_,hc⟩:=Ow.mem (hperm.mem_iff.1 hu);exact⟨(Ve Jw.out.1 Jw.out.2.2.1 (JS Jw.out.2.2.2) hc).1,Xe.gZ Jw.out.1 Jw.out.2.2.1 (JS Jw.out.2.2.2) Jw.out.2.1.1 LY hc⟩)
     obtain⟨aL,cL,rfl,_,_⟩:=Aq.form hsl;rw[Bh]at hcl Ay;obtain⟨n,hn⟩:∃n,L.length=n:=⟨_,rfl⟩;have HN:=hid hn;have hn63:(n:Int)≤4294967296:=by omega
     have Za:=hid hn63;rw[hn]at hcl Ay;clear hb5 hcase hsl hSub Ow hperm MC hn hn63 Z7;go_wp2_with fail;go_loopw [8,37] (fun cv jv wr=>∃j c:Nat,j≤n∧jv= .int .i64 (j:Int)∧cv= .int .i64 (c:Int)∧c≤j∧Hid (c=(IC T U (L.take j)).length)∧Hid (Below w5.heap.size w5 wr)) (fun _ jv _=>n-(intOf jv).toNat);case atStart=>exact⟨0,0,AU _,rfl,rfl,Av _,hid (by simp[IC]),hid AX⟩
     case round=>
      obtain⟨j,c,hj,rfl,rfl,hcj,hC,hB⟩:=hrel;have Bi:=hid (Aa.out.trans (hB.out.mono hs5));have OG:w.heap.size+2≤wr.heap.size:=Ad hs5 hB.out.size;clear hcl hlb;by_cases hjn:j<n
      ·obtain⟨u,hu⟩:∃u,L[j]?=some u:=⟨_,AO (by rw[HN.out];exact hjn)⟩;obtain⟨hch,hsu⟩:=Xh.out u (Ak hu);obtain⟨bL,oL,vu,rfl,_,hbL,VB,Co⟩:=Aq.get (GA.keep Ay.out (AA.of_below hB.out)) (k:=j) (x:=u.map ints) (by rw[Bn,hu];rfl);have OJ:=hid Co;have MK:=hid hu;have PU:=hid hch;have KP:=hid hsu;obtain⟨aX,cX,rfl,_,_⟩:=Aq.form Co;obtain⟨lx,hlx⟩:∃lx,u.length=lx:=⟨_,rfl⟩;rw[Bh,hlx]at OJ VB;have Hy:=hid (Bv.out wr Bi.out (.slice aX lx cX) u OJ.out (by have:=hsu.len;omega) hsu.row hsu.size);have hd3:decide ((j:Int)<(n:Int))=true:=by simp;omega
       have hji:(j:Int)<(n:Int):=by omega
       have hj0:(0:Int)≤(j:Int):=by omega
       have GJ:=hid hjn;have UF:(j:Int)+1≤9223372036854775807:=by have:=Za.out;omega
       have hc63:(c:Int)+1≤9223372036854775807:=by have:=Za.out;omega
       clear hu hch hsu Co hlx hjn;go_wp2_with fail;refine Hy.out.mono ?_;rintro e w6 ⟨rfl,hb6⟩;have Ar:=hid (Bi.out.trans (hb6.b.mono OG));have mX:=hid (AP.keep OJ.out (AA.of_below hb6.b));have hs6:w.heap.size+2≤w6.heap.size:=Ad OG hb6.b.size;have AGe:=hid (hB.out.trans (hb6.b.mono hB.out.size));clear hb6 Hy VB hbL;go_wp2_with fail;refine(NU.out _ Ar.out).mono ?_;rintro e w7 ⟨rfl,Cz⟩;have BB:=hid (Ar.out.trans (Cz.mono hs6));have QS:=hid (AP.keep mX.out (AA.of_below Cz));have hs7:w.heap.size+2≤w7.heap.size:=Ad hs6 Cz.size;have Tg:=hid (AGe.out.trans (Cz.mono AGe.out.size));clear Cz;by_cases hq:sz (Ac T u)=sz U
       ·have hb:((sz (Ac T u):Int) !=(sz U:Int))=false:=by rw[hq];simp
        have HQQ:=hid hq;have Dh:=hid (kP.out w7 BB.out (.slice aX lx cX) u QS.out KP.out.len PU.out);clear hq;go_wp2_with fail;refine Dh.out.mono ?_;rintro e w8 ⟨v0,v1,v2,rfl,VE,CJ⟩;have Cb:=hid (BB.out.trans (CJ.mono hs7));have K7:w.heap.size+2≤w8.heap.size:=Ad hs7 CJ.size;have AGf:=hid (Tg.out.trans (CJ.mono Tg.out.size));obtain⟨aO,cO,aP,cP,aC,cC,rfl,rfl,rfl,-, -, -⟩:=VE.open;have mD:=hid (VE.mono (S':=Any) fun _ _=>trivial);clear VE CJ Dh;go_upto_region 12 with fail;obtain⟨w9,nZ⟩:∃w9,w9=w8.alloc (.cells #[.slice aO (Ac T u).length cO,.slice aP (Ac T u).length cP,.slice aC (Ac T u).length cC] 28):=⟨_,rfl⟩;have EG:Below w8.heap.size w8 w9:=by rw[nZ];exact AX.alloc AR _
        have h9:w9.heap[w8.heap.size]?=some (.cells #[.slice aO (Ac T u).length cO,.slice aP (Ac T u).length cP,.slice aC (Ac T u).length cC] 28):=by rw[nZ];exact BA w8 _
        have IP:=hid (show BN Any w9 w8.heap.size 0 (AQ (Ac T u)) from⟨trivial,(Ba.1 h9).1,_,_,_,(by rw[Ah _ _ _ _ _ (0,0) h9];rfl),(by rw[Ah _ _ _ _ _ (0,0) h9];rfl),(by rw[Ah _ _ _ _ _ (0,0) h9];rfl),mD.out.keep (AA.of_below EG)⟩);have Gy:=hid (Cb.out.trans (EG.mono K7));have AGg:=hid (AGf.out.trans (EG.mono AGf.out.size));have MB:w.heap.size+2≤w9.heap.size:=Ad K7 EG.size;try rw[←nZ]
        have bu:=hid (vk.out w9 Gy.out w8.heap.size (Ac T u) IP.out);have M5:=hid (ACX Jw.out.1 Jw.out.2.2.1 (JS Jw.out.2.2.2) Jw.out.2.1.1 LY PU.out KP.out.len);clear nZ EG h9;go_wp2_with fail;refine bu.out.mono ?_;rintro e Bj j4;obtain⟨aF,nF,cF,rfl,hnF,AO2,Bp⟩:=AJT LB.out M5.out HQQ.out (by omega) j4;have AD8:=hid (AGg.out.trans (Bp.mono AGg.out.size));have HNF:=hid hnF;clear j4 hnF AO2 Bp bu;by_cases h0:nF=0
        ·subst h0;have hgt:decide (((0:Nat):Int)>0)=false:=by decide
         have Jt:=hid (show c=(IC T U (L.take (j+1))).length by
          rw[iX MK.out (fun h=>h.2 (D8 HNF.out.symm))];exact hC.out)
         go_wp2_with fail;go_roundw;case rel=>exact⟨j+1,c,GJ.out,by go_num,rfl,by omega,Jt,AD8⟩
         case measure=>have:=GJ.out;simp[intOf];omega
        ·have hgt:decide ((nF:Int)>0)=true:=by simp;omega
         have hgt2:0<nF:=by omega
         have Jt:=hid (show c+1=(IC T U (L.take (j+1))).length by
          rw[ACg MK.out ⟨HQQ.out,fun h=>h0 (by rw[HNF.out,h];rfl)⟩,←hC.out])
         clear h0;go_wp2_with fail;go_roundw;case rel=>exact⟨j+1,c+1,GJ.out,by go_num,by go_num,by omega,Jt,AD8⟩
         case measure=>have:=GJ.out;simp[intOf];omega
       ·have hb:((sz (Ac T u):Int) !=(sz U:Int))=true:=by simp;omega
        have Jt:=hid (show c=(IC T U (L.take (j+1))).length by rw[iX MK.out (fun h=>hq h.1)];exact hC.out);clear hq;go_wp2_with fail;go_roundw;case rel=>exact⟨j+1,c,GJ.out,by go_num,rfl,by omega,Jt,Tg⟩
        case measure=>have:=GJ.out;simp[intOf];omega
      ·obtain rfl:j=n:=by omega
       have hd3:decide ((j:Int)<(j:Int))=false:=by simp
       have HR:=hid (show Ov (AQ T) (AQ U) w (.returned (.tuple #[.int .i64 (c:Int),.int .i64 0])) wr from⟨_,0,rfl,.inr ⟨T,U,rfl,rfl,Fu.out,LB.out,.inr ⟨rfl,by omega,by omega,by
        have h:=hC.out;rw[←HN.out,KC]at h;rw[ABF AO1.out (qG G9.out.1 G9.out.2.2.1 (JS G9.out.2.2.2)),h]⟩⟩,(bx Bi.out).2.2.2.1⟩)
       clear hB hC;go_wp2_with fail;exact Aj (v:=.tuple #[.int .i64 (c:Int),.int .i64 0]) (by simp[results,Tryz.results6,go_sem]) rfl HR.out
  ·obtain rfl:r=false:=by
    cases r with
    |false=>rfl
    |true=>exact absurd (hr.1 rfl) FR
   have HR:=hid (show Ov P Q w (.returned (.tuple #[.int .i64 0,.int .i64 1])) w2 from⟨0,1,rfl,.inl ⟨rfl,rfl,fun h=>FR h.2⟩,hbw⟩);clear hr FR hbw hs;go_wp2_with fail;exact Aj (v:=.tuple #[.int .i64 0,.int .i64 1]) (by simp[results,Tryz.results6,go_sem]) rfl HR.out
 ·obtain rfl:r=false:=by
   cases r with
   |false=>rfl
   |true=>exact absurd (hr.1 rfl) Es
  have HR:=hid (show Ov P Q w (.returned (.tuple #[.int .i64 0,.int .i64 1])) w1 from⟨0,1,rfl,.inl ⟨rfl,rfl,fun h=>Es h.1⟩,hbw⟩);clear hr Es hk hbw hs;go_wp2_with fail;exact Aj (v:=.tuple #[.int .i64 0,.int .i64 1]) (by simp[results,Tryz.results6,go_sem]) rfl HR.out
end Go.Proofs.YtaadbccidfdniaaGreat.nY
namespace Go.Proofs.YtaadbccidfdniaaGreat.CcS
open Go.RowKit Go.Proofs.YtaadbccidfdniaaGreat AB Dr UH nY
open Go.Proofs.YtaadbccidfdniaaGreat.Gf (Bf)
open Go.Proofs.YtaadbccidfdniaaGreat.RH (bx)
theorem AHE (w:World)(pO pP pC qO qP qC:Value)(P Q:Bu)(hP:BC Any w pO pP pC P)(hQ:BC Any w qO qP qC Q):
  Calls Tryz.prog 7 #[.agg #[pO,pP,pC],.agg #[qO,qP,qC]] w (Ov P Q w):=by
 have HP:=hid hP;have HQ:=hid hQ;obtain⟨W0,hW0⟩:∃W0,W0=(w.alloc (.cells #[pO,pP,pC] 28)).alloc (.cells #[qO,qP,qC] 28):=⟨_,rfl⟩;have HB0:=hid (show Below (w.heap.size+2) ((w.alloc (.cells #[pO,pP,pC] 28)).alloc (.cells #[qO,qP,qC] 28)) W0 by rw[hW0];exact A7 _ _);clear hP hQ;go_enter Tryz.func7,Tryz.ntmps7;go_upto_region 1 with fail;rw[←hW0];clear hW0;obtain⟨⟨p0,p1,p2⟩,⟨q0,q1,q2⟩,hk,hbw,hs⟩:=bx HB0.out;go_wp2_with fail;refine(AID _ _ _ _ _ _ _ P Q (HP.out.keep hk) (HQ.out.keep hk)).mono ?_;rintro e w1 ⟨k,rfl,hc,hb1⟩;have HB1:=hid (HB0.out.trans (hb1.mono hs));clear p0 p1 p2 q0 q1 q2 hk hbw hs hb1;obtain⟨⟨p0,p1,p2⟩,⟨q0,q1,q2⟩,hk,hbw,hs⟩:=bx HB1.out;rcases hc with⟨rfl,hG⟩|⟨T,U,rfl,rfl,hG,hG2,⟨rfl,h27⟩|⟨rfl,h27,Xn⟩⟩
 ·have HR:=hid (show Ov P Q w (.returned (.tuple #[.int .i64 0,.int .i64 1])) w1 from⟨0,1,rfl,.inl ⟨rfl,rfl,hG⟩,hbw⟩);clear hG hk hbw;go_wp2_with fail;exact Aj (v:=.tuple #[.int .i64 0,.int .i64 1]) (by simp[results,Tryz.results7,go_sem]) rfl HR.out
 ·have HR:=hid (show Ov (AQ T) (AQ U) w (.returned (.tuple #[.int .i64 0,.int .i64 3])) w1 from⟨0,3,rfl,.inr ⟨T,U,rfl,rfl,hG,hG2,.inl ⟨rfl,rfl,h27⟩⟩,hbw⟩);clear hG hG2 hk hbw h27;go_wp2_with fail;exact Aj (v:=.tuple #[.int .i64 0,.int .i64 3]) (by simp[results,Tryz.results7,go_sem]) rfl HR.out
 ·obtain⟨hT,CK,BH,JH⟩:=Mh.JM hG;obtain⟨hU,G7,FU,MR⟩:=Mh.JM hG2;have O3:=hid (fun W h1 h2=>Mh.ABE U T hU G7 hT CK BH JH h27 W qO qP qC pO pP pC h1 h2);have HE2:=hid (fun W h1 h2=>Mh.ABE U U hU G7 hU G7 FU MR Xn W qO qP qC qO qP qC h1 h2);have NP:=hid (HP.out.keep hk);have VD:=hid (HQ.out.keep hk);have Y8:=hid (SH.qG hU FU (JS MR));obtain⟨n1,hn1⟩:∃n1,(Bf T U U.length []).length=n1:=⟨_,rfl⟩;obtain⟨n2,hn2⟩:∃n2,(Bf U U U.length []).length=n2:=⟨_,rfl⟩;have Xc:=hid hn1;have QU:=hid hn2;rw[hn2]at Y8;have h6:27^U.length≤27^6:=Vm (by omega) G7.1;have hb1':n1≤1000000000:=by
   have:=Grow.Xr T U h27 U.length [];rw[←Re.dx hT BH hU,hn1]at this;omega
  have hb2':n2≤1000000000:=by
   have:=Grow.Xr U U Xn U.length [];rw[←Re.dx hU FU hU,hn2]at this;omega
  have Iw:=hid (And.intro hb1' hb2');have HG:=hid (And.intro hG hG2);have A9:=hid hbw;have AGh:=hid (And.intro h27 Xn);have AQj:w.heap.size<w1.heap.size:=by omega
  have AQk:w.heap.size+1<w1.heap.size:=by omega
  clear hT CK BH JH hU G7 FU MR hn1 hn2 hb1' hb2' h6 hk hG hG2 hbw h27 Xn;have hne:¬(n2:Int)=0:=by have:=Y8.out;omega
  have hne2:¬n2=0:=by have:=Y8.out;omega
  obtain⟨d,hdd⟩:∃d:Nat,n1/n2=d:=⟨_,rfl⟩;have hdc:(n1:Int)/(n2:Int)=(d:Int):=by rw[←hdd];exact(Int.natCast_ediv n1 n2).symm
  have hd9:d≤1000000000:=by rw[←hdd];exact Ad (Nat.div_le_self _ _) Iw.out.1
  have hw64:wrap64 (d:Int)=(d:Int):=by unfold wrap64;omega
  have AQl:IntKind.i64.wrap (d:Int)=(d:Int):=AY _ (by omega);have HDD:=hid hdd;clear hdd hd9;go_upto_region 4 with fail;go_region_held3 (fun w'=>(∀b o,b<w1.heap.size→w'.cell? ⟨b,o,none⟩=w1.cell? ⟨b,o,none⟩)∧AA (fun _=>True) w1 w')
   (first|exact Au (by repeat(first|exact AJ.drew|exact AA.refl _ _|refine AA.drewN ?_ _|refine AA.trans ?_ (AA.of_below (by assumption)))))
   (first|(go_at_call_of 23 pO;refine(O3.out _ (VD.out.keep (by repeat(first|exact AJ.drew|exact AA.refl _ _|exact AJ.alloc _|exact(AJ.alloc _).drew|refine AA.drewN ?_ _|refine AA.trans ?_ (AA.of_below (by assumption))))) (NP.out.keep (by repeat(first|exact AJ.drew|exact AA.refl _ _|exact AJ.alloc _|exact(AJ.alloc _).drew|refine AA.drewN ?_ _|refine AA.trans ?_ (AA.of_below (by assumption)))))).mono ?_;rintro e w2 ⟨v2,rfl,ho2,hb2⟩;obtain⟨a2,c2,rfl,_,_⟩:=ho2.form;rw[Xc.out])|(go_at_call 23;refine(HE2.out _ (VD.out.keep (by repeat(first|exact AJ.drew|exact AA.refl _ _|exact AJ.alloc _|exact(AJ.alloc _).drew|refine AA.drewN ?_ _|refine AA.trans ?_ (AA.of_below (by assumption))))) (VD.out.keep (by repeat(first|exact AJ.drew|exact AA.refl _ _|exact AJ.alloc _|exact(AJ.alloc _).drew|refine AA.drewN ?_ _|refine AA.trans ?_ (AA.of_below (by assumption)))))).mono ?_;rintro e w3 ⟨v3,rfl,ho3,hb3⟩;obtain⟨a3,c3,rfl,_,_⟩:=ho3.form;rw[QU.out]))
  rename_i hHd;clear hHd;have h12:Below w1.heap.size w1 w2:=by first|exact(AX.drew).trans hb2|exact hb2
  have HB2:=hid (h12.trans (hb3.mono h12.size));have HR:=hid (show Ov (AQ T) (AQ U) w (.returned (.tuple #[.int .i64 (d:Int),.int .i64 0])) w3 from⟨_,0,rfl,.inr ⟨T,U,rfl,rfl,HG.out.1,HG.out.2,.inr ⟨rfl,AGh.out.1,AGh.out.2,by rw[Xc.out,QU.out,HDD.out]⟩⟩,A9.out.trans (HB2.out.mono (by omega))⟩);clear h12 ho2 hb2 ho3 hb3 hdc hne hne2;go_wp2_with fail;exact Aj (v:=.tuple #[.int .i64 (d:Int),.int .i64 0]) (by simp[results,Tryz.results7,go_sem]) rfl HR.out
end Go.Proofs.YtaadbccidfdniaaGreat.CcS
