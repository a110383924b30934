import Derived.Test.YtlmlamcoeegkbaaGreatZ0
import Derived.Test.YtlmlamcoeegkbaaGreatZy
import Derived.Test.YtlmlamcoeegkbaaGreatZv
/-
  Lemmas for the law FnOrbits, in short spelling.
-/
open Go.Lib (hid)
set_option linter.unusedVariables false
set_option linter.unusedSimpArgs false
set_option maxRecDepth 100000
set_option maxHeartbeats 40000000
namespace Go.Proofs.YtlmlamcoeegkbaaGreat.LawC
open Go.RowKit Go.Proofs.YtlmlamcoeegkbaaGreat Tow NumT GenD SpecB SpecS Cmp Srt Go.Proofs.YtlmlamcoeegkbaaGreat.Ord
end Go.Proofs.YtlmlamcoeegkbaaGreat.LawC
namespace Go.Proofs.YtlmlamcoeegkbaaGreat.LawE
open Go.RowKit Go.Proofs.YtlmlamcoeegkbaaGreat Tow NumT GenD SpecB SpecS Cmp Srt Go.Proofs.YtlmlamcoeegkbaaGreat.Ord
theorem bel_drawn {B:Nat}{a w w':World}(hb:Below B a w)(h:∃n,w'=w.drewN n):Below B a w':=by
 obtain⟨n,rfl⟩:=h;exact zq61 hb n
end Go.Proofs.YtlmlamcoeegkbaaGreat.LawE
namespace Go.Proofs.YtlmlamcoeegkbaaGreat.LawF
open Go.RowKit Go.Proofs.YtlmlamcoeegkbaaGreat Tow NumT GenD SpecB SpecS Cmp Srt Go.Proofs.YtlmlamcoeegkbaaGreat.Ord
theorem bx1 {w wr:World}{a0 a1 a2:Value}{t:TypeId}(hb:Below (w.heap.size+1) (w.alloc (.cells #[a0,a1,a2] t)) wr):
  (wr.cell? ⟨w.heap.size,0,none⟩=some a0∧wr.cell? ⟨w.heap.size,1,none⟩=some a1∧wr.cell? ⟨w.heap.size,2,none⟩=some a2)∧
  Keep Any w wr∧Below w.heap.size w wr∧w.heap.size+1≤wr.heap.size:=⟨box_cells hb,keep_boxed hb _,below_unboxed hb,by have:=hb.size;simpa using this⟩
end Go.Proofs.YtlmlamcoeegkbaaGreat.LawF
namespace Go.Proofs.YtlmlamcoeegkbaaGreat.Mark
open Go.RowKit Go.Proofs.YtlmlamcoeegkbaaGreat Tow NumT GenD SpecB SpecS Cmp Srt Go.Proofs.YtlmlamcoeegkbaaGreat.Ord
abbrev Row1:World→Value→Nat×List Int→Prop:=fun w u p=>SlI (fun b=>b=p.1) w u p.2
abbrev Rows2 (S:Nat→Prop)(w:World)(v:Value)(L:List (Nat×List Int)):Prop:=SlG Row1 S w v L
end Go.Proofs.YtlmlamcoeegkbaaGreat.Mark
namespace Go.Proofs.YtlmlamcoeegkbaaGreat.FindA
open Go.RowKit Go.Proofs.YtlmlamcoeegkbaaGreat Tow NumT GenD SpecB SpecS Cmp Srt Go.Proofs.YtlmlamcoeegkbaaGreat.Ord Go.Proofs.YtlmlamcoeegkbaaGreat.Mark
def OwnE (B:Nat)(w:World)(v:Value)(L:List (Nat×List Int)):Prop:=
 ∃us:List Value,w.ownsRow B 24 1 v L.length us∧us.length=L.length∧∀(i:Nat) (p:Nat×List Int) (u:Value),L[i]?=some p→us[i]?=some u→(∃c,u= .slice (some ⟨p.1,0,none⟩) p.2.length c)∧Own B w u p.2
theorem OwnE.nil (B:Nat)(w:World):OwnE B w (.slice none 0 0) []:=⟨[],zq56 _ _ _ _,rfl,by simp⟩
theorem OwnE.row {B:Nat}{w:World}{v:Value}{L:List (Nat×List Int)}(h:OwnE B w v L){p:Nat×List Int}(hp:p∈L):∃c,Own B w (.slice (some ⟨p.1,0,none⟩) p.2.length c) p.2:=by
 obtain⟨us,h1,h2,h4⟩:=h;obtain⟨i,hi⟩:=zq45 hp;have hil:=(zq2.1 hi).1;obtain⟨⟨c,hc⟩,ho⟩:=h4 i p us[i] hi (zq0 (by omega));rw[hc]at ho;exact⟨c,ho⟩
theorem OwnE.lt {B:Nat}{w:World}{v:Value}{L:List (Nat×List Int)}(h:OwnE B w v L):∀p∈L,B≤p.1∧p.1<w.heap.size:=fun p hp=>by
 obtain⟨c,ho⟩:=h.row hp;exact ho.lt
theorem OwnE.form {B:Nat}{w:World}{v:Value}{L:List (Nat×List Int)}(h:OwnE B w v L):∃a cap,v= .slice a L.length cap∧L.length≤cap∧cap≤maxLen∧(a=none→cap=0):=by
 obtain⟨us,h1,h2,h4⟩:=h;rcases h1.2 with⟨rfl,hn⟩|⟨g,cap,cur,rfl,hb,hgg,hn,hm,hs,ht⟩
 ·exact⟨none,0,by rw[hn],by omega,by simp,fun _=>rfl⟩
 ·exact⟨_,cap,rfl,hn,hm,by simp⟩
theorem OwnE.rows {B:Nat}{w:World}{v:Value}{L:List (Nat×List Int)}(h:OwnE B w v L):Rows2 (fun b=>B≤b) w v L:=by
 obtain⟨a,cap,rfl,h1,h2,h0⟩:=h.form;refine⟨a,cap,rfl,h1,h2,h0,fun i p hp=>?_⟩;obtain⟨us,o1,o2,o4⟩:=h;have hil:=(zq2.1 hp).1;obtain⟨u,hu⟩:∃u,us[i]?=some u:=⟨_,zq0 (by omega)⟩;obtain⟨⟨c,rfl⟩,ho⟩:=o4 i p u hp hu;rcases o1.2 with⟨e,hn⟩|⟨g,cap',cur,e,hb,hgg,_⟩
 ·omega
 ·cases e;refine⟨g,0,rfl,hb,(zq10.1 hgg).1,_,?_,ho.sl_at⟩;rw[zq39,zq59 o1 i (by omega)];exact hu
theorem OwnE.keep {B:Nat}{w w':World}{v:Value}{L:List (Nat×List Int)}(h:OwnE B w v L)(hb:Below w.heap.size w w'):OwnE B w' v L:=by
 obtain⟨us,h1,h2,h4⟩:=h;exact⟨us,ownsRow_keep h1 (Keep.of_below (S:=fun _=>True) hb) (fun _ _=>trivial),h2,fun i p u hp hu=>⟨(h4 i p u hp hu).1,(h4 i p u hp hu).2.of_below hb⟩⟩
theorem OwnE.push {B n:Nat}{w w':World}{v v' u:Value}{L:List (Nat×List Int)}{p:Nat×List Int}{us:List Value}(hn:L.length=n)
  (h1:w.ownsRow B 24 1 v n us) (h2:us.length=L.length) (h4:∀(i:Nat) (p:Nat×List Int) (u:Value),L[i]?=some p→us[i]?=some u→(∃c,u= .slice (some ⟨p.1,0,none⟩) p.2.length c)∧Own B w u p.2)
  (hu:(∃c,u= .slice (some ⟨p.1,0,none⟩) p.2.length c)∧Own B w u p.2) (ho:w'.ownsRow B 24 1 v' (n+1) (us++[u])) (hg:w.grownBy w' v.ownBlock):OwnE B w' v' (L++[p]):=by
 subst hn;refine⟨us++[u],by simpa using ho,by simp[h2],fun i r' u' hr' hu'=>?_⟩;have hown:(∃c,u'= .slice (some ⟨r'.1,0,none⟩) r'.2.length c)∧Own B w u' r'.2:=by
  rcases zq36 i L.length with hi|hi
  ·rw[zq28 hi]at hr';rw[zq28 (by omega)]at hu';exact h4 i r' u' hr' hu'
  ·rw[zq27 hi]at hr';rw[zq27 (by omega)]at hu';rw[h2]at hu';rcases hj:i-L.length with _|j
   ·rw[hj]at hr' hu';simp at hr' hu';subst hr';subst hu';exact hu
   ·rw[hj]at hr';simp at hr'
 exact⟨hown.1,zq93 hown.2 hg (rows_apart hown.2 h1 (by decide))⟩
def Elts (B:Nat)(w:World)(v:Value)(rows:List (List Int)):Prop:=∃L,OwnE B w v L∧L.map (·.2)=rows∧(L.map (·.1)).Nodup
def EltR (rows:List (List Int))(w:World)(e:Ending)(w':World):Prop:=∃v,e= .returned v∧Elts w.heap.size w' v rows∧Below w.heap.size w w'
theorem elementsAt_any (U:Tw)(hU:Wf U)(hs:U.length≤6)(hz:sz U≤729)(w:World)(b o:Nat)(hP:PtrP Any w b o (ofTw U))(vn:Value)(l:List Nat)(hn:SlI Any w vn (ints l))(hl:l.length≤1000)(hq:∀q∈l,q≤1000000):
  Calls Tryz.prog 57 #[.pointer (some ⟨b,o,none⟩),vn] w (EltR (l.map fun q=>ints (at_ U q)) w):=by
 obtain⟨i0,hi,hz0,hz1,hz2⟩:=zq41 infoR;obtain⟨aN,cN,rfl,hNc⟩:=hn.open;have HN:=hid hn;have HP:=hid hP;have HQ:=hid hq;have HL:=hid hl;have HAT:=hid (fun W q (hq:q≤1000000) hP=>ImplN.at_any U hU hs hz q hq W b o hP);have hl63:(l.length:Int)≤9223372036854775807:=by omega
 clear hn hP hq hl;go_enter Tryz.func57,Tryz.ntmps57;go_wp2_with fail;go_loopw [5,10] (fun ov iv wr=>∃(k:Nat) (L:List (Nat×List Int)),k≤l.length∧iv= .int .i64 (k:Int)∧Hid (OwnE w.heap.size wr ov L∧L.map (·.2)=(l.take k).map (fun q=>ints (at_ U q))∧(L.map (·.1)).Nodup)∧Hid (Below w.heap.size w wr)) (fun _ iv _=>l.length-(intOf iv).toNat);case atStart=>exact⟨0,[],zq4 _,rfl,hid ⟨OwnE.nil _ _,by simp,by simp⟩,hid zqB⟩
 case round=>
  obtain⟨k,L,hk,rfl,hO,hB⟩:=hrel;by_cases hlt:k<l.length
  ·obtain⟨q,hq⟩:∃q,l[k]?=some q:=⟨_,zq0 hlt⟩;obtain⟨bN,oN,rfl,_,hbN,hcN⟩:=HN.out.at hq;have hcr:=((Keep.of_below (S:=Any) hB.out).cell (b:=bN) (o:=oN+k) trivial hbN).trans hcN;have hq6:=HQ.out q (zq5 hq);have HC:=hid (HAT.out wr q hq6 (HP.out.keep (Keep.of_below hB.out)));have HTK:=hid (show l.take (k+1)=l.take k++[q] from take_succ hq);have hLk:L.length=k:=by
    have:=zq38 List.length hO.out.2.1;rw[zq18,zq18,zq75]at this;omega
   have HLK:=hid hLk;clear hq hcN hLk;go_wp2_with fail;refine HC.out.mono ?_;rintro e w1 ⟨g,c,rfl,ho,hb1⟩;have HB1:=hid (hB.out.trans (hb1.mono hB.out.size));have HG:=hid (show wr.heap.size≤g from ho.lt.1);have HO:=hid (ho.mono (B':=w.heap.size) hB.out.size);have HLT:=hid (hO.out.1.lt);have HREST:=hid hO.out.2;obtain⟨us,h1,h2,h4⟩:=hO.out.1.keep hb1;have HU:=hid (And.intro h2 h4);rw[HLK.out]at h1;clear ho hb1 h2 h4 hO;go_wp2_with (at_builtin;(refine zq55 _ rfl _ _ 25 rfl w.heap.size 24 i0 (.slice none 0 0) 1 24 Tryz.underlying25 hi hz0 hz1 hz2 rfl (by decide) _ _ _ rfl (h1.alloc _) ⟨w1.heap.size,0,none⟩ 1 1 [.slice (some ⟨g,0,none⟩) (ints (at_ U q)).length c] rfl rfl ?c1 ?c2 ?c3 ?c4 ?c5 ?_));case c1=>
    intro j u hj
    match j,hj with
    |0,hj=>simp at hj;subst hj;simp[Addr.add]
   case c2=>intro u hu;simp at hu;subst hu;rfl
   case c3=>have:=HL.out;unfold maxLen;omega
   case c4=>have:=HL.out;omega
   case c5=>have:=HB1.out.size;simp;omega
   ·intro v' w2 hown hgrow _;have HN2:=hid (show OwnE w.heap.size w2 v' (L++[(g,ints (at_ U q))])∧(L++[(g,ints (at_ U q))]).map (·.2)=(l.take (k+1)).map (fun q=>ints (at_ U q))∧((L++[(g,ints (at_ U q))]).map (·.1)).Nodup from by
     refine⟨OwnE.push (w:=w1.alloc _) (us:=us) HLK.out (h1.alloc _) HU.out.1 (fun i p u hp hu=>⟨(HU.out.2 i p u hp hu).1,(HU.out.2 i p u hp hu).2.alloc _⟩) ⟨⟨c,rfl⟩,HO.out.alloc _⟩ hown hgrow,?_,?_⟩
     ·rw[HTK.out,zq103,zq103,HREST.out.1];rfl
     ·rw[zq103,List.nodup_append];refine⟨HREST.out.2,by simp,fun a ha b hb=>?_⟩;obtain⟨p,hp,rfl⟩:=zq35.1 ha;simp at hb;subst hb;have:=(HLT.out p hp).2;have:=HG.out;omega)
    have HB2:=hid (show Below w.heap.size w w2 from(HB1.out.alloc (by have:=HB1.out.size;omega) _).grown hgrow (by simp;have:=HB1.out.size;omega) (fun g hg=>(zq8 h1 g hg).1));have hk729:(k:Int)≤1000:=by have:=HL.out;omega
    clear hown hgrow h1 HU HO;go_wp2_with fail;go_roundw;case rel=>exact⟨k+1,_,by omega,by go_num,HN2,HB2⟩
    case measure=>simp[intOf];omega
  ·obtain rfl:k=l.length:=by omega
   have HR:=hid (show EltR (l.map fun q=>ints (at_ U q)) w (.returned _) wr from⟨_,rfl,⟨L,hO.out.1,by have h:=hO.out.2.1;rwa[zq88]at h,hO.out.2.2⟩,hB.out⟩);clear hO hB;go_wp2_with fail;go_ret;exact HR.out
end Go.Proofs.YtlmlamcoeegkbaaGreat.FindA
namespace Go.Proofs.YtlmlamcoeegkbaaGreat.FindB
open Go.RowKit Go.Proofs.YtlmlamcoeegkbaaGreat Tow NumT GenD SpecB SpecS Cmp Srt Go.Proofs.YtlmlamcoeegkbaaGreat.Ord FindA
theorem grow_lt {U T:Tw}(hU:Wf U):∀(k:Nat) (im:List Nat),(∀q∈im,q<sz U)→∀f∈Grow.grow U T k im,∀q∈f,q<sz U
 |0,im,h,f,hf,q,hq=>by
  simp only[Grow.grow,zq54]at hf;subst hf;exact h q hq
 |k+1,im,h,f,hf,q,hq=>by
  rw[Grow.grow,List.mem_flatMap]at hf;obtain⟨x,hx,hf⟩:=hf;split at hf
  ·exact grow_lt hU k (x::im) (fun y hy=>by
    rcases zq70.1 hy with h'|h'
    ·rw[h'];exact zq62.1 hx
    ·exact h y h') f hf q hq
  ·cases hf
theorem OwnE.mono {B B':Nat}{w:World}{v:Value}{L:List (Nat×List Int)}(h:OwnE B w v L)(hB:B'≤B):OwnE B' w v L:=by
 obtain⟨us,h1,h2,h4⟩:=h;exact⟨us,ownsRow_mono h1 hB,h2,fun i p u hp hu=>⟨(h4 i p u hp hu).1,(h4 i p u hp hu).2.mono hB⟩⟩
theorem Elts.nil (B:Nat)(w:World):Elts B w (.slice none 0 0) []:=⟨[],OwnE.nil _ _,rfl,by simp⟩
end Go.Proofs.YtlmlamcoeegkbaaGreat.FindB
namespace Go.Proofs.YtlmlamcoeegkbaaGreat.FindC
open Go.RowKit Go.Proofs.YtlmlamcoeegkbaaGreat Tow NumT GenD SpecB SpecS Cmp Srt Go.Proofs.YtlmlamcoeegkbaaGreat.Ord
theorem ints_append (a b:List Nat):ints (a++b)=ints a++ints b:=by simp[ints]
theorem Own3.at {B:Nat}{w:World}{v:Value}{M:List (List (List Nat))}(h:Own3 B w v M){i:Nat}{r:List (List Nat)}(hr:M[i]?=some r):
  ∃g cap u,v= .slice (some ⟨g,0,none⟩) M.length cap∧B≤g∧g<w.heap.size∧w.cell? ⟨g,i,none⟩=some u∧Own2 24 2 B w u r:=by
 obtain⟨us,h1,h2,h4⟩:=h;have hil:=(zq2.1 hr).1;rcases h1.2 with⟨rfl,hn⟩|⟨g,cap,cur,rfl,hb,hgg,hn,hm,hs,ht⟩
 ·omega
 ·obtain⟨u,hu⟩:∃u,us[i]?=some u:=⟨_,zq0 (by omega)⟩;refine⟨g,cap,u,rfl,hb,(zq10.1 hgg).1,?_,h4 i r u hr hu⟩;have:=World.ownsRow.cells h1 (g:=g) rfl i u hu;rw[addr_add,zq39]at this;exact this
theorem maps_eq {T U:Tw}(gT:Grps.Grp (ofTw T))(gU:Grps.Grp (ofTw U)):growV U T T.length []=(Grow.grow U T T.length []).map (fun l=>l.map (at_ U)):=by
 obtain⟨hT,hsT,hgT,hpT⟩:=SpecX.grp_parts gT;obtain⟨hU,hsU,hgU,hpU⟩:=SpecX.grp_parts gU;have h:=grow_growV hU hgU hT T.length zqN [] (by rw[zq104];trivial);rw[zq129]at h;exact h.symm
theorem Sl2_nil (S:Nat→Prop)(w:World):Sl2 S w (.slice none 0 0) []:=⟨none,0,rfl,zq1 _,by simp,fun _=>rfl,fun i x hx=>by simp at hx⟩
end Go.Proofs.YtlmlamcoeegkbaaGreat.FindC
namespace Go.Proofs.YtlmlamcoeegkbaaGreat.FindD
open Go.RowKit Go.Proofs.YtlmlamcoeegkbaaGreat Tow NumT GenD SpecB SpecS Cmp Srt Go.Proofs.YtlmlamcoeegkbaaGreat.Ord Go.Proofs.YtlmlamcoeegkbaaGreat.Mark FindA
theorem Rows2.sl2 {S:Nat→Prop}{w:World}{v:Value}{L:List (Nat×List Int)}(h:Rows2 S w v L):Sl2 Any w v (L.map (·.2)):=by
 obtain⟨ao,c,h1,h2,h3,h0,h4⟩:=h;refine⟨ao,c,by simpa using h1,by simpa using h2,h3,h0,fun i x hx=>?_⟩;simp only[zq20,zq46]at hx;obtain⟨p,hp,rfl⟩:=hx;obtain⟨b,o,e1,_,e3,u,e4,e5⟩:=h4 i p hp;exact⟨b,o,e1,trivial,e3,u,e4,e5.mono (fun _ _=>trivial)⟩
theorem OwnE.keepS {B:Nat}{w w':World}{v:Value}{L:List (Nat×List Int)}{S:Nat→Prop}(h:OwnE B w v L)(hk:Keep S w w')(hS:∀k,B≤k→S k):OwnE B w' v L:=by
 obtain⟨us,h1,h2,h4⟩:=h;exact⟨us,ownsRow_keep h1 hk hS,h2,fun i p u hp hu=>⟨(h4 i p u hp hu).1,ownsRow_keep (h4 i p u hp hu).2 hk hS⟩⟩
end Go.Proofs.YtlmlamcoeegkbaaGreat.FindD
namespace Go.Proofs.YtlmlamcoeegkbaaGreat.AllA
open Go.RowKit Go.Proofs.YtlmlamcoeegkbaaGreat Tow NumT GenD SpecB SpecS Cmp Srt Go.Proofs.YtlmlamcoeegkbaaGreat.Ord FindA
theorem asc_one {n:Nat}:∀{F H:List (List Nat)},(∀x∈F,x.length=n)→F.Perm H→Asc F→Asc H→F=H
 |[],H,_,hp,_,_=>(List.nil_perm.1 hp).symm
 |a::F,[],_,hp,_,_=>absurd hp.length_eq (by simp)
 |a::F,b::H,hn,hp,h1,h2=>by
  obtain⟨p1,q1⟩:=List.pairwise_cons.1 h1;obtain⟨p2,q2⟩:=List.pairwise_cons.1 h2;have hbF:b∈a::F:=hp.mem_iff.2 zq24;have haH:a∈b::H:=hp.mem_iff.1 zq24;have hab:a=b:=by
   rcases zq70.1 hbF with e|e
   ·exact e.symm
   ·rcases zq70.1 haH with e'|e'
    ·exact e'
    ·exact cmpL_eq a b (by rw[hn a zq24,hn b hbF]) (p2 a e') (p1 b e)
  subst hab;rw[asc_one (fun x hx=>hn x (zq23 _ hx)) (List.perm_cons _ |>.1 hp) q1 q2]
end Go.Proofs.YtlmlamcoeegkbaaGreat.AllA
namespace Go.Proofs.YtlmlamcoeegkbaaGreat.Elt
open Go.RowKit Go.Proofs.YtlmlamcoeegkbaaGreat Tow Val Grps SpecB LawF
def ElV (P:Pres)(l:List Int):Prop:=Grp P∧TailV P.os 0 l
def YesR (p:Prop)(w:World)(e:Ending)(w':World):Prop:=∃r:Bool,e= .returned (.bool r)∧(r=true↔p)∧Below w.heap.size w w'
theorem YesR.t {p:Prop}{w w':World}(h:p)(hb:Below w.heap.size w w'):YesR p w (.returned (.bool true)) w':=⟨true,rfl,⟨fun _=>h,fun _=>rfl⟩,hb⟩
theorem YesR.f {p:Prop}{w w':World}(h:¬p)(hb:Below w.heap.size w w'):YesR p w (.returned (.bool false)) w':=⟨false,rfl,⟨fun h=>Bool.noConfusion h,fun h'=>absurd h' h⟩,hb⟩
theorem grp_pr {P:Pres}(h:Grp P):∀x∈P.os,primeB x=true:=by
 obtain⟨_,_,_,_,hv,_⟩:=h;exact hv.pr
theorem l10Element_any (w:World)(pO pP pC vx:Value)(P:Pres)(l:List Int)(hP:ValP Any w pO pP pC P)(hx:SlI Any w vx l)(hpr:∀x∈P.os,primeB x=true):
  Calls Tryz.prog 79 #[.agg #[pO,pP,pC],vx] w (YesR (TailV P.os 0 l) w):=by
 have HB:=hid ((zq3 w.heap.size w).alloc zqN (.cells #[pO,pP,pC] 28));have HC:=hid (SpecV.exps_any (w.alloc (.cells #[pO,pP,pC] 28)) pO vx P.os l (-1) 0 (fun j=>by omega) (hP.os.keep (zqK.alloc _)) (hx.keep (zqK.alloc _)) hpr);clear hP hx hpr;go_enter Tryz.func79,Tryz.ntmps79;go_wp2_with fail;refine HC.out.mono ?_;rintro e w1 ⟨r,rfl,hr,hn⟩;have HR:=hid (show YesR (TailV P.os 0 l) w (.returned (.bool r)) w1 from⟨r,rfl,hr,HB.out.trans ((LawE.bel_drawn zqB hn))⟩);clear hr hn;go_wp2_with fail;go_ret;exact HR.out
theorem isElement_any (w:World)(pO pP pC vx:Value)(P:Pres)(l:List Int)(hP:ValP Any w pO pP pC P)(hx:SlI Any w vx l):
  Calls Tryz.prog 42 #[.agg #[pO,pP,pC],vx] w (YesR (ElV P l) w):=by
 have HP:=hid hP;have HX:=hid hx;obtain⟨W0,hW0⟩:∃W0,W0=w.alloc (.cells #[pO,pP,pC] 28):=⟨_,rfl⟩;have HB0:=hid (show Below (w.heap.size+1) (w.alloc (.cells #[pO,pP,pC] 28)) W0 by rw[hW0];exact zq3 _ _);clear hP hx;go_enter Tryz.func42,Tryz.ntmps42;go_upto_region 1 with fail;rw[←hW0];clear hW0;obtain⟨⟨e0,e1,e2⟩,hk,hbw,hs⟩:=bx1 HB0.out;go_wp2_with fail;refine(SpecH.group_any _ pO pP pC P (HP.out.keep hk)).mono ?_;rintro e w1 ⟨r,rfl,hr,hb1⟩;have HB1:=hid (HB0.out.trans (hb1.mono hs));clear e0 e1 e2 hk hbw hs hb1;obtain⟨⟨e0,e1,e2⟩,hk,hbw,hs⟩:=bx1 HB1.out;have HBW:=hid hbw;by_cases hG:Grp P
 ·obtain rfl:r=true:=hr.2 hG;have HC:=hid (l10Element_any w1 pO pP pC vx P l (HP.out.keep hk) (HX.out.keep hk) (grp_pr hG));have HG:=hid hG;clear hr hG hk hbw;go_wp2_with fail;refine HC.out.mono ?_;rintro e w2 ⟨r,rfl,hr,hb2⟩;have HR:=hid (show YesR (ElV P l) w (.returned (.bool r)) w2 from⟨r,rfl,⟨fun h=>⟨HG.out,hr.1 h⟩,fun h=>hr.2 h.2⟩,HBW.out.trans (hb2.mono (by omega))⟩);clear hr hb2;go_wp2_with fail;go_ret;exact HR.out
 ·obtain rfl:r=false:=by
   cases r with
   |false=>rfl
   |true=>exact absurd (hr.1 rfl) hG
  have HR:=hid (show YesR (ElV P l) w (.returned (.bool false)) w1 from YesR.f (fun h=>hG h.1) HBW.out);clear hr hG hk hbw;go_wp2_with fail;go_ret;exact HR.out
theorem areElements_any (w:World)(b o:Nat)(P:Pres)(vl:Value)(ls:List (List Int))(hP:PtrP Any w b o P)(hl:Sl2 Any w vl ls):
  Calls Tryz.prog 40 #[.pointer (some ⟨b,o,none⟩),vl] w (YesR (Grp P∧∀l∈ls,TailV P.os 0 l) w):=by
 have HP:=hid hP;obtain⟨_,hbl,vO,vP,vC,hp0,hp1,hp2,hV⟩:=hP;obtain⟨a,c,rfl,_,hcm⟩:=SlG.form hl;unfold maxLen at hcm;have hl63:(ls.length:Int)≤9223372036854775807:=by have:=SlG.form hl;omega
 have HL:=hid hl;have HG:=hid (ImplI.group_any w vO vP vC P hV);clear hV hl hcm;go_enter Tryz.func40,Tryz.ntmps40;go_wp2_with fail;refine HG.out.mono ?_;rintro e w1 ⟨r,rfl,hr,hb1⟩;have HB1:=hid hb1;clear hb1;by_cases hGP:Grp P
 ·obtain rfl:r=true:=hr.2 hGP;have HGP:=hid hGP;have HPR:=hid (grp_pr hGP);clear hr hGP;go_wp2_with fail;go_loop [14] (fun iv=>∃k:Nat,k≤ls.length∧iv= .int .i64 (k:Int)∧Hid (∀l∈ls.take k,TailV P.os 0 l)) (fun iv=>ls.length-(intOf iv).toNat);case atStart=>exact⟨0,zq4 _,rfl,hid (by simp)⟩
  case round=>
   obtain⟨k,hk,rfl,hR⟩:=hrel;by_cases hlt:k<ls.length
   ·obtain⟨l,hl⟩:∃l,ls[k]?=some l:=⟨_,zq0 hlt⟩;obtain⟨b2,o2,u,rfl,_,hb2,hc,hu⟩:=SlG.get HL.out hl;have hcr:=((Keep.of_below (S:=Any) HB1.out).cell (b:=b2) (o:=o2+k) trivial hb2).trans hc;have HE:=hid (ImplV.isExponents_any w1 b o P u l (HP.out.keep (Keep.of_below HB1.out)) (SlI.keep hu (Keep.of_below HB1.out)) HPR.out);have HLM:=hid (zq5 hl);have HTK:=hid (take_succ hl);clear hl hc hu;go_wp2_with fail;refine HE.out.mono ?_;rintro e w' ⟨r,rfl,hr,rfl⟩;by_cases ht:TailV P.os 0 l
    ·obtain rfl:r=true:=hr.2 ht;have HN:=hid (show∀l∈ls.take (k+1),TailV P.os 0 l from fun x hx=>by
      rw[HTK.out]at hx;rcases zq68.1 hx with h|h
      ·exact hR.out x h
      ·rw[zq54.1 h];exact ht)
     clear hr ht hR;go_wp2_with fail;go_round;case rel=>exact⟨k+1,by omega,by go_num,HN⟩
     case measure=>simp[intOf];omega
    ·obtain rfl:r=false:=by
      cases r with
      |false=>rfl
      |true=>exact absurd (hr.1 rfl) ht
     have HRR:=hid (show YesR (Grp P∧∀l∈ls,TailV P.os 0 l) w (.returned (.bool false)) w1 from YesR.f (fun h=>ht (h.2 l HLM.out)) HB1.out);clear hr ht hR;go_wp2_with fail;go_ret;exact HRR.out
   ·obtain rfl:k=ls.length:=by omega
    have HRR:=hid (show YesR (Grp P∧∀l∈ls,TailV P.os 0 l) w (.returned (.bool true)) w1 from YesR.t ⟨HGP.out,by have h:=hR.out;rwa[zq88]at h⟩ HB1.out);clear hR;go_wp2_with fail;go_ret;exact HRR.out
 ·obtain rfl:r=false:=by
   cases r with
   |false=>rfl
   |true=>exact absurd (hr.1 rfl) hGP
  have HR:=hid (show YesR (Grp P∧∀l∈ls,TailV P.os 0 l) w (.returned (.bool false)) w1 from YesR.f (fun h=>hGP h.1) HB1.out);clear hr hGP;go_wp2_with fail;go_ret;exact HR.out
end Go.Proofs.YtlmlamcoeegkbaaGreat.Elt
namespace Go.Proofs.YtlmlamcoeegkbaaGreat.OrbA
open Go.RowKit Go.Proofs.YtlmlamcoeegkbaaGreat Tow NumT SpecB
def wrd:Nat→List Nat→List Nat
 |_,[]=>[]
 |s,a::x=>List.replicate a (s+1)++wrd (s+1) x
theorem wrd_snoc:∀(x:List Nat) (s a:Nat),wrd s (x++[a])=wrd s x++List.replicate a (s+x.length+1)
 |[],s,a=>by simp[wrd]
 |b::x,s,a=>by
  rw[List.cons_append,wrd,wrd,wrd_snoc x (s+1) a,zq74,zq58];congr 3;omega
theorem wrd_length:∀(x:List Nat) (s:Nat),(∀a∈x,a≤6)→(wrd s x).length≤6*x.length
 |[],s,_=>by simp[wrd]
 |a::x,s,h=>by
  have h1:=wrd_length x (s+1) (fun y hy=>h y (zq23 _ hy));have h2:=h a zq24;rw[wrd,zq31,zq29,zq58];omega
theorem wrd_mem:∀(x:List Nat) (s l:Nat),l∈wrd s x→s+1≤l∧l≤s+x.length
 |[],s,l,h=>by simp[wrd]at h
 |a::x,s,l,h=>by
  rw[wrd,zq68]at h;rcases h with h|h
  ·have:=(zq82.1 h).2;rw[zq58];omega
  ·have:=wrd_mem x (s+1) l h;rw[zq58];omega
theorem fold_rep {α:Type}(f:α→Nat→α)(l:Nat):∀(a:Nat) (u:α),List.foldl f u (List.replicate a l)=it (fun z=>f z l) a u
 |0,u=>rfl
 |a+1,u=>by rw[List.replicate_succ,List.foldl_cons,fold_rep f l a,it]
theorem fold_wrd {α:Type}(m:α→α→α)(im:List α)(d:α):∀(x:List Nat) (s:Nat) (u:α),s+x.length=im.length→List.foldl (fun u l=>m u (im.getD (l-1) d)) u (wrd s x)=prodL m u (im.drop s) x
 |[],s,u,h=>by
  rw[wrd,List.foldl_nil];cases im.drop s<;>rfl
 |a::x,s,u,h=>by
  rw[zq58]at h;have hs:s<im.length:=by omega
  rw[wrd,List.foldl_append,fold_rep,zq32 hs,prodL,fold_wrd m im d x (s+1) _ (by omega)];congr 1;rw[Nat.add_sub_cancel,zq9,zq0 hs];rfl
theorem word_any (w:World)(v:Value)(x:List Nat)(hv:SlI Any w v (ints x))(hl:x.length≤6)(hx:∀a∈x,a≤6):
  Calls Tryz.prog 111 #[v] w (NewI (ints (wrd 0 x)) w):=by
 obtain⟨i0,hi,hz0,hz1,hz2⟩:=zq41 infoI;obtain⟨aX,cX,rfl,_⟩:=hv.open;have HV:=hid hv;have HX:=hid hx;have hl63:(x.length:Int)≤9223372036854775807:=by omega
 clear hv hx;go_enter Tryz.func111,Tryz.ntmps111;go_wp2_with fail;go_loopw [3,8] (fun ov iv wr=>∃i:Nat,i≤x.length∧iv= .int .i64 (i:Int)∧Hid (Own w.heap.size wr ov (ints (wrd 0 (x.take i))))∧Hid (Below w.heap.size w wr)) (fun _ iv _=>x.length-(intOf iv).toNat);case atStart=>exact⟨0,zq4 _,rfl,hid (show Own _ _ _ (ints (wrd 0 (x.take 0))) from⟨rfl,.inl ⟨rfl,rfl⟩⟩),hid zqB⟩
 case round=>
  obtain⟨i,hi',rfl,hO,hB⟩:=hrel;rename World=>wo;by_cases hlt:i<x.length
  ·obtain⟨a,ha⟩:∃a,x[i]?=some a:=⟨_,zq0 hlt⟩;obtain⟨b,o,rfl,_,hb,hc⟩:=HV.out.at ha;have hcr:=((Keep.of_below (S:=Any) hB.out).cell (b:=b) (o:=o+i) trivial hb).trans hc;have ha6:a≤6:=HX.out a (zq5 ha);have HTK:=hid (show wrd 0 (x.take (i+1))=wrd 0 (x.take i)++List.replicate a (i+1) from by
    rw[take_succ ha,wrd_snoc,take_len (zq44 hlt),zq39])
   have HLN:=hid (show(wrd 0 (x.take i)).length≤36 from by
    have:=wrd_length (x.take i) 0 (fun y hy=>HX.out y (zq137 hy));rw[zq75]at this;omega)
   have hi5:i≤5:=by omega
   clear ha hc;go_wp2_with fail;go_loopw [3,14] (fun ov qv wi=>∃q:Nat,q≤a∧qv= .int .i64 (q:Int)∧Hid (Own w.heap.size wi ov (ints (wrd 0 (x.take i)++List.replicate q (i+1))))∧Hid (Below w.heap.size w wi)) (fun _ qv _=>a-(intOf qv).toNat);case atStart=>exact⟨0,zq4 _,rfl,by rw[List.replicate_zero,zq95];exact hO,hB⟩
   case round=>
    obtain⟨q,hq,rfl,hOi,hBi⟩:=hrel;by_cases hqa:q<a
    ·obtain⟨m,hm⟩:∃m,(wrd 0 (x.take i)++List.replicate q (i+1)).length=m:=⟨_,rfl⟩;have h1:wr.ownsRow w.heap.size 2 1 u3 m (vals (ints (wrd 0 (x.take i)++List.replicate q (i+1)))):=by
      have h:=hOi.out;unfold Own at h;rwa[ints_length,hm]at h
     have HMM:=hid hm;have HM:=hid (show m≤42 from by
      have:=HLN.out;rw[←hm,zq31,zq29];omega)
     have HOW:=hid h1;clear hm;go_wp2_with (at_builtin;(refine zq55 _ rfl _ _ 24 rfl w.heap.size 2 i0 (.int .i64 0) 1 8 Tryz.underlying24 hi hz0 hz1 hz2 rfl (by decide) _ _ _ rfl (h1.alloc _) ⟨wr.heap.size,0,none⟩ 1 1 [.int .i64 ((i:Int)+1)] rfl rfl ?c1 ?c2 ?c3 ?c4 ?c5 ?_));case c1=>
      intro j u hj
      match j,hj with
      |0,hj=>simp at hj;subst hj;simp[Addr.add]
     case c2=>intro u hu;simp at hu;subst hu;rfl
     case c3=>have:=HM.out;unfold maxLen;omega
     case c4=>have:=HM.out;omega
     case c5=>have:=hBi.out.size;simp;omega
     ·intro v' w2 hown hgrow _;have HN:=hid (show Own w.heap.size w2 v' (ints (wrd 0 (x.take i)++List.replicate (q+1) (i+1))) from by
       unfold Own;rw[zq101,←zq74,FindC.ints_append,zq31,ints_length,HMM.out];have h:=hown;rw[show vals (ints (wrd 0 (x.take i)++List.replicate q (i+1)))++[.int .i64 ((i:Int)+1)]=vals (ints (wrd 0 (x.take i)++List.replicate q (i+1))++ints [i+1]) by simp[vals,ints]]at h;exact h)
      have HB2:=hid (show Below w.heap.size w w2 from(hBi.out.alloc (by have:=hBi.out.size;omega) _).grown hgrow (by simp;have:=hBi.out.size;omega) (fun g hg=>(zq8 HOW.out g hg).1));clear hown hgrow h1;go_wp2_with fail;go_roundw;case rel=>exact⟨q+1,by omega,by go_num,HN,HB2⟩
      case measure=>simp[intOf];omega
    ·obtain rfl:q=a:=by omega
     have HN:=hid (show Own w.heap.size wr u3 (ints (wrd 0 (x.take (i+1)))) from by rw[HTK.out];exact hOi.out);clear hOi;go_wp2_with fail;go_roundw;case rel=>exact⟨i+1,by omega,by go_num,HN,hBi⟩
     case measure=>simp[intOf];omega
  ·obtain rfl:i=x.length:=by omega
   have HR:=hid (show NewI (ints (wrd 0 x)) w (.returned _) wo from⟨_,rfl,by have h:=hO.out;rwa[zq88]at h,hB.out⟩);clear hO;go_wp2_with fail;go_ret;exact HR.out
theorem abs_any (l:Nat)(hl:(l:Int)≤9223372036854775806)(w:World):Calls Tryz.prog 155 #[.int .i64 (l:Int)] w fun e w'=>e= .returned (.int .i64 (l:Int))∧w=w':=by
 have h1:max (l:Int) (-(l:Int))=(l:Int):=by omega
 go_enter Tryz.func155,Tryz.ntmps155;go_wp2_with fail;go_ret;exact⟨ret_i (by first|exact h1|omega|(simp;omega)),rfl⟩
theorem evaluate_any (T:Tw)(hT:Wf T)(hs:Small T)(hg:Tow.Good T)(w:World)(b o:Nat)(hP:PtrP Any w b o (ofTw T))(vw vi:Value)(ws:List Nat)(im:List (List Nat))(hw:SlI Any w vw (ints ws))(hi:Sl2 Any w vi (im.map ints))(hme:∀c∈im,El T c)
  (hws:∀l∈ws,1≤l∧l≤im.length) (hl:ws.length≤1000) (hil:im.length≤1000):
  Calls Tryz.prog 112 #[.pointer (some ⟨b,o,none⟩),vw,vi] w (NewS (ints (List.foldl (fun u l=>mul T u (im.getD (l-1) (Tow.one T))) (Tow.one T) ws)) w):=by
 have hs6:=hs.1;have hmk:=mk22 T.length hs6;obtain⟨_,hbl,vO,vP,vC,hp0,hp1,hp2,hV⟩:=id hP;obtain⟨aO,cO,aP,cP,aC,cC,rfl,rfl,rfl,hO1,hP1,hC1⟩:=hV.open;obtain⟨aW,cW,rfl,_⟩:=hw.open;obtain⟨aI,cI,rfl,_,_⟩:=SlG.form hi;rw[zq18]at hi ⊢;have HPT:=hid (ImplY.PtrP.strong hP);have HW:=hid hw;have HI:=hid (Sl2.mono (Sl2.bnd hi) (S':=fun k=>k<w.heap.size) (fun k hk=>hk.2));have HME:=hid hme;have HWS:=hid hws;have HTV:=hid (ImplD.tv_any T hT hs 0 (zq4 _) hg);have HTT:=hid hT;have hl63:(ws.length:Int)≤9223372036854775807:=by omega
 have HO:=hid (Own.made (B:=w.heap.size) w T.length zqN (by unfold maxLen;omega));obtain⟨V,hVV⟩:∃V:Nat→List Nat,V=fun m=>List.foldl (fun u l=>mul T u (im.getD (l-1) (Tow.one T))) (Tow.one T) (ws.take m):=⟨_,rfl⟩;have HGD:=hid (show∀j,El T (im.getD j (Tow.one T)) from fun j=>by
  rw[zq9];cases hj:im[j]? with
  |none=>exact El_one hT
  |some c=>exact hme c (zq5 hj))
 have HVE:=hid (show∀m,El T (V m) from fun m=>by
  rw[hVV];have:∀(l:List Nat) (u:List Nat),El T u→El T (List.foldl (fun u l=>mul T u (im.getD (l-1) (Tow.one T))) u l):=by
   intro l
   induction l with
   |nil=>intro u hu;exact hu
   |cons a l ih=>intro u hu;rw[List.foldl_cons];exact ih _ (El_mul hT hu (HGD.out _))
  exact this _ _ (El_one hT))
 have HV0:=hid (show List.replicate T.length (0:Int)=ints (V 0) by rw[hVV];simp[Tow.one,ints]);have HVS:=hid (show∀m l,ws[m]?=some l→V (m+1)=mul T (V m) (im.getD (l-1) (Tow.one T)) from fun m l h=>by
  rw[hVV];show List.foldl _ _ (ws.take (m+1))=_;rw[take_succ h,List.foldl_append];rfl)
 have HVZ:=hid (show V ws.length=List.foldl (fun u l=>mul T u (im.getD (l-1) (Tow.one T))) (Tow.one T) ws by rw[hVV];simp);clear hP hw hi hme hws hV hVV hT hs hg;go_enter Tryz.func112,Tryz.ntmps112;go_wp2_with fail;go_loopw [19] (fun iv wr=>∃m:Nat,m≤ws.length∧iv= .int .i64 (m:Int)∧Hid (Own w.heap.size wr (.slice (some ⟨w.heap.size,0,none⟩) T.length T.length) (ints (V m)))∧Hid (Below w.heap.size w wr)) (fun iv _=>ws.length-(intOf iv).toNat);case atStart=>exact⟨0,zq4 _,rfl,hid (by rw[←HV0.out];exact HO.out),hid (zqB.alloc zqN _)⟩
 case round=>
  obtain⟨m,hm,rfl,hO,hB⟩:=hrel;have hk:=Keep.lt hB.out;by_cases hlt:m<ws.length
  ·obtain⟨l,hl'⟩:∃l,ws[m]?=some l:=⟨_,zq0 hlt⟩;obtain⟨bW,oW,rfl,_,hbW,hcW⟩:=HW.out.at hl';have hcr:=(hk.cell (b:=bW) (o:=oW+m) hbW hbW).trans hcW;obtain⟨hl1,hl2⟩:=HWS.out l (zq5 hl');obtain⟨j,hj⟩:∃j,j=l-1:=⟨_,rfl⟩;obtain⟨c,hc⟩:∃c,im[j]?=some c:=⟨_,zq0 (by omega)⟩;obtain⟨bI,oI,u,e1,hbS,hbI,hcI,hcu⟩:=SlG.get HI.out (k:=j) (x:=ints c) (by rw[zq20,hc];rfl);subst e1;have hcIr:=(hk.cell (b:=bI) (o:=oI+j) hbS hbI).trans hcI;have HU:=hid (SlI.keep hcu hk);have HPK:=hid (HPT.out.keep hk);have HVN:=hid (show V (m+1)=mul T (V m) c from by
    rw[HVS.out m l hl',←hj,zq9,hc];rfl)
   have HCE:=hid (HME.out c (zq5 hc));have hlj:l=j+1:=by omega
   subst hlj;have w1:IntKind.i64.wrap (((j+1:Nat):Int)-1)=(j:Int):=by rw[zq6 _ (by omega)];omega
   have w2:wrap64 (((j+1:Nat):Int)-1)=(j:Int):=by unfold wrap64;omega
   have w3:(j:Int)<(im.length:Int):=by omega
   have w4:(0:Int)≤(j:Int):=by omega
   have hneg:decide (((j+1:Nat):Int)<0)=false:=by simp;omega
   have HAB:=hid (fun W=>abs_any (j+1) (by omega) W);clear hl' hcW hc hcI hcu hj hk hl1 hl2;go_wp2_with fail;refine(HAB.out _).mono ?_;rintro e w' ⟨rfl,rfl⟩;have HCT:=hid (HTV.out (fun k=>k<w.heap.size) wr b o w.heap.size w.heap.size T.length u [] (V m) c HPK.out HU.out (by omega) rfl (HVE.out m) HCE.out hO.out);go_wp2_with fail;refine HCT.out.mono ?_;rintro e w2 ⟨rfl,ho2,hg2⟩;have HN:=hid (show Own w.heap.size w2 (.slice (some ⟨w.heap.size,0,none⟩) T.length T.length) (ints (V (m+1))) from by
    have h:=ho2;rw[show([]++mul (T.drop 0) (V m) c)=V (m+1) from HVN.out.symm,El_length (HVE.out (m+1))]at h;exact h)
   have HNB:=hid (hB.out.grown hg2 hB.out.size (fun g hg=>by cases hg;exact zq1 _));clear ho2 hg2 hO hcr hcIr;go_wp2_with fail;go_roundw;case rel=>exact⟨m+1,by omega,by go_num,HN,HNB⟩
   case measure=>simp[intOf];omega
  ·obtain rfl:m=ws.length:=by omega
   have HR:=hid (show NewS (ints (List.foldl (fun u l=>mul T u (im.getD (l-1) (Tow.one T))) (Tow.one T) ws)) w (.returned (.slice (some ⟨w.heap.size,0,none⟩) T.length T.length)) wr from by
    have hl:=El_length (HVE.out ws.length);rw[←HVZ.out];unfold NewS;rw[ints_length,hl];exact⟨_,_,rfl,hO.out,hB.out⟩)
   clear hO hk;go_wp2_with fail;go_ret;exact HR.out
theorem apply_any (T:Tw)(hT:Wf T)(hs:Small T)(hg:Tow.Good T)(w:World)(b o:Nat)(hP:PtrP Any w b o (ofTw T))(vi vx:Value)(im:List (List Nat))(x:List Nat)(hi:Sl2 Any w vi (im.map ints))(hx:SlI Any w vx (ints x))(hme:∀c∈im,El T c)
  (hl:x.length=im.length) (hl6:x.length≤6) (hx6:∀a∈x,a≤6):
  Calls Tryz.prog 76 #[.pointer (some ⟨b,o,none⟩),vi,vx] w (NewS (ints (prodL (mul T) (Tow.one T) im x)) w):=by
 have HW:=hid (word_any w vx x hx hl6 hx6);have HE:=hid (fun W (hb:Below w.heap.size w W) vw hw=>evaluate_any T hT hs hg W b o (hP.keep (Keep.of_below hb)) vw vi (wrd 0 x) im hw (Sl2.keep hi (Keep.of_below hb)) hme (fun l hl'=>by have:=wrd_mem x 0 l hl';omega) (by have:=wrd_length x 0 hx6;omega) (by omega));have HF:=hid (show List.foldl (fun u l=>mul T u (im.getD (l-1) (Tow.one T))) (Tow.one T) (wrd 0 x)=prodL (mul T) (Tow.one T) im x from by
  rw[fold_wrd (mul T) im (Tow.one T) x 0 _ (by omega)];rfl)
 clear hP hi hx hme;go_enter Tryz.func76,Tryz.ntmps76;go_wp2_with fail;refine HW.out.mono ?_;rintro e w1 ⟨v1,rfl,ho1,hb1⟩;have HC:=hid (HE.out w1 hb1 v1 (ho1.sl.mono (fun _ _=>trivial)));have HB1:=hid hb1;clear ho1 hb1;go_wp2_with fail;refine HC.out.mono ?_;rintro e w2 ⟨g2,c2,rfl,ho2,hb2⟩;rw[HF.out]at ho2 ⊢;have HR:=hid (show NewS (ints (prodL (mul T) (Tow.one T) im x)) w (.returned (.slice (some ⟨g2,0,none⟩) (ints (prodL (mul T) (Tow.one T) im x)).length c2)) w2 from⟨_,_,rfl,ho2.mono HB1.out.size,HB1.out.trans (hb2.mono HB1.out.size)⟩);clear ho2 hb2;go_wp2_with fail;go_ret;exact HR.out
end Go.Proofs.YtlmlamcoeegkbaaGreat.OrbA
namespace Go.Proofs.YtlmlamcoeegkbaaGreat.OrbB
open Go.RowKit Go.Proofs.YtlmlamcoeegkbaaGreat Tow NumT SpecB SpecR LawF
noncomputable def app (T:Tw)(G:List (List Nat))(x:List Nat)(k:Nat):List Nat:=prodL (mul T) (Tow.one T) ((G.getD k []).map (at_ T)) x
theorem app_El {T:Tw}(hT:Wf T)(G:List (List Nat))(x:List Nat)(k:Nat):El T (app T G x k):=
 prodL_inv (El T) (mul T) (fun _ _ p q=>El_mul hT p q) _ (fun c hc=>by obtain⟨i,_,rfl⟩:=zq35.1 hc;exact at_El hT i) _ _ (El_one hT)
noncomputable def orF (T:Tw)(G:List (List Nat))(x:List Nat)(k:Nat):Nat:=num T (app T G x k)
def OrbR (T:Tw)(G:List (List Nat))(x:List Nat)(w:World)(e:Ending)(w':World):Prop:=∃v,e= .returned v∧OwnB w.heap.size w' v (mkl (orF T G x) (sz T) G.length)∧Below w.heap.size w w'
theorem orbit_any (T:Tw)(hT:Wf T)(hs:Small T)(hg:Tow.Good T)(hz:sz T≤729)(B:Nat)(w:World)(vO vP vC vF vx:Value)(G:List (List Nat))(x:List Nat)(hP:ValP Any w vO vP vC (ofTw T))(hF:Own3 B w vF (G.map fun l=>l.map (at_ T)))(hx:SlI Any w vx (ints x))(hxE:El T x)
  (hlen:∀f∈G,f.length=T.length) (hG:G.length≤1000000000):
  Calls Tryz.prog 44 #[.agg #[vO,vP,vC],vF,vx] w (OrbR T G x w):=by
 have HP:=hid hP;have HF:=hid hF;have HX:=hid hx;have HLN:=hid hlen;have HOT:=hid (SpecN.ofTw_ords T);have HSZ:=hid (fun W hO=>SpecN.order_any T (SpecN.Os.of hT hs hz) W vO vP vC hO);have hxl:=El_length hxE;have hx7:∀a∈x,a≤1000:=fun a ha=>by
  obtain⟨j,hj⟩:=zq45 ha;have:=hs.lt (s:=0) (x:=x) hxE (zq4 _) hj;omega
 have HAP:=hid (fun(W:World) (vu:Value) (f:List Nat) (hf:f.length=T.length) hp hu ha=>SpecL.apply_any T hT hs hg W vO vP vC vu vx (f.map (at_ T)) x hp hu ha (by rw[zq18];omega) (by rw[zq18];have:=hs.1;omega) (fun u hu=>by obtain⟨i,_,rfl⟩:=zq35.1 hu;exact at_El hT i) hx7);have HNM:=hid (fun W va y hO hy hE hlt=>SpecN.number_any T (SpecN.Os.of hT hs hz) W vO vP vC va y hO hy hE hlt);have HAE:=hid (fun k=>app_El hT G x k);have HNL:=hid (fun k=>(num_lt (app_El hT G x k) hT:orF T G x k<sz T));obtain⟨aF,cF,rfl,_,_⟩:=hF.form;rw[zq18]at hF ⊢;have HF:=hid hF;have hgl:(G.length:Int)≤9223372036854775806:=by omega
 have hmkb:=mkB66 (sz T) hz;obtain⟨W0,hW0⟩:∃W0,W0=w.alloc (.cells #[vO,vP,vC] 28):=⟨_,rfl⟩;have HB0:=hid (show Below (w.heap.size+1) (w.alloc (.cells #[vO,vP,vC] 28)) W0 by rw[hW0];exact zq3 _ _);clear hP hF hx hlen hxE hT hs hg hx7;go_enter Tryz.func44,Tryz.ntmps44;go_upto_region 1 with fail;rw[←hW0];clear hW0;obtain⟨⟨e0,e1,e2⟩,hk,hbw,hs⟩:=bx1 HB0.out;have HSO:=hid (HSZ.out W0 (by have h:=(HP.out.keep hk).os;rwa[HOT.out]at h));clear hk hbw;go_upto_region 2 with(refine HSO.out.mono ?_;rintro e w2 ⟨rfl,hb2⟩);have HB2:=hid (HB0.out.trans (hb2.mono hs));obtain⟨gI,hgI⟩:∃gI,w2.heap.size=gI:=⟨_,rfl⟩;obtain⟨w5,hw5⟩:∃w5,w5=w2.alloc (.cells (madeCells #[.bool false] (sz T)) 4):=⟨_,rfl⟩;rw[←hw5];have HI5:=hid (show OwnB gI w5 (.slice (some ⟨gI,0,none⟩) (sz T) (sz T)) (mkl (orF T G x) (sz T) 0) by
  rw[mkl_zero,hw5,←hgI];exact OwnB.made w2 (sz T) zqN (by unfold maxLen;omega))
 have HB5:=hid (show Below (w.heap.size+1) (w.alloc (.cells #[vO,vP,vC] 28)) w5 by rw[hw5];exact HB2.out.alloc (by have:=(bx1 HB2.out).2.2.2;exact this) _);have HS5:=hid (show w5.heap.size=gI+1∧w.heap.size+1≤gI by rw[hw5,←hgI];exact⟨by simp,(bx1 HB2.out).2.2.2⟩);simp only[hgI];clear hw5 hgI hb2 HB2 e0 e1 e2 hs HSO HB0;obtain⟨-, hk5,hbw5,-⟩:=bx1 HB5.out;have hgIw:=HS5.out.2;have HP5:=hid (show ValP (fun b=>b≠gI) w5 vO vP vC (ofTw T) from(((HP.out.bnd).mono (S':=fun b=>b<w.heap.size) (fun b hb=>hb.2)).keep (hk5.mono (fun _ _=>trivial))).mono (fun b hb=>by omega));have HX5:=hid (show SlI (fun b=>b≠gI) w5 vx (ints x) from(((HX.out.bnd).mono (S':=fun b=>b<w.heap.size) (fun b hb=>hb.2)).keep (hk5.mono (fun _ _=>trivial))).mono (fun b hb=>by omega));have HBW5:=hid hbw5;clear hk5 hbw5;go_wp2_with fail;go_loopw [8] (fun iv wr=>∃k:Nat,k≤G.length∧iv= .int .i64 (k:Int)∧Hid (OwnB gI wr (.slice (some ⟨gI,0,none⟩) (sz T) (sz T)) (mkl (orF T G x) (sz T) k))∧Hid (Keep (fun k=>k≠gI) w5 wr)∧Hid (Below (w.heap.size+1) (w.alloc (.cells #[vO,vP,vC] 28)) wr)) (fun iv _=>G.length-(intOf iv).toNat);case atStart=>exact⟨0,zq4 _,rfl,HI5,hid zqK,HB5⟩
 case round=>
  obtain⟨k,hk,rfl,hIr,hKr,hB⟩:=hrel;by_cases hlt:k<G.length
  ·obtain⟨f,hf⟩:∃f,G[k]?=some f:=⟨_,zq0 hlt⟩;obtain⟨gF,cap,uf,e1,_,hgl',hcf,hof⟩:=FindC.Own3.at HF.out (i:=k) (r:=f.map (at_ T)) (by rw[zq20,hf];rfl);simp only[zq40]at e1;obtain⟨rfl,-, rfl⟩:=e1;obtain⟨⟨e0,e1,e2⟩,hkw,hbw,hsw⟩:=bx1 hB.out;have hki:decide ((k:Int)<(G.length:Int))=true:=by simp;omega
   have hcr:wr.cell? ⟨gF,k,none⟩=some uf:=(hkw.cell (b:=gF) (o:=k) trivial hgl').trans hcf;have hsr:=hKr.out.size;have hwr:w.heap.size<wr.heap.size:=by omega
   have hFr:gF<wr.heap.size:=by omega
   have hIrr:gI<wr.heap.size:=by have:=HS5.out.1;omega
   have hn1:¬w.heap.size=gI:=by omega
   have hn2:¬gF=gI:=by omega
   have HUF:=hid (show Sl2 (fun b=>b≠gI) wr uf ((f.map (at_ T)).map ints) from Sl2.mono (Sl2.keep (Sl2.mono (Sl2.bnd hof.sl) (S':=fun b=>b<w.heap.size) (fun b hb=>hb.2)) (hkw.mono (fun _ _=>trivial))) (fun b hb=>by omega));have HPr:=hid (HP5.out.keep hKr.out);have HXr:=hid (SlI.keep HX5.out hKr.out);have HFL:=hid (HLN.out f (zq5 hf));have HAPk:=hid (show app T G x k=prodL (mul T) (Tow.one T) (f.map (at_ T)) x from by unfold app;rw[zq9,hf];rfl);obtain⟨q,hq⟩:∃q,q=orF T G x k:=⟨_,rfl⟩;have hqz:q<sz T:=by rw[hq];exact HNL.out k
   have HNQ:=hid (fun W va (hO:SlI Any W vO (ints (SpecN.ords T))) (hy:SlI Any W va (ints (prodL (mul T) (Tow.one T) (f.map (at_ T)) x)))=>(show Calls Tryz.prog 80 #[.agg #[vO,vP,vC],va] W (SpecN.IntR q W) from by
    rw[hq];rw[←HAPk.out]at hy;exact HNM.out W va _ hO hy (HAE.out k) (HNL.out k)))
   have HOSr:=hid (fun W (h:Keep (fun k=>k≠gI) wr W)=>show SlI Any W vO (ints (SpecN.ords T)) from by
    have h2:=((HPr.out.keep h).mono (S':=Any) (fun _ _=>trivial)).os;rwa[HOT.out]at h2)
   have hq1:(q:Int)<(sz T:Int):=by omega
   have hq0:(0:Int)≤(q:Int):=by omega
   have HIS:=hid (show mkl (orF T G x) (sz T) (k+1)=(mkl (orF T G x) (sz T) k).set q true by rw[hq];exact mkl_succ _ _ _);have hk0:(0:Int)≤(k:Int):=by omega
   have hk1:(k:Int)<(G.length:Int):=by omega
   have HKW:=hid hsw;clear hq hf hcf hof hkw hbw hsw;go_upto_region 5 with fail;go_region_held3 (fun w'=>(∀b o,b<wr.heap.size→¬b=gI→w'.cell? ⟨b,o,none⟩=wr.cell? ⟨b,o,none⟩)∧Keep (fun k=>k≠gI) wr w')
    (first|exact kI_mk (by repeat(first|exact zqK.drew|exact Keep.refl _ _|refine Keep.setCell ?_ (by simp) _|refine Keep.trans ?_ (Keep.of_below (by assumption)))))
    (first|(go_at_call 81;refine(HAP.out _ uf f HFL.out ((HPr.out.keep (by repeat(first|exact zqK.drew|exact Keep.refl _ _|exact zqK.alloc _|exact(zqK.alloc _).drew|refine Keep.drewN ?_ _|refine Keep.trans ?_ (Keep.of_below (by assumption))))).mono (fun _ _=>trivial)) (Sl2.mono (Sl2.keep HUF.out (by repeat(first|exact zqK.drew|exact Keep.refl _ _|exact zqK.alloc _|exact(zqK.alloc _).drew|refine Keep.drewN ?_ _|refine Keep.trans ?_ (Keep.of_below (by assumption))))) (fun _ _=>trivial)) (SlI.mono (SlI.keep HXr.out (by repeat(first|exact zqK.drew|exact Keep.refl _ _|exact zqK.alloc _|exact(zqK.alloc _).drew|refine Keep.drewN ?_ _|refine Keep.trans ?_ (Keep.of_below (by assumption))))) (fun _ _=>trivial))).mono ?_;rintro e w7 ⟨v7,rfl,ho7,hb7⟩)|(go_at_call 80;refine(HNQ.out _ v7 (HOSr.out _ (by repeat(first|exact zqK.drew|exact Keep.refl _ _|exact zqK.alloc _|exact(zqK.alloc _).drew|refine Keep.drewN ?_ _|refine Keep.trans ?_ (Keep.of_below (by assumption))))) ((ho7.sl.mono (fun _ _=>trivial)).keep (by repeat(first|exact zqK.drew|exact Keep.refl _ _|exact zqK.alloc _|exact(zqK.alloc _).drew|refine Keep.drewN ?_ _|refine Keep.trans ?_ (Keep.of_below (by assumption)))))).mono ?_;rintro e w8 ⟨rfl,hb8⟩;have hI8:=hIr.out.keep (S:=Any) (show Keep Any wr w8 from(by repeat(first|exact zqK.drew|exact Keep.refl _ _|exact zqK.alloc _|exact(zqK.alloc _).drew|refine Keep.drewN ?_ _|refine Keep.trans ?_ (Keep.of_below (by assumption))))) (fun _ _=>trivial);obtain⟨s8,f8⟩:=hI8.cell (mkl_get hqz);have hs8:wr.heap.size≤w8.heap.size:=(show Keep Any wr w8 from(by repeat(first|exact zqK.drew|exact Keep.refl _ _|exact zqK.alloc _|exact(zqK.alloc _).drew|refine Keep.drewN ?_ _|refine Keep.trans ?_ (Keep.of_below (by assumption))))).size))
   have HNI:=hid (show OwnB gI (w8.setCell ⟨gI,q,none⟩ (.bool true)) (.slice (some ⟨gI,0,none⟩) (sz T) (sz T)) (mkl (orF T G x) (sz T) (k+1)) by rw[HIS.out];exact hI8.set q true);have HNK:=hid (show Keep (fun k=>k≠gI) w5 (w8.setCell ⟨gI,q,none⟩ (.bool true)) from(hKr.out.trans (show Keep (fun k=>k≠gI) wr w8 from(by repeat(first|exact zqK.drew|exact Keep.refl _ _|exact zqK.alloc _|exact(zqK.alloc _).drew|refine Keep.drewN ?_ _|refine Keep.trans ?_ (Keep.of_below (by assumption)))))).setCell (by simp) _);have hb7':Below wr.heap.size wr w7:=(zqB.drew).trans hb7;have hb8':Below wr.heap.size wr w8:=hb7'.trans (hb8.mono hb7'.size);have HNB:=hid (show Below (w.heap.size+1) (w.alloc (.cells #[vO,vP,vC] 28)) (w8.setCell ⟨gI,q,none⟩ (.bool true)) from(hB.out.trans (hb8'.mono HKW.out)).setCell (p:=⟨gI,q,none⟩) hgIw _);clear ho7 hb7 hb8 hI8 s8 f8 hs8 e0 e1 e2 hcr hb7' hb8';go_wp2_with fail;go_roundw;case rel=>exact⟨k+1,by omega,by go_num,HNI,HNK,HNB⟩
   case measure=>simp[intOf]<;>omega
  ·obtain rfl:k=G.length:=by omega
   have hki:decide ((G.length:Int)<(G.length:Int))=false:=by simp
   have HR:=hid (show OrbR T G x w (.returned (.slice (some ⟨gI,0,none⟩) (sz T) (sz T))) wr from⟨_,rfl,ownsRow_mono hIr.out (by omega),(bx1 hB.out).2.2.1⟩);clear hIr hKr;go_wp2_with fail;go_ret;exact HR.out
end Go.Proofs.YtlmlamcoeegkbaaGreat.OrbB
namespace Go.Proofs.YtlmlamcoeegkbaaGreat.OrbC
open Go.RowKit Go.Proofs.YtlmlamcoeegkbaaGreat Tow Val NumT SpecB SpecR LawF Elt OrbB
theorem el_of {T:Tw}{l:List Int}(h:TailV (ofTw T).os 0 l):∃x,l=ints x∧El T x:=by
 have hx:∀(j:Nat) (x o:Int),l[j]?=some x→(ofTw T).os[j]?=some o→0≤x∧x<o:=fun j x o h1 h2=>⟨(h.2 j x o h1 h2).1,(h.2 j x o h1 h2).2.1⟩;refine⟨nats l,(ints_nats (fun y hy=>?_)).symm,El_nats rfl h.1 hx⟩;obtain⟨j,hj⟩:=zq45 hy;have hjl:=(zq2.1 hj).1;obtain⟨o,ho⟩:∃o,(ofTw T).os[j]?=some o:=⟨_,zq0 (by rw[←h.1];exact hjl)⟩;exact(hx j y o hj ho).1
open Classical in
noncomputable def orb (T:Tw)(x:List Nat)(t:Nat):Bool:=decide (∃f∈Grow.grow T T T.length [],num T (prodL (mul T) (Tow.one T) (f.map (at_ T)) x)=t)
open Classical in
theorem orb_mks (T:Tw)(x:List Nat)(t:Nat):mks (orF T (Grow.grow T T T.length []) x) (Grow.grow T T T.length []).length t=orb T x t:=by
 rw[Bool.eq_iff_iff,mks_iff];unfold orb;rw[zq78];constructor
 ·rintro⟨j,hj,e⟩;refine⟨_,zq76 hj,?_⟩;rw[←e];unfold orF app;rw[zq9,zq0 hj];rfl
 ·rintro⟨f,hf,e⟩;obtain⟨j,hj,rfl⟩:=zq87 hf;refine⟨j,hj,?_⟩;rw[←e];unfold orF app;rw[zq9,zq0 hj];rfl
def OrbV (P:Pres)(l:List Int)(res:List (List Int))(k:Int):Prop:=
 (res=[]∧k=1∧¬ElV P l)∨∃T x,P=ofTw T∧l=ints x∧Grps.Grp P∧El T x∧((res=[]∧k=3∧27<sz T)∨(k=0∧sz T≤27∧res=(nums (orb T x) (sz T)).map fun t=>ints (at_ T t)))
def SOrbR (P:Pres)(l:List Int)(w:World)(e:Ending)(w':World):Prop:=∃v k res,e= .returned (.tuple #[v,.int .i64 k])∧OrbV P l res k∧Sl2 (fun b=>w.heap.size≤b) w' v res∧Below w.heap.size w w'
theorem spec_orbit (w:World)(pO pP pC vx:Value)(P:Pres)(l:List Int)(hP:ValP Any w pO pP pC P)(hx:SlI Any w vx l):
  Calls Tryz.prog 14 #[.agg #[pO,pP,pC],vx] w (SOrbR P l w):=by
 obtain⟨i0,hi,hz0,hz1,hz2⟩:=zq41 infoR;have HP:=hid hP;have HX:=hid hx;obtain⟨W0,hW0⟩:∃W0,W0=w.alloc (.cells #[pO,pP,pC] 28):=⟨_,rfl⟩;have HB0:=hid (show Below (w.heap.size+1) (w.alloc (.cells #[pO,pP,pC] 28)) W0 by rw[hW0];exact zq3 _ _);clear hP hx;go_enter Tryz.func14,Tryz.ntmps14;go_upto_region 1 with fail;rw[←hW0];clear hW0;obtain⟨⟨e0,e1,e2⟩,hk,hbw,hs⟩:=bx1 HB0.out;go_wp2_with fail;refine(isElement_any _ pO pP pC vx P l (HP.out.keep hk) (HX.out.keep hk)).mono ?_;rintro e w1 ⟨r,rfl,hr,hb1⟩;have HB1:=hid (HB0.out.trans (hb1.mono hs));clear e0 e1 e2 hk hbw hs hb1;obtain⟨⟨e0,e1,e2⟩,hk,hbw,hs⟩:=bx1 HB1.out;have HBW1:=hid hbw;by_cases hE:ElV P l
 ·obtain rfl:r=true:=hr.2 hE;obtain⟨hG,hTl⟩:=hE;obtain⟨T,hTE⟩:∃T,P=ofTw T:=by obtain⟨T,_,_,h,_⟩:=hG;exact⟨T,h⟩
  subst hTE;obtain⟨x,hlx,hxE⟩:=el_of hTl;subst hlx;have HG:=hid hG;have HXE:=hid hxE;have HSZ:=hid (SpecN.order_any T (IsoA.grp_sz hG).1 w1 pO pP pC (by have h:=(HP.out.keep hk).os;rwa[SpecN.ofTw_ords]at h));clear hr hG hTl hxE hk hbw;go_wp2_with fail;refine HSZ.out.mono ?_;rintro e w2 ⟨rfl,hb2⟩;have HB2:=hid (HB1.out.trans (hb2.mono hs));clear hb2 hs e0 e1 e2;obtain⟨⟨e0,e1,e2⟩,hk,hbw,hs⟩:=bx1 HB2.out;have HBW2:=hid hbw;by_cases h27:27<sz T
  ·have hd:decide ((sz T:Int)>27)=true:=by simp;omega
   have HR:=hid (show SOrbR (ofTw T) (ints x) w (.returned (.tuple #[.slice none 0 0,.int .i64 3])) w2 from⟨_,3,[],rfl,.inr ⟨T,x,rfl,rfl,HG.out,HXE.out,.inl ⟨rfl,rfl,h27⟩⟩,FindC.Sl2_nil _ _,HBW2.out⟩);clear hk hbw;go_wp2_with fail;exact zq12 (v:=.tuple #[.slice none 0 0,.int .i64 3]) (by simp[results,Tryz.results14,go_sem]) rfl HR.out
  ·have hd:decide ((sz T:Int)>27)=false:=by simp;omega
   have hz:sz T≤27:=by omega
   obtain⟨hT,hsT,hgT,hpT⟩:=SpecX.grp_parts HG.out;have HEM:=hid (fun W h=>SpecX.embed_any T T hT hsT hT hsT hgT hpT hz W pO pP pC pO pP pC h h);have HOB:=hid (fun B W vF G h1 h2 h3 h4 h5=>orbit_any T hT hsT hgT (by omega) B W pO pP pC vF vx G x h1 h2 h3 HXE.out h4 h5);have HAT:=hid (fun W q (hq:q≤1000000) hO=>SpecN.at_any T (SpecN.Os.of hT hsT (by omega)) (fun L h=>by have:=hsT.2 L h;omega) q hq W pO pP pC hO);have HP2:=hid (HP.out.keep hk);have HX2:=hid (HX.out.keep hk);have hl0:w.heap.size<w2.heap.size:=by omega
   have HME:=hid (FindC.maps_eq HG.out HG.out);have HGL:=hid (show(∀f∈Grow.grow T T T.length [],f.length=T.length)∧(Grow.grow T T T.length []).length≤1000000000 from⟨fun f hf=>by simpa using ImplY.grow_rows _ _ _ hf,by
    have h1:=Grow.grow_length T T hz T.length [];have h6:27^T.length≤27^6:=zq110 (by omega) hsT.1;omega⟩)
   clear h27 hk hbw hT hsT hgT hpT;go_wp2_with fail;go_region_held3 (fun w'=>(∀b o,b<w2.heap.size→w'.cell? ⟨b,o,none⟩=w2.cell? ⟨b,o,none⟩)∧Keep (fun _=>True) w2 w')
    (first|exact ks_mk (by repeat(first|exact zqK.drew|exact Keep.refl _ _|refine Keep.drewN ?_ _|refine Keep.trans ?_ (Keep.of_below (by assumption)))))
    (first|(go_at_call 45;refine(HEM.out _ (HP2.out.keep (by repeat(first|exact zqK.drew|exact Keep.refl _ _|exact zqK.alloc _|exact(zqK.alloc _).drew|refine Keep.drewN ?_ _|refine Keep.trans ?_ (Keep.of_below (by assumption)))))).mono ?_;rintro e w3 ⟨v3,rfl,ho3,hb3⟩;rw[HME.out]at ho3)|(go_at_call 44;refine(HOB.out _ _ v3 _ (HP2.out.keep (by repeat(first|exact zqK.drew|exact Keep.refl _ _|exact zqK.alloc _|exact(zqK.alloc _).drew|refine Keep.drewN ?_ _|refine Keep.trans ?_ (Keep.of_below (by assumption))))) (ho3.keep (S:=fun _=>True) (by repeat(first|exact zqK.drew|exact Keep.refl _ _|exact zqK.alloc _|exact(zqK.alloc _).drew|refine Keep.drewN ?_ _|refine Keep.trans ?_ (Keep.of_below (by assumption)))) (fun _ _ _=>trivial)) (HX2.out.keep (by repeat(first|exact zqK.drew|exact Keep.refl _ _|exact zqK.alloc _|exact(zqK.alloc _).drew|refine Keep.drewN ?_ _|refine Keep.trans ?_ (Keep.of_below (by assumption))))) HGL.out.1 HGL.out.2).mono ?_;rintro e w4 ⟨v4,rfl,ho4,hb4⟩))
   rename_i hHd;clear hHd;have hb3':Below w2.heap.size w2 w3:=(zqB.drew).trans hb3;have hb4':Below w2.heap.size w2 w4:=hb3'.trans (hb4.mono hb3'.size);have HB4:=hid (HB2.out.trans (hb4'.mono hs));have HO4:=hid ho4;have hzp:0<sz T:=sz_pos (SpecX.grp_parts HG.out).1;obtain⟨g,cap,hv4,hgB,hgl⟩:=World.ownsRow.form ho4 (by rw[mkl_length];exact hzp);rw[mkl_length]at hv4;subst hv4;have hg3:w2.heap.size≤g:=zq11 hb3'.size hgB;clear ho3 hb3 ho4 hb4 hb3' hb4' e0 e1 e2 hs hl0 HEM HOB HP2 HX2 HGL HME hgB;obtain⟨n,hn⟩:∃n,(Grow.grow T T T.length []).length=n:=⟨_,rfl⟩;have HMK:=hid (fun t=>orb_mks T x t);rw[hn]at HO4 HMK;have HNN:=hid hn;have HBW4:=hid (bx1 HB4.out).2.2.1;have HS4:=hid (bx1 HB4.out).2.2.2;have h00:=hid (zq47 (base:=w4.heap.size) (e:=24) (size:=1) w4 #[] 0 zqN (zq4 _) rfl);have HOS:=hid (fun W (h:Below w4.heap.size w4 W)=>show SlI Any W pO (ints (SpecN.ords T)) from by
    have h2:=((HP.out.keep ((bx1 HB4.out).2.1.trans (Keep.of_below h)))).os;rwa[SpecN.ofTw_ords]at h2)
   clear hn;go_wp2_with fail;go_loopw [7,8] (fun ov iv wr=>∃t:Nat,t≤sz T∧iv= .int .i64 (t:Int)∧Hid (Own2 24 2 w4.heap.size wr ov ((nums (orb T x) t).map (at_ T)))∧Hid (Below w4.heap.size w4 wr)) (fun _ iv _=>sz T-(intOf iv).toNat);case atStart=>exact⟨0,zq4 _,rfl,hid ⟨[],h00.out,rfl,by simp[nums]⟩,hid (zqB.alloc zqN _)⟩
   case round=>
    obtain⟨t,ht,rfl,ho2,hB⟩:=hrel;have HBX:=hid (HB4.out.trans (hB.out.mono HS4.out));obtain⟨⟨e0,e1,e2⟩,-, -, hs⟩:=bx1 HBX.out;by_cases hlt:t<sz T
    ·have hIq:=HO4.out.keep (S:=Any) (Keep.of_below hB.out) (fun _ _=>trivial);obtain⟨s8,f8⟩:=hIq.cell (mkl_get hlt);rw[HMK.out]at s8;have ht1:(t:Int)<(sz T:Int):=by omega
     have ht0:(0:Int)≤(t:Int):=by omega
     have hdt:decide ((t:Int)<(sz T:Int))=true:=by simp;omega
     have hns:=nums_succ (orb T x) t;have hnl:=nums_length (orb T x) t;obtain⟨nl,hnl2⟩:∃nl,((nums (orb T x) t).map (at_ T)).length=nl:=⟨_,rfl⟩;have hnl7:nl≤27:=by rw[←hnl2,zq18];omega
     cases hbt:orb T x t with
     |false=>
      rw[hbt]at s8 hns;simp only[Bool.false_eq_true,if_false,zq95]at hns;have HNS:=hid hns;clear hIq hbt hns hnl hnl2;go_wp2_with fail;go_roundw;case rel=>exact⟨t+1,by omega,by go_num,hid (by rw[HNS.out];exact ho2.out),hB⟩
      case measure=>simp[intOf]<;>omega
     |true=>
      rw[hbt]at s8 hns;simp only[if_true]at hns;have HNS:=hid (show(nums (orb T x) (t+1)).map (at_ T)=(nums (orb T x) t).map (at_ T)++[at_ T t] by rw[hns,zq103];rfl);have HNL2:=hid hnl2;clear hIq hbt hns hnl hnl2;go_wp2_with fail;refine(HAT.out _ t (by omega) (HOS.out _ hB.out)).mono ?_;rintro e w5 ⟨g5,c5,rfl,ho,hb5⟩;have HB5:=hid (hB.out.trans (hb5.mono hB.out.size));have HRR:=hid (NewS.row (ho.mono (B':=w4.heap.size) hB.out.size));obtain⟨us2,h1,h2,h4⟩:=ho2.out.of_below hb5;have HUU:=hid (And.intro h2 h4);rw[HNL2.out]at h1;clear ho hb5 h2 h4 ho2;go_wp2_with (at_builtin;(refine zq55 _ rfl _ _ 25 rfl w4.heap.size 24 i0 (.slice none 0 0) 1 24 Tryz.underlying25 hi hz0 hz1 hz2 rfl (by decide) _ _ _ rfl (h1.alloc _) ⟨w5.heap.size,0,none⟩ 1 1 [.slice (some ⟨g5,0,none⟩) (ints (at_ T t)).length c5] rfl rfl ?c1 ?c2 ?c3 ?c4 ?c5 ?_));case c1=>
       intro j u hj
       match j,hj with
       |0,hj=>simp at hj;subst hj;simp[Addr.add]
      case c2=>intro u hu;simp at hu;subst hu;rfl
      case c3=>unfold maxLen;omega
      case c4=>omega
      case c5=>have:=HB5.out.size;simp;omega
      ·intro v' w6 hown hgrow _;have HN:=hid (show Own2 24 2 w4.heap.size w6 v' ((nums (orb T x) (t+1)).map (at_ T)) from by
        rw[HNS.out];exact Own2.push (w:=w5.alloc _) (us:=us2) (by decide) HNL2.out (h1.alloc _) HUU.out.1 (fun i r u hr hu=>(HUU.out.2 i r u hr hu).keep (S:=fun _=>True) (zqK.alloc _) (fun _ _=>trivial)) (HRR.out.keep (S:=fun _=>True) (zqK.alloc _) (fun _ _=>trivial)) hown hgrow)
       have HB6:=hid (show Below w4.heap.size w4 w6 from(HB5.out.alloc (by have:=HB5.out.size;omega) _).grown hgrow (by simp;have:=HB5.out.size;omega) (fun g hg=>(zq8 h1 g hg).1));clear hown hgrow h1 HUU HRR;go_wp2_with fail;go_roundw;case rel=>exact⟨t+1,by omega,by go_num,HN,HB6⟩
       case measure=>simp[intOf]<;>omega
    ·obtain rfl:t=sz T:=by omega
     have hdt:decide ((sz T:Int)<(sz T:Int))=false:=by simp
     have HR:=hid (show SOrbR (ofTw T) (ints x) w (.returned (.tuple #[u7,.int .i64 0])) wr from by
      refine⟨_,0,_,rfl,.inr ⟨T,x,rfl,rfl,HG.out,HXE.out,.inr ⟨rfl,hz,rfl⟩⟩,?_,HBW4.out.trans (hB.out.mono HBW4.out.size)⟩;have h:=Sl2.mono (ho2.out.sl) (S':=fun b=>w.heap.size≤b) (fun b hb=>zq11 HBW4.out.size hb);rw[List.map_map]at h;exact h)
     clear ho2;go_wp2_with fail;exact zq12 (v:=.tuple #[u7,.int .i64 0]) (by simp[results,Tryz.results14,go_sem]) rfl HR.out
 ·obtain rfl:r=false:=by
   cases r with
   |false=>rfl
   |true=>exact absurd (hr.1 rfl) hE
  have HR:=hid (show SOrbR P l w (.returned (.tuple #[.slice none 0 0,.int .i64 1])) w1 from⟨_,1,[],rfl,.inl ⟨rfl,rfl,hE⟩,FindC.Sl2_nil _ _,HBW1.out⟩);clear hr hE hk hbw;go_wp2_with fail;exact zq12 (v:=.tuple #[.slice none 0 0,.int .i64 1]) (by simp[results,Tryz.results14,go_sem]) rfl HR.out
end Go.Proofs.YtlmlamcoeegkbaaGreat.OrbC
