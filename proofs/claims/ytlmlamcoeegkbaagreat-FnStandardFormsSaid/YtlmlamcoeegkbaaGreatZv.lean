import Derived.Test.YtlmlamcoeegkbaaGreatZ0
import Derived.Test.YtlmlamcoeegkbaaGreatZu
import Derived.Laws.AppendOwnNone
import Derived.Deep.RegionHeld3
import Derived.Deep.AppendLies
import Derived.Deep.RegionLaw
import Derived.Ground.SlsfProg
import Derived.Shelf.SlSortCmp.Insertion
import Derived.Test.YtlmlamcoeegkbaaGreatProg
import Derived.Shelf.SlSortCmp.NoneTotal
/-
  Lemmas for the law FnStandardForms, in short spelling.
-/
open Go.Lib (hid)
set_option linter.unusedVariables false
set_option linter.unusedSimpArgs false
set_option maxRecDepth 100000
set_option maxHeartbeats 40000000
namespace Go.Proofs.YtlmlamcoeegkbaaGreat.OL
open Go.Proofs.YtlmlamcoeegkbaaGreat AJ Gen Dq CV F9 PU Yu vR fO
def Bb:List Nat→List Nat→Int
 |[],[]=>0
 |[],_::_=> -1
 |_::_,[]=>1
 |a::x,b::y=>if a<b then -1 else if b<a then 1 else Bb x y
theorem ZK:∀x:List Nat,Bb x x=0
 |[]=>rfl
 |a::x=>by rw[Bb,BU (Px _),BU (Px _),ZK x]
theorem AAS (a b:Nat)(x y:List Nat):Bb (a::x) (b::y)<0↔a<b∨(a=b∧Bb x y<0):=by
 rw[Bb];split
 ·simp;omega
 ·split
  ·simp;omega
  ·have:a=b:=by omega
   simp[this]
theorem xm:∀x y z:List Nat,Bb x y<0→Bb y z<0→Bb x z<0
 |[],[],z,h,_=>by simp[Bb]at h
 |[],_::_,[],_,h=>by simp[Bb]at h
 |[],_::_,_::_,_,_=>by simp[Bb]
 |_::_,[],z,h,_=>by simp[Bb]at h
 |_::_,_::_,[],_,h=>by simp[Bb]at h
 |a::x,b::y,c::z,h1,h2=>by
  rw[AAS]at h1 h2 ⊢;rcases h1 with h1|⟨h1,h3⟩<;>rcases h2 with h2|⟨h2,h4⟩
  ·exact .inl (by omega)
  ·exact .inl (by omega)
  ·exact .inl (by omega)
  ·exact .inr ⟨by omega,xm x y z h3 h4⟩
theorem kN:∀x y:List Nat,Bb x y<0∨x=y∨0<Bb x y
 |[],[]=>.inr (.inl rfl)
 |[],_::_=>.inl (by simp[Bb])
 |_::_,[]=>.inr (.inr (by simp[Bb]))
 |a::x,b::y=>by
  rw[Bb];split
  ·exact .inl (by omega)
  ·split
   ·exact .inr (.inr (by omega))
   ·have:a=b:=by omega
    subst this;rcases kN x y with h|rfl|h
    ·exact .inl h
    ·exact .inr (.inl rfl)
    ·exact .inr (.inr h)
theorem yQ:∀x y:List Nat,0<Bb x y→Bb y x<0
 |[],[],h=>by simp[Bb]at h
 |[],_::_,h=>by simp[Bb]at h
 |_::_,[],_=>by simp[Bb]
 |a::x,b::y,h=>by
  rw[Bb]at h;rw[AAS];split at h
  ·omega
  ·split at h
   ·exact .inl (by assumption)
   ·exact .inr ⟨by omega,yQ x y h⟩
theorem AFE {x y:List Nat}(h1:¬Bb x y<0)(h2:¬Bb y x<0):x=y:=by
 rcases kN x y with h|h|h
 ·exact absurd h h1
 ·exact h
 ·exact absurd (yQ x y h) h2
theorem AFF {x y:List Nat}(h:Bb x y=0):x=y:=by
 rcases kN x y with h'|h'|h'
 ·omega
 ·exact h'
 ·omega
def key (n:Nat)(S:Tw)(L:Lv):List Nat:=(L.w::L.c).flatMap (pad (n-S.length))
theorem zY (s m:Nat):∀l l':List (List Nat),(∀x∈l,x.length=m)→(∀x∈l',x.length=m)→l.length=l'.length→l.flatMap (pad s)=l'.flatMap (pad s)→l=l'
 |[],[],_,_,_,_=>rfl
 |[],_::_,_,_,h,_=>by simp at h
 |_::_,[],_,_,h,_=>by simp at h
 |x::l,y::l',h1,h2,h3,h4=>by
  rw[KS,KS]at h4;have hl:(pad s x).length=(pad s y).length:=by rw[BZ,BZ,h1 x CE,h2 y CE]
  obtain⟨e1,e2⟩:=List.append_inj h4 hl;have e3:x=y:=by rw[←BG s x,e1,BG]
  rw[e3,zY s m l l' (fun z hz=>h1 z (Ca _ hz)) (fun z hz=>h2 z (Ca _ hz)) (by simpa using h3) e2]
theorem ZR {S:Tw}{L:Lv}(h:Wf (L::S)):∀x∈L.w::L.c,x.length=S.length:=fun x hx=>by
 rcases GR.1 hx with rfl|hx
 ·exact Af h.2.1
 ·exact Af (h.2.2.2.1 x hx)
theorem key_inj {n:Nat}{S:Tw}{L L':Lv}(h:Wf (L::S))(h':Wf (L'::S))(ho:L.o=L'.o)(e:key n S L=key n S L'):L=L':=by
 have:=zY _ S.length (L.w::L.c) (L'.w::L'.c) (ZR h) (ZR h') (by simp[h.2.2.1,h'.2.2.1]) e;injection this with e1 e2;cases L;cases L';simp only at ho e1 e2;rw[ho,e1,e2]
def Has (Q S:Tw):Prop:=∃t,DK Q S t
def Std (Q:Tw)(q:Nat):Tw→Prop
 |[]=>True
 |L::S=>Std Q q S∧L.o=q∧Wf (L::S)∧AJ.Good (L::S)∧Has Q (L::S)∧∀L',L'.o=q→Wf (L'::S)→Has Q (L'::S)→¬Bb (key Q.length S L') (key Q.length S L)<0
theorem Std.good {Q:Tw}{q:Nat}:∀{S:Tw},Std Q q S→Wf S∧AJ.Good S∧(∀L∈S,L.o=q)∧Has Q S
 |[],_=>⟨trivial,trivial,fun L h=>by simp at h,[],lD⟩
 |L::S,⟨h1,h2,h3,h4,h5,_⟩=>⟨h3,h4,fun K hK=>by
  rcases GR.1 hK with rfl|hK
  ·exact h2
  ·exact(Std.good h1).2.2.1 K hK,h5⟩
theorem zZ {Q Q':Tw}{q:Nat}(hl:Q.length=Q'.length)(hi:∀S,Has Q S↔Has Q' S):∀S S',Std Q q S→Std Q' q S'→S.length=S'.length→S=S'
 |[],[],_,_,_=>rfl
 |[],_::_,_,_,h=>by simp at h
 |_::_,[],_,_,h=>by simp at h
 |L::S,L'::S',⟨a1,a2,a3,a4,a5,a6⟩,⟨b1,b2,b3,b4,b5,b6⟩,h=>by
  obtain rfl:=zZ hl hi S S' a1 b1 (by simpa using h);have h1:=a6 L' b2 b3 ((hi _).2 b5);have h2:=b6 L a2 a3 ((hi _).1 a5);rw[←hl]at h2;rw[key_inj a3 b3 (a2.trans b2.symm) (AFE h2 h1)]
theorem AG7 {P Q:Tw}(hP:Wf P)(I1:AJ.Good P)(hQ:Wf Q)(NQ:AJ.Good Q){c:List (List Nat)}(h:DK Q P c)(hs:sz Q=sz P)(S:Tw):Has P S↔Has Q S:=by
 constructor
 ·rintro⟨t,ht⟩;exact⟨_,comp hQ NQ hP I1 h ht⟩
 ·rintro⟨t,ht⟩;obtain⟨cs,hcs,_⟩:=factor hQ NQ hP I1 h ht fun c hc=>zX hQ NQ hP h (by omega) (ht.el c hc);exact⟨cs,hcs⟩
theorem AG8 {P Q S:Tw}{q:Nat}(hP:Wf P)(I1:AJ.Good P)(hQ:Wf Q)(NQ:AJ.Good Q)(VU:∀L∈P,L.o=q)(VS:∀L∈Q,L.o=q)(h1:Std P q S)(h2:Std Q q S)(l1:S.length=P.length)(l2:S.length=Q.length):∃c,DK Q P c:=by
 obtain⟨hS,Ef,VT,t1,e1⟩:=h1.good;obtain⟨_,_,_,t2,e2⟩:=h2.good;have s1:sz P=sz S:=by rw[KL VU,KL VT,l1]
 obtain⟨cs,hcs,_⟩:=factor hP I1 hS Ef e1 (AAv hP I1) fun c hc=>zX hP I1 hS e1 (by omega) ((AAv hP I1).el c hc);exact⟨_,comp hQ NQ hS Ef e2 hcs⟩
theorem AG9 {P Q:Tw}(hP:Wf P)(I1:AJ.Good P)(hQ:Wf Q)(NQ:AJ.Good Q)(hp:Yt P):0<(Dz Q P P.length []).length↔∃c,DK Q P c:=by
 rw[List.length_pos_iff_exists_mem];exact exists_congr fun c=>AFC hQ NQ hP I1 hp c
theorem zk {P Q S S':Tw}{q:Nat}(hP:Wf P)(I1:AJ.Good P)(hQ:Wf Q)(NQ:AJ.Good Q)(hp:Yt P)(VU:∀L∈P,L.o=q)(VS:∀L∈Q,L.o=q)(hl:P.length=Q.length)(h1:Std P q S)(h2:Std Q q S')(l1:S.length=P.length)(l2:S'.length=Q.length):
  S=S'↔0<(Dz Q P P.length []).length:=by
 rw[AG9 hP I1 hQ NQ hp];constructor
 ·rintro rfl;exact AG8 hP I1 hQ NQ VU VS h1 h2 l1 l2
 ·rintro⟨c,hc⟩;have hs:sz Q=sz P:=by rw[KL VU,KL VS,hl]
  exact zZ hl (fun S=>AG7 hP I1 hQ NQ hc hs S) S S' h1 h2 (by omega)
theorem AF4 {Q S:Tw}{q:Nat}(hQ:Wf Q)(hg:AJ.Good Q)(hq:q=2∨q=3∨q=5∨q=7)(ho:∀L∈Q,L.o=q)(h:Std Q q S)(hl:S.length<Q.length):∃L x t,L.o=q∧Wf (L::S)∧AJ.Good (L::S)∧DK Q S t∧DK Q (L::S) (x::t):=by
 obtain⟨hS,Ef,VT,t,ht⟩:=h.good;obtain⟨L,x,h1,h2,h3,h4⟩:=extend hQ hg hS Ef ht hq ho VT hl;exact⟨L,x,t,h1,h2,h3,ht,h4⟩
end Go.Proofs.YtlmlamcoeegkbaaGreat.OL
namespace Go.Proofs.YtlmlamcoeegkbaaGreat.ay
open Go.RowKit Go.Proofs.YtlmlamcoeegkbaaGreat AJ CV MU IM JD Ox RP MS
def AKU (e:TypeId)(x:List Nat)(w:World)(e':Ending)(w':World):Prop:=∃v,e'= .returned v∧CL e w.heap.size w' v x∧Below w.heap.size w w'
theorem AEb (w:World)(ad:Addr)(n c:Nat)(l:List Nat)(hv:AL Any w (.slice (some ad) n c) (ints l))(hl:l.length≤1000000):
  Calls Tryz.prog 119 #[.slice (some ad) n c] w (AKU 3 l w):=by
 obtain⟨i0,hi,hz0,hz1,hz2⟩:=CO aZ;have hnl:n=l.length:=by obtain⟨_,_,e,_⟩:=hv;simp only[C8]at e;rw[e.2.1,A7]
 subst hnl;have HL:=hid hl;clear hl;have HS:=hid hv;have h00:=FL (base:=w.heap.size) (e:=3) (size:=1) w #[] 0 AQ (AU _) rfl;have hen:=fun(w:World) (a:Option Addr) (n c n' c':Nat)=>Lib.run_eql_slice_nil (P:=Tryz.prog) w 91 3 a n c n' c' Tryz.underlying91;have hv':AL Any w (.slice (some ad) (ints l).length c) (ints l):=by rw[A7];exact hv
 have C1:=hid (AL.src (w':=w.alloc (.cells #[] 3)) hv' (AB.alloc _));have C2:=hid (NZ (ints l));have C3:=hid (show 0+l.length≤maxLen from by have:=HL.out;unfold maxLen;omega);have C4:=hid (show(0+l.length)*8≤140737488355328 from by have:=HL.out;omega);have C5:=hid (show(vals (ints l)).length=l.length*1 by simp[vals,ints]);clear hv hv';go_enter Tryz.func119,Tryz.ntmps119;go_wp2_with (at_builtin;refine GQ _ rfl _ _ 91 rfl w.heap.size 3 i0 (.int .i64 0) 1 8 Tryz.underlying91 hi hz0 hz1 hz2 rfl (by decide) _ _ _ rfl h00 ad l.length c (vals (ints l)) rfl C5.out C1.out C2.out C3.out C4.out (by simp) ?_);intro v' w1 hown' hgrow hnil;have hne:v'≠.slice none 0 0:=by first|exact hnil|(intro e;have:=hnil.1 e;simp at this)
 have hO:w1.ownsRow w.heap.size 3 1 v' l.length (vals (ints l)):=by simpa using hown'
 have hB:Below w.heap.size w w1:=(AR.alloc AQ _).grown hgrow (by simp) (by intro k hk;simp[Value.ownBlock]at hk;omega);clear hown' hgrow hnil;go_wp2_with fail;go_ret;refine⟨_,rfl,⟨?_,hO⟩,hB⟩;rcases hO.2 with⟨e,_⟩|⟨g,cap,cur,e,_⟩
 ·exact absurd e hne
 ·exact⟨g,cap,e⟩
end Go.Proofs.YtlmlamcoeegkbaaGreat.ay
namespace Go.Proofs.YtlmlamcoeegkbaaGreat.mP
open Go.RowKit Go.Proofs.YtlmlamcoeegkbaaGreat AJ CV MU IM JD Ox RP ay MS Grow
def Sx (B bs gi:Nat):Nat→Prop:=fun k=>k<B∧k≠bs∧k≠gi
structure II (w:World)(bs bp op bg gi ci B:Nat)(T Q:Tw)(b:Bool)(Aa:List Nat)(F:List (List Nat))(vF:Value):Prop where
 hbs:bs<B
 hgi:gi<B
 hne:bs≠gi
 hB:B≤w.heap.size
 row:w.heap[bs]?=some (.cells #[.pointer (some ⟨bp,op,none⟩),.pointer (some ⟨bg,0,none⟩),.slice (some ⟨gi,0,none⟩) T.length ci,.bool b,vF] 105)
 pre:Cn (Sx B bs gi) w bp op (AX T)
 tab:Cv (Sx B bs gi) w bg Q
 len:Aa.length=T.length
 Aa:w.ownsRow 0 3 1 (.slice (some ⟨gi,0,none⟩) T.length ci) T.length (vals (ints Aa))
 Yv:Own2 91 3 B w vF F
theorem II.slI {w:World}{bs bp op bg gi ci B:Nat}{T Q:Tw}{b:Bool}{Aa:List Nat}{F:List (List Nat)}{vF:Value}(h:II w bs bp op bg gi ci B T Q b Aa F vF):AL Any w (.slice (some ⟨gi,0,none⟩) T.length ci) (ints Aa):=by
 have hl:=h.len;have:CL 3 0 w (.slice (some ⟨gi,0,none⟩) T.length ci) Aa:=⟨⟨gi,ci,by rw[hl]⟩,by rw[hl];exact h.Aa⟩;exact this.sl.mono (fun _ _=>trivial)
theorem II.cells {w:World}{bs bp op bg gi ci B:Nat}{T Q:Tw}{b:Bool}{Aa:List Nat}{F:List (List Nat)}{vF:Value}(h:II w bs bp op bg gi ci B T Q b Aa F vF):
  w.cell? ⟨bs,0,none⟩=some (.pointer (some ⟨bp,op,none⟩))∧w.cell? ⟨bs,1,none⟩=some (.pointer (some ⟨bg,0,none⟩))∧w.cell? ⟨bs,2,none⟩=some (.slice (some ⟨gi,0,none⟩) T.length ci)∧w.cell? ⟨bs,3,none⟩=some (.bool b)∧w.cell? ⟨bs,4,none⟩=some vF:=by
 refine⟨?_,?_,?_,?_,?_⟩<;>exact(Aq w bs _ _ _ (0,0) h.row).trans rfl
theorem II.XV {w:World}{bs bp op bg gi ci B:Nat}{T Q:Tw}{b:Bool}{Aa:List Nat}{F:List (List Nat)}{vF:Value}(h:II w bs bp op bg gi ci B T Q b Aa F vF):pY w bs bp op bg gi ci T Q Aa:=
 ⟨Ad h.hbs h.hB,h.cells.1,h.cells.2.1,h.cells.2.2.1,h.pre.mono (fun _ _=>trivial),Cv.mono h.tab (fun _ _=>trivial),h.len,h.slI⟩
theorem II.below {w w':World}{bs bp op bg gi ci B:Nat}{T Q:Tw}{b:Bool}{Aa:List Nat}{F:List (List Nat)}{vF:Value}(h:II w bs bp op bg gi ci B T Q b Aa F vF)(hb:Below w.heap.size w w'):II w' bs bp op bg gi ci B T Q b Aa F vF:=
 ⟨h.hbs,h.hgi,h.hne,Ab h.hB hb.size,by rw[hb.block _ (Ad h.hbs h.hB)];exact h.row,h.pre.keep (AA.of_below hb),h.tab.keep (AA.of_below hb),h.len,BM h.Aa (S:=Any) (AA.of_below hb) (fun _ _=>trivial),h.Yv.of_below hb⟩
def Pj (A B bs gi:Nat)(w w':World):Prop:=Below A w w'∧AA (Sx B bs gi) w w'
def vV (A bs bp op bg gi ci B:Nat)(T Q:Tw)(b:Bool)(F G:List (List Nat))(k:Nat)(im:List Nat)(w:World)(e:Ending)(w':World):Prop:=
 e= .returned (.tuple #[])∧∃E5 JV,II w' bs bp op bg gi ci B T Q b E5 (F++G) JV∧E5.drop k=im∧(∀y∈E5,y<sz Q)∧Pj A B bs gi w w'
theorem ABV {B bs:Nat}{w w':World}(hb:bs<B∧B≤w.heap.size)(h:AA (· <B) w w'):(∀o,w'.cell? ⟨bs,o,none⟩=w.cell? ⟨bs,o,none⟩)∧(∀o,w'.frozen? ⟨bs,o,none⟩=w.frozen? ⟨bs,o,none⟩)∧AA (· <B) w w':=
 ⟨fun o=>h.cell hb.1 (Ad hb.1 hb.2),fun o=>World.frozen?_of_block (h.block bs hb.1 (Ad hb.1 hb.2)),h⟩
theorem AHA {w:World}{bs:Nat}{cs:Array Value}{t:TypeId}(h:w.heap[bs]?=some (.cells cs t))(j:Nat)(v:Value):(w.setCell ⟨bs,j,none⟩ v).heap[bs]?=some (.cells (cs.setIfInBounds j v) t):=by
 rw[Ho w bs j cs t v h]
theorem AF5 {w w':World}{e:TypeId}{B g n c:Nat}{xs:List Value}(h:w.ownsRow B e 1 (.slice (some ⟨g,0,none⟩) n c) n xs)(hb:w'.heap[g]?=w.heap[g]?):w'.ownsRow B e 1 (.slice (some ⟨g,0,none⟩) n c) n xs:=by
 refine⟨h.1,?_⟩;rcases h.2 with hn|⟨g',cap,cur,he,hb',hgg,rest⟩
 ·exact .inl hn
 ·obtain⟨rfl,rfl⟩:g=g'∧c=cap:=by simpa using he
  exact .inr ⟨g,c,cur,rfl,hb',by rw[hb];exact hgg,rest⟩
theorem AEc {A:Nat}{T Q:Tw}{w w6:World}{bs bp op bg gi ci B:Nat}{b:Bool}{Aa:List Nat}{F:List (List Nat)}{vF v':Value}(h:II w bs bp op bg gi ci B T Q b Aa F vF)(hA:A≤bs∧A≤gi)(hin:∀y∈Aa,y<sz Q)
  (SF:Below A w w6) (hN:Own2 91 3 B w6 v' (F++[Aa])) (hk:AA (· <B) w w6):vV A bs bp op bg gi ci B T Q b F [Aa] 0 Aa w (.returned (.tuple #[])) (w6.setCell ⟨bs,4,none⟩ v'):=by
 have hbs:=Ad h.hbs h.hB;have vW:AA (Sx B bs gi) w (w6.setCell ⟨bs,4,none⟩ v'):=(hk.mono (fun k (hk:Sx B bs gi k)=>hk.1)).setCell (by simp[Sx]) _;refine⟨rfl,Aa,v',⟨h.hbs,h.hgi,h.hne,by have:=hk.size;have:=h.hB;simp;omega,?_,h.pre.keep vW,h.tab.keep vW,h.len,?_,?_⟩,rfl,hin,SF.setCell (by simp;exact hA.1) _,vW⟩
 ·have h1:w6.heap[bs]?=_:=(hk.block bs h.hbs hbs).trans h.row;exact AHA h1 4 v'
 ·refine AF5 h.Aa ?_;have h2:(w6.setCell ⟨bs,4,none⟩ v').heap[gi]?=w6.heap[gi]?:=Below.heap_setCell _ _ _ gi (fun e=>h.hne e.symm);rw[h2];exact hk.block gi h.hgi (Ad h.hgi h.hB)
 ·exact hN.keep (S:=(B≤ ·)) (AB.setCell (by simp;exact h.hbs) _) (fun k hk=>hk)
theorem AD9 (A:Nat)(T Q:Tw)(hs:T.length≤6)(hQ:Wf Q)(hz:sz Q≤27)(w:World)(bs bp op bg gi ci B:Nat)(b:Bool)(Aa:List Nat)(F:List (List Nat))(vF:Value)(M:Nat)
  (h:II w bs bp op bg gi ci B T Q b Aa F vF) (hA:A≤bs∧A≤gi) (hF:F.length≤1000000000) (hin:∀y∈Aa,y<sz Q):
  Calls Tryz.prog 66 #[.pointer (some ⟨bs,0,none⟩),.int .i64 (-1),.int .u64 (M:Int)] w (vV A bs bp op bg gi ci B T Q b F [Aa] 0 Aa w):=by
 obtain⟨i0,hi,hz0,hz1,hz2⟩:=CO ABB;obtain⟨q0,q1,q2,q3,q4⟩:=h.cells;have z4:w.frozen? ⟨bs,4,none⟩=false:=BP w bs 4 _ _ h.row;have HI:=hid h;have hbw:=Ad h.hbs h.hB;have Fp:=hid (fun W (hW:AL Any W (.slice (some ⟨gi,0,none⟩) T.length ci) (ints Aa))=>AEb W ⟨gi,0,none⟩ T.length ci Aa hW (by rw[h.len];omega));have Kb:=hid hin;have HA:=hid hA;have HF:=hid hF;obtain⟨us,hu1,hu2,hu4⟩:=h.Yv;have HU:=hid (And.intro hu1 (And.intro hu2 hu4));have hBw:=h.hB;have ADG:bs<B∧B≤w.heap.size:=⟨h.hbs,h.hB⟩;have hvB:∀k,k<B→some k≠vF.ownBlock:=fun k hk e=>by have:=(BH hu1 k e.symm).1;omega
 clear h hin hA hF hz hu1 hu2 hu4;go_enter Tryz.func66,Tryz.ntmps66;go_upto_region 1 with fail;go_region_law
  (first|(go_simp;go_at_call 119;refine(Fp.out _ (HI.out.slI.keep (by first|exact AB.drew|exact AA.refl _ _))).mono ?_;rintro e w5 ⟨v5,rfl,⟨⟨g5,c5,rfl⟩,Ll⟩,hb5⟩;obtain⟨kc5,kf5,kk5⟩:=ABV ADG (by first|exact AA.trans (AB.drew) (AA.of_below hb5)|exact AA.of_below hb5:AA (· <B) w w5);have Xe:=(kc5 4).trans q4;have AMP:bs<w5.heap.size:=Ad hbw (by exact hb5.size))|(refine Ot _ (by rfl) _ _ _ (by rfl) B 91 i0 (.slice none 0 0) 1 24 Tryz.underlying59 hi hz0 hz1 hz2 rfl (by omega) vF F.length us (by rfl) ((BM HU.out.1 (S:=Any) (by first|exact AA.trans (AB.drew) (AA.of_below hb5)|exact AA.of_below hb5) (fun _ _=>trivial)).alloc _) ⟨w5.heap.size,0,none⟩ 1 1 [.slice (some ⟨g5,0,none⟩) Aa.length c5] (by rfl) (by rfl) (Ea (cs:= #[.slice (some ⟨g5,0,none⟩) Aa.length c5]) (t:=91) (fr:=(0,0)) (Av w5 _)) (by simp[Value.oneCell']) (by omega) (by have:=HF.out;unfold maxLen;omega) (by have:=HF.out;omega) (by have:=hb5.size;simp;exact Nat.le_succ_of_le (Ab hBw hb5.size)) _ rfl ?_;intro gg cap w6 hown6 Zx QH QI;obtain⟨kc6,kf6,kk6⟩:=ABV ADG (AA.trans ((by first|exact AA.trans (AB.drew) (AA.of_below hb5)|exact AA.of_below hb5:AA (· <B) w w5).alloc _) (AA.grown Zx hvB));have k46:=(kc6 4).trans q4;have z46:=(kf6 4).trans z4))
 all_goals
  have O9:Below w.heap.size w w5:=by first|exact hb5|exact(AR.drew).trans hb5
  have AMQ:=O9.size;have hA1:=HA.out.1;have Ao:=hid (show Below A w w6 from((O9.mono (by omega)).alloc (by omega) _).grown Zx (by simp;omega) (fun k hk=>by have:=(BH HU.out.1 k hk).1;omega));have rJ:=hid (show Own2 91 3 B w6 (.slice (some ⟨gg,0,none⟩) (F.length+1) cap) (F++[Aa]) from
   Own2.push (w:=w5.alloc _) (us:=us) (by decide) rfl ((BM HU.out.1 (S:=Any) (AA.of_below O9) (fun _ _=>trivial)).alloc _) HU.out.2.1 (fun i r u hr hu=>(HU.out.2.2 i r u hr hu).keep (S:=Any) ((AA.of_below O9).alloc _) (fun _ _=>trivial)) (CL.keep (S:=Any) ⟨⟨g5,c5,rfl⟩,EX Ll (by first|exact hBw|exact Ab hBw AQ)⟩ (AB.alloc _) (fun _ _=>trivial)) hown6 Zx)
  have Qt:=hid kk6;clear hown6 Zx Ll hb5 kc5 kf5 kk5 kc6 kf6 kk6 Xe O9 k46 z46;go_wp2_with fail;exact Am (v:=.tuple #[]) (by simp[results,Tryz.results66,go_sem]) rfl (AEc HI.out HA.out Kb.out Ao.out rJ.out Qt.out)
end Go.Proofs.YtlmlamcoeegkbaaGreat.mP
namespace Go.Proofs.YtlmlamcoeegkbaaGreat.ABW
open Go.RowKit Go.Proofs.YtlmlamcoeegkbaaGreat AJ CV MU IM JD Ox RP ay mP MS Grow
def vX (Q T:Tw)(im:List Nat)(M:Nat):Prop:=M<2^32∧∀c,M.testBit c=true↔G7 Q T im c
theorem AHB {w:World}{bs bp op bg gi ci B:Nat}{T Q:Tw}{b:Bool}{Aa:List Nat}{F:List (List Nat)}{vF:Value}(h:II w bs bp op bg gi ci B T Q b Aa F vF)(i x:Nat):
  II (w.setCell ⟨gi,i,none⟩ (.int .i64 (x:Int))) bs bp op bg gi ci B T Q b (Aa.set i x) F vF:=by
 have hk:AA (Sx B bs gi) w (w.setCell ⟨gi,i,none⟩ (.int .i64 (x:Int))):=AB.setCell (by simp[Sx]) _;refine⟨h.hbs,h.hgi,h.hne,by simpa using h.hB,?_,h.pre.keep hk,h.tab.keep hk,by simpa using h.len,?_,?_⟩
 ·rw[DT _ _ _ _ h.hne];exact h.row
 ·have h1:=(Py h.Aa i (.int .i64 (x:Int))).1;rw[y7,ints_set]at h1;exact h1
 ·exact h.Yv.keep (S:=(B≤ ·)) (AB.setCell (by simp;exact h.hgi) _) (fun k hk=>hk)
theorem AEd {w:World}{bs bp op bg gi ci B:Nat}{T Q:Tw}{b:Bool}{Aa:List Nat}{F:List (List Nat)}{vF:Value}(h:II w bs bp op bg gi ci B T Q b Aa F vF){i:Nat}(hi:i<T.length):
  ∃y:Nat,w.cell? ⟨gi,i,none⟩=some (.int .i64 (y:Int))∧w.frozen? ⟨gi,i,none⟩=false:=by
 have hl:=h.len;obtain⟨y,hy⟩:∃y,Aa[i]?=some y:=⟨_,AP (by omega)⟩;refine⟨y,?_,WH h.Aa i⟩;rw[Ma h.Aa i (by omega)];simp[vals,ints,hy]
theorem drop_set {l:List Nat}{i x:Nat}(h:i<l.length):(l.set i x).drop i=x::l.drop (i+1):=by
 rw[EZ (by simpa using h),List.getElem_set_self,List.drop_set_of_lt (Nat.lt_succ_self i)]
def We (A bs bp op bg gi ci B:Nat)(T Q:Tw)(b:Bool)(F:List (List Nat))(i:Nat)(im:List Nat)(x:Nat)(w wr:World):Prop:=
 ∃E5 JV,II wr bs bp op bg gi ci B T Q b E5 (F++FJ Q T i im x) JV∧(b=true→FJ Q T i im x=[])∧E5.drop (i+1)=im∧(∀y∈E5,y<sz Q)∧Pj A B bs gi w wr
theorem Pj.below {A B bs gi:Nat}{w w1 w2:World}(h:Pj A B bs gi w w1)(hA:A≤w1.heap.size)(hb:Below w1.heap.size w1 w2):Pj A B bs gi w w2:=
 ⟨h.1.trans (hb.mono hA),h.2.trans (AA.of_below hb)⟩
theorem We.no {A bs bp op bg gi ci B:Nat}{T Q:Tw}{b:Bool}{F:List (List Nat)}{i:Nat}{im:List Nat}{x:Nat}{w wr w1:World}(h:We A bs bp op bg gi ci B T Q b F i im x w wr)(hA:A≤bs)
  (hn:¬(¬G7 Q (T.drop (i+1)) im x∧Fits Q (T.getD i ⟨0,[],[]⟩) im x)) (hb:Below wr.heap.size wr w1):We A bs bp op bg gi ci B T Q b F i im (x+1) w w1:=by
 obtain⟨E5,JV,h1,h2,h3,h4,h5⟩:=h;refine⟨E5,JV,?_,?_,h3,h4,Pj.below h5 (by have:=h1.hbs;have:=h1.hB;omega) hb⟩
 ·rw[ZJ hn];exact h1.below hb
 ·rw[ZJ hn];exact h2
theorem AEe (A:Nat)(T Q:Tw)(hT:Wf T)(hs:Small T)(hQ:Wf Q)(hz:sz Q≤27)(bs bp op bg gi ci B:Nat)(b:Bool)(hA:A≤bs∧A≤gi):∀k,k≤T.length→∀(w:World) (Aa:List Nat) (F:List (List Nat)) (vF:Value) (M:Nat),
  II w bs bp op bg gi ci B T Q b Aa F vF→(∀y∈Aa,y<sz Q)→vX Q (T.drop k) (Aa.drop k) M→F.length+27^k≤1000000000→(b=true→F=[])→
  Calls Tryz.prog 66 #[.pointer (some ⟨bs,0,none⟩),.int .i64 ((k:Int)-1),.int .u64 (M:Int)] w (vV A bs bp op bg gi ci B T Q b F (KY b (grow Q T k (Aa.drop k))) k (Aa.drop k) w):=by
 intro k
 induction k with
 |zero=>
  intro _ w Aa F vF M h hin hM hF hb;have hc:=AD9 A T Q hs.1 hQ hz w bs bp op bg gi ci B b Aa F vF M h hA (by omega) hin;have e:KY b (grow Q T 0 (Aa.drop 0))=[Aa]:=by cases b<;>rfl
  rw[e];exact hc
 |succ i ih=>
  intro hk w Aa F vF M h hin hM hF hb;obtain⟨L,hL⟩:∃L,T[i]?=some L:=⟨_,AP (by omega)⟩;have hil:i<T.length:=by omega
  have hLo:L.o≤1000:=by have:=hs.2 L (Ar hL);omega
  have NP:=hid (show T.getD i ⟨0,[],[]⟩=L by rw[Bg,hL];rfl);have HIH:=hid (ih (by omega));obtain⟨im,him⟩:∃im,im=Aa.drop (i+1):=⟨_,rfl⟩;rw[←him]at hM ⊢;have ADH:=hid (fun W E5 x (hS:pY W bs bp op bg gi ci T Q E5) hx hin'=>AF2 T Q hT hs hQ (by omega) W bs bp op bg gi ci E5 i x L hL hS hx hin');have AKV:=hid (fun W (hG:Cv Any W bg Q) x hx=>AEY Q hQ hz W bg hG M x L.o ⟨hM.1,fun c hc=>Zu hQ ((hM.2 c).1 hc)⟩ hx hLo);have hpos:=F8 hQ;obtain⟨q0,q1,q2,q3,q4⟩:=h.cells;obtain⟨gt,ot,ct,hgl,hct,dY,_⟩:=h.XV.tab.open hpos;have H0:Hid (We A bs bp op bg gi ci B T Q b F i im 0 w w):=hid ⟨Aa,vF,by rw[jT,LM];exact h,fun _=>jT _ _ _ _,him.symm,hin,Ag _ _,AA.refl _ _⟩;have HM:=hid hM;have HF:=hid hF;have E9:=hid hb;have jB:=hid hA;have HL:=hid hL;have HQ:=hid hQ;have HS:=hid hs;have hii:(((i+1:Nat):Int)-1)=(i:Int):=by omega
  rw[hii];clear ih h hin hM hF hb him hLo hii hA hL hQ hs hT q0 q2 q3 q4;go_enter Tryz.func66,Tryz.ntmps66;go_wp2_with fail;go_loopw [31] (fun iv wr=>∃x:Nat,x≤sz Q∧iv= .int .i64 (x:Int)∧Hid (We A bs bp op bg gi ci B T Q b F i im x w wr)) (fun iv _=>sz Q-(intOf iv).toNat);case atStart=>exact⟨0,AU _,rfl,H0⟩
  case round=>
   obtain⟨x,hx,rfl,hR⟩:=hrel;clear q1 dY;by_cases hlt:x<sz Q
   ·have hd:decide ((x:Int)<(sz Q:Int))=true:=by simp;omega
    have h1:=Mask.test_eq M x (by omega) HM.out.1;cases hb:M.testBit x with
    |true=>
     have EC:=hid hb;rw[hb]at h1;clear hb;go_wp2_with fail;go_roundw;case rel=>exact⟨x+1,by omega,by go_num,hid (hR.out.no jB.out.1 (fun hh=>hh.1 ((HM.out.2 x).1 EC.out)) AR)⟩
     case measure=>simp[intOf];omega
    |false=>
     have EC:=hid hb;rw[hb]at h1;clear hb;by_cases hfit:Fits Q L im x
     ·have Jt:=hid hfit;clear hfit;obtain⟨E5,JV,hI,hnb,hdr,hin',hch⟩:=hR.out;have HI:=hid hI;have Ld:=hid hnb;have HDR:=hid hdr;have dZ:=hid hin';have SE:=hid hch;clear hI hnb hdr hin' hch;go_wp2_with fail;refine(ADH.out wr E5 x HI.out.XV hlt dZ.out).mono ?_;rintro e w1 ⟨r,rfl,hr,hb1⟩;obtain rfl:=hr.2 (by rw[HDR.out];exact Jt.out);obtain⟨r0,r1,r2,r3,r4⟩:=(HI.out.below hb1).cells;obtain⟨y0,s1,f1⟩:=AEd (HI.out.below hb1) hil;have HI1:=hid (HI.out.below hb1);have pg:=hid (Pj.below SE.out (by have:=HI.out.hbs;have:=HI.out.hB;have:=jB.out;omega) hb1);clear hb1 hr;go_upto_region 7 with fail;clear r0 r1 r2 r3 r4 s1 f1;have HI2:=hid (AHB HI1.out i x);have pq:Hid (Pj A B bs gi w (w1.setCell ⟨gi,i,none⟩ (.int .i64 (x:Int)))):=hid ⟨pg.out.1.setCell (by simp;exact jB.out.2) _,pg.out.2.setCell (by simp[Sx]) _⟩;generalize w1.setCell ⟨gi,i,none⟩ (.int .i64 (x:Int))=w2 at HI2 pq ⊢;clear HI1 pg HI SE;obtain⟨r0,r1,r2,r3,r4⟩:=HI2.out.cells;obtain⟨_,hbp,vO,vP,vC,hp0,hp1,hp2,hV⟩:=HI2.out.XV.pre;obtain⟨aO,cO,aP,cP,aC,cC,rfl,rfl,rfl,Er,hP1,FP⟩:=hV.open;obtain⟨bO,oO,rfl,_,Ch,Bc⟩:=hV.ord HL.out;have hlen':i<E5.length:=by have:=HI2.out.len;simp at this;omega
      have Yw:=hid (show(E5.set i x).drop i=x::im by rw[drop_set hlen',HDR.out]);have AKW:Hid (∀y∈E5.set i x,y<sz Q):=hid (fun y hy=>by
       rcases List.mem_or_eq_of_mem_set hy with h|h
       ·exact dZ.out y h
       ·rw[h];exact hlt)
      have AKX:Hid (∀O,O<2^32→(∀c,O.testBit c=true↔∃j,j<L.o∧∃s,s<sz Q∧M.testBit s=true∧it (pr Q x) j s=c)→vX Q (T.drop i) ((E5.set i x).drop i) O):=hid (fun O h1 h2=>⟨h1,fun c=>by
       rw[h2 c,Yw.out,FZ HL.out];constructor
       ·rintro⟨j,hj,s,_,hs,e⟩;exact⟨j,hj,s,(HM.out.2 s).1 hs,e⟩
       ·rintro⟨j,hj,s,hs,e⟩;exact⟨j,hj,s,Zu HQ.out hs,(HM.out.2 s).2 hs,e⟩⟩)
      have iQ:Hid ((F++FJ Q T i im x).length+27^i≤1000000000):=hid (by
       have h1:=xA Q T hz i (jR Q T hz i) im x;have h2:F.length+27*27^i≤1000000000:=by have h:=HF.out;rw[LC,Mg (27^i)]at h;exact h
       have h3:(x+1)*27^i≤27*27^i:=Nn _ (by omega);rw[Nat.add_mul,Nat.one_mul]at h3;rw[Cm];refine Ab ?_ h2;rw[Nat.add_assoc];exact Nat.add_le_add_left (Ab (Nat.add_le_add_right h1 _) h3) _)
      have HBE:Hid (b=true→F++FJ Q T i im x=[]):=hid (fun e=>by rw[E9.out e,Ld.out e];rfl);have hs6:=HS.out.1;have hw8:IntKind.i64.wrap ((i:Int)-1)=(i:Int)-1:=AY _ (by omega);clear hV hp1 hp2 Er hP1 FP r2 r3 r4 h1;go_region_law
       (first|(go_simp;go_at_call 121;refine(AKV.out _ (HI2.out.XV.tab.keep (by first|exact AB.drew|exact AA.refl _ _)) x hlt).mono ?_;rintro e w4 ⟨O,rfl,Er,hO2,rfl⟩)|(go_simp;go_at_call 66;refine(HIH.out _ (E5.set i x) (F++FJ Q T i im x) JV O (HI2.out.below (by first|exact AR.drew|exact Ag _ _)) AKW.out (AKX.out O Er hO2) iQ.out HBE.out).mono ?_;rintro e w5 ⟨rfl,pz,vF5,Xf,hd5,ADI,Yx⟩))
      all_goals
       have Mq:=hid (show Pj A B bs gi w w5 from⟨pq.out.1.trans (by first|exact Yx.1|exact(AR.drew).trans Yx.1),pq.out.2.trans (by first|exact Yx.2|exact(AB.drew).trans Yx.2)⟩);have JI:=hid Xf;have HD5:=hid (hd5.trans Yw.out);have vY:=hid ADI;rw[Yw.out]at JI;obtain⟨t0,t1,t2,t3,t4⟩:=Xf.cells;obtain⟨a5,c5,rfl,_,_⟩:=Xf.Yv.form;clear Xf hd5 ADI Yx r0 r1 hp0 Bc t0 t1 t2;have OX:=hid (show¬G7 Q (T.drop (i+1)) im x∧Fits Q (T.getD i ⟨0,[],[]⟩) im x from⟨fun h=>by have:=(HM.out.2 x).2 h;rw[EC.out]at this;exact Bool.noConfusion this,by rw[NP.out];exact Jt.out⟩);rw[Yw.out]at t4;generalize hN5:(F++FJ Q T i im x++KY b (grow Q T i (x::im))).length=N5 at t4;have ADJ:=hid hN5;clear hN5;cases b with
       |false=>
        go_wp2_with fail;go_roundw;case rel=>exact⟨x+1,by omega,by go_num,hid ⟨pz,_,by rw[TP OX.out,←JF];exact JI.out,fun h=>Bool.noConfusion h,by rw[←FM,HD5.out];rfl,vY.out,Mq.out⟩⟩
        case measure=>simp[intOf];omega
       |true=>
        have TG:=E9.out rfl;have hG0:=Ld.out rfl;by_cases hG:grow Q T i (x::im)=[]
        ·have hlen:(F++FJ Q T i im x++KY true (grow Q T i (x::im))).length=0:=by rw[TG,hG0,hG];rfl
         have Jr:=hid hG;have Jn:=hid hG0;obtain rfl:N5=0:=by rw[←ADJ.out];exact hlen
         clear hlen hG TG hG0;go_wp2_with fail;go_roundw;case rel=>exact⟨x+1,by omega,by go_num,hid ⟨pz,_,by
          have e:F++FJ Q T i im (x+1)=F++FJ Q T i im x++KY true (grow Q T i (x::im)):=by rw[TP OX.out,Jr.out];simp[KY]
          rw[e];exact JI.out,fun _=>by rw[TP OX.out,Jr.out,Jn.out];rfl,by rw[←FM,HD5.out];rfl,vY.out,Mq.out⟩⟩
         case measure=>simp[intOf];omega
        ·have mQ:0<(F++FJ Q T i im x++KY true (grow Q T i (x::im))).length:=by
          rw[TG,hG0];cases hgr:grow Q T i (x::im)with
          |nil=>exact absurd hgr hG
          |cons a l=>simp[KY]
         rw[ADJ.out]at mQ;have hgt:decide ((N5:Int)>0)=true:=by simp only[bD];omega
         have hgt2:decide (0<N5)=true:=by simp only[bD];omega
         have C9:=hid mQ;have Jr:=hid hG;have Jn:=hid hG0;clear mQ hG TG hG0;go_wp2_with fail;refine Am (v:=.tuple #[]) (by simp[results,Tryz.results66,go_sem]) rfl ⟨rfl,pz,.slice a5 (F++FJ Q T i im x++KY true (grow Q T i (x::im))).length c5,?_,by rw[←FM,HD5.out];rfl,vY.out,Mq.out⟩;have h:=JI.out;rw[Yw.out]at h;have e:KY true (grow Q T (i+1) im)=FJ Q T i im x++KY true (grow Q T i (x::im)):=by
          obtain⟨r,hr⟩:=AEZ Q T i im (show x+1≤sz Q by omega);rw[←je,hr,TP OX.out,Jn.out,List.nil_append,List.nil_append];cases hgr:grow Q T i (x::im)with
          |nil=>exact absurd hgr Jr.out
          |cons a l=>simp[KY]
         rw[e,←JF];exact h
     ·have Jt:=hid hfit;clear hfit;obtain⟨E5,JV,hI,hnb,hdr,hin',hch⟩:=hR.out;have HI:=hid hI;have HDR:=hid hdr;have dZ:=hid hin';clear hI hnb hdr hin' hch;go_wp2_with (go_at_call 120;refine(ADH.out wr E5 x HI.out.XV hlt dZ.out).mono ?_;rintro e w1 ⟨r,rfl,hr,hb1⟩;obtain rfl:=(Bool.eq_false_iff.2 (fun hh=>Jt.out (by have:=hr.1 hh;rwa[HDR.out]at this)));replace hb1:=hid hb1;clear hr);go_roundw;case rel=>exact⟨x+1,by omega,by go_num,hid (hR.out.no jB.out.1 (fun hh=>Jt.out (by have:=hh.2;rwa[NP.out]at this)) hb1.out)⟩
      case measure=>simp[intOf];omega
   ·obtain rfl:x=sz Q:=by omega
    have hd:decide ((sz Q:Int)<(sz Q:Int))=false:=by simp
    go_wp2_with fail;go_end0;obtain⟨E5,JV,h1,h2,h3,h4,h5⟩:=hR.out;refine⟨rfl,E5,JV,?_,h3,h4,h5⟩;rw[je]at h1 h2;cases b with
    |false=>exact h1
    |true=>have e:=h2 rfl;rw[e]at h1 ⊢; exact h1
end Go.Proofs.YtlmlamcoeegkbaaGreat.ABW
namespace Go.Proofs
open Go.Shelf
def Tryz.AHC:Go.Shelf.Ren:=⟨fun|6=>67|15=>123|14=>122|28=>174|29=>175|20=>166|21=>167|22=>168|23=>169|24=>170|25=>171|26=>172|27=>173|46=>197|47=>198|48=>199|49=>200|50=>201|57=>223|n=>n,fun|22=>59|24=>91|25=>108|3=>3|39=>84|0=>0|53=>201|55=>47|4=>4|46=>195|45=>194|50=>121|5=>5|9=>9|66=>219|70=>223|76=>241|77=>242|n=>n,fun|n=>n⟩
theorem Tryz.vZ:Go.Proofs.SlLaysF.n6 Tryz.prog Tryz.AHC:={
 mixed:=by kernel_rfl
 f6:=⟨Tryz.f67.name,by decide,Tryz.func67.trans (congrArg some (by kernel_rfl))⟩
 f14:=⟨Tryz.f122.name,by decide,Tryz.func122.trans (congrArg some (by kernel_rfl))⟩
 f15:=Tryz.func123.trans (congrArg some (by kernel_rfl))
 f20:=⟨Tryz.f166.name,by decide,Tryz.func166.trans (congrArg some (by kernel_rfl))⟩
 f21:=⟨Tryz.f167.name,by decide,Tryz.func167.trans (congrArg some (by kernel_rfl))⟩
 f22:=⟨Tryz.f168.name,by decide,Tryz.func168.trans (congrArg some (by kernel_rfl))⟩
 f23:=⟨Tryz.f169.name,by decide,Tryz.func169.trans (congrArg some (by kernel_rfl))⟩
 f24:=⟨Tryz.f170.name,by decide,Tryz.func170.trans (congrArg some (by kernel_rfl))⟩
 f25:=⟨Tryz.f171.name,by decide,Tryz.func171.trans (congrArg some (by kernel_rfl))⟩
 f26:=⟨Tryz.f172.name,by decide,Tryz.func172.trans (congrArg some (by kernel_rfl))⟩
 f27:=⟨Tryz.f173.name,by decide,Tryz.func173.trans (congrArg some (by kernel_rfl))⟩
 f28:=Tryz.func174.trans (congrArg some (by kernel_rfl))
 f29:=Tryz.func175.trans (congrArg some (by kernel_rfl))
 f46:=⟨Tryz.f197.name,by decide,Tryz.func197.trans (congrArg some (by kernel_rfl))⟩
 f47:=Tryz.func198.trans (congrArg some (by kernel_rfl))
 f48:=Tryz.func199.trans (congrArg some (by kernel_rfl))
 f49:=⟨Tryz.f200.name,by decide,Tryz.func200.trans (congrArg some (by kernel_rfl))⟩
 f50:=⟨Tryz.f201.name,by decide,Tryz.func201.trans (congrArg some (by kernel_rfl))⟩
 f57:=⟨Tryz.f223.name,by decide,Tryz.func223.trans (congrArg some (by kernel_rfl))⟩
 t0:=Tryz.underlying0
 a0:=Tryz.isAgg0
 z0:=Tryz.sizeOf0
 v0:=Tryz.zeroValue0
 t3:=Tryz.underlying3
 a3:=Tryz.isAgg3
 z3:=Tryz.sizeOf3
 v3:=Tryz.zeroValue3
 t4:=Tryz.underlying4
 a4:=Tryz.isAgg4
 z4:=Tryz.sizeOf4
 v4:=Tryz.zeroValue4
 t5:=Tryz.underlying5
 a5:=Tryz.isAgg5
 z5:=Tryz.sizeOf5
 v5:=Tryz.zeroValue5
 t9:=Tryz.underlying9
 a9:=Tryz.isAgg9
 z9:=Tryz.sizeOf9
 v9:=Tryz.zeroValue9
 t22:=Tryz.underlying59
 a22:=Tryz.isAgg59
 z22:=Tryz.sizeOf59
 v22:=Tryz.zeroValue59
 a24:=Tryz.isAgg91
 z24:=Tryz.sizeOf91
 t25:=Tryz.underlying108
 a25:=Tryz.isAgg108
 z25:=Tryz.sizeOf108
 v25:=Tryz.zeroValue108
 t39:=Tryz.underlying84
 a39:=Tryz.isAgg84
 z39:=Tryz.sizeOf84
 v39:=Tryz.zeroValue84
 t45:=Tryz.underlying194
 a45:=Tryz.isAgg194
 z45:=Tryz.sizeOf194
 v45:=Tryz.zeroValue194
 t46:=Tryz.underlying195
 a46:=Tryz.isAgg195
 z46:=Tryz.sizeOf195
 v46:=Tryz.zeroValue195
 t50:=Tryz.underlying121
 a50:=Tryz.isAgg121
 z50:=Tryz.sizeOf121
 v50:=Tryz.zeroValue121
 t53:=Tryz.underlying201
 a53:=Tryz.isAgg201
 z53:=Tryz.sizeOf201
 v53:=Tryz.zeroValue201
 t55:=Tryz.underlying47
 a55:=Tryz.isAgg47
 z55:=Tryz.sizeOf47
 v55:=Tryz.zeroValue47
 t66:=Tryz.underlying219
 a66:=Tryz.isAgg219
 z66:=Tryz.sizeOf219
 v66:=Tryz.zeroValue219
 t70:=Tryz.underlying223
 a70:=Tryz.isAgg223
 z70:=Tryz.sizeOf223
 v70:=Tryz.zeroValue223
 t76:=Tryz.underlying241
 a76:=Tryz.isAgg241
 z76:=Tryz.sizeOf241
 v76:=Tryz.zeroValue241
 t77:=Tryz.underlying242
 a77:=Tryz.isAgg242
 z77:=Tryz.sizeOf242
 v77:=Tryz.zeroValue242 }
end Go.Proofs
namespace Go.Proofs.YtlmlamcoeegkbaaGreat.vg
open Go.RowKit Go.Proofs.YtlmlamcoeegkbaaGreat AJ
def ER (x y:Nat):Int:=if x<y then -1 else if y<x then 1 else 0
def cmpL:List Nat→List Nat→Int
 |a::x,b::y=>if a<b then -1 else if b<a then 1 else cmpL x y
 |_,_=>0
theorem RB (x:Nat)(w:World):Calls Tryz.prog 176 #[.int .i64 (x:Int)] w fun e w'=>e= .returned (.bool false)∧w=w':=by
 go_enter Tryz.func176,Tryz.ntmps176;go_wp2_with fail;go_ret;exact⟨by simp,rfl⟩
theorem lF (x y:Nat)(w:World):Calls Tryz.prog 124 #[.int .i64 (x:Int),.int .i64 (y:Int)] w fun e w'=>e= .returned (.int .i64 (ER x y))∧w=w':=by
 rcases RH x y with h|h|h
 ·have h1:decide ((x:Int)<(y:Int))=true:=by simp;omega
  have HC:=hid (show ER x y= -1 by simp[ER,h]);go_enter Tryz.func124,Tryz.ntmps124;go_wp2_with (go_at_call 176;refine(RB _ _).mono ?_;rintro e w' ⟨rfl,rfl⟩);go_ret;exact⟨by rw[HC.out];rfl,rfl⟩
 ·subst h;have h1:decide ((x:Int)<(x:Int))=false:=by simp
  have HC:=hid (show ER x x=0 by simp[ER]);go_enter Tryz.func124,Tryz.ntmps124;go_wp2_with (go_at_call 176;refine(RB _ _).mono ?_;rintro e w' ⟨rfl,rfl⟩);go_ret;exact⟨by rw[HC.out];rfl,rfl⟩
 ·have h1:decide ((x:Int)<(y:Int))=false:=by simp;omega
  have h2:decide ((x:Int)>(y:Int))=true:=by simp;omega
  have HC:=hid (show ER x y=1 by simp[ER,h];omega);go_enter Tryz.func124,Tryz.ntmps124;go_wp2_with (go_at_call 176;refine(RB _ _).mono ?_;rintro e w' ⟨rfl,rfl⟩);go_ret;exact⟨by rw[HC.out];rfl,rfl⟩
theorem AFG {x y:List Nat}{k a b:Nat}(ha:x[k]?=some a)(hb:y[k]?=some b):cmpL (x.drop k) (y.drop k)=if a<b then -1 else if b<a then 1 else cmpL (x.drop (k+1)) (y.drop (k+1)):=by
 have h1:=Ak.1 ha;have h2:=Ak.1 hb;rw[EZ h1.1,EZ h2.1,h1.2,h2.2];rfl
theorem AEA (w:World)(vx vy:Value)(x y:List Nat)(hx:AL (fun _=>True) w vx (ints x))(hy:AL (fun _=>True) w vy (ints y))(hl:x.length=y.length):
  Calls Tryz.prog 68 #[vx,vy] w fun e w'=>e= .returned (.int .i64 (cmpL x y))∧w=w':=by
 have hm:(x.length:Int)≤9223372036854775807:=by
  obtain⟨_,_,_,h1,h2,_⟩:=hx;rw[A7]at h1;unfold maxLen at h2;omega
 obtain⟨aX,cX,rfl,hcx⟩:=hx.open;obtain⟨aY,cY,rfl,hcy⟩:=hy.open;rw[←hl]at hcy hy ⊢;have HX:=hid hx;have HY:=hid hy;have HL:=hid hl;clear hx hy hl;go_enter Tryz.func68,Tryz.ntmps68;go_wp2_with fail;go_loop [11] (fun iv=>∃k:Nat,k≤x.length∧iv= .int .i64 (k:Int)∧Hid (cmpL (x.drop k) (y.drop k)=cmpL x y)) (fun iv=>x.length-(intOf iv).toNat);case atStart=>exact⟨0,AU _,rfl,hid rfl⟩
 case round=>
  obtain⟨k,hk,rfl,hR⟩:=hrel;by_cases hlt:k<x.length
  ·obtain⟨a,ha⟩:∃a,x[k]?=some a:=⟨_,AP hlt⟩;obtain⟨c,hc⟩:∃c,y[k]?=some c:=⟨_,AP (by rw[←HL.out];exact hlt)⟩;obtain⟨bX,oX,rfl,_,_,FV⟩:=HX.out.at ha;obtain⟨bY,oY,rfl,_,_,hcY⟩:=HY.out.at hc;have HD:=hid ((AFG ha hc).symm.trans hR.out);have hd:decide ((k:Int)<(x.length:Int))=true:=by simp;omega
   have hd2:decide ((k:Int)≥(x.length:Int))=false:=by simp;omega
   clear ha hc;go_wp2_with fail;refine(lF _ _ _).mono ?_;rintro e w' ⟨rfl,rfl⟩;rcases RH a c with h|h|h
   ·have HC:=hid (show ER a c= -1 by simp[ER,h]);have HR:=hid (show -1=cmpL x y by have:=HD.out;rwa[CU h]at this);rw[HC.out];clear h;go_wp2_with fail;go_ret;exact⟨by rw[←HR.out];rfl,rfl⟩
   ·subst h;have HC:=hid (show ER a a=0 by simp[ER]);have HR:=hid (show cmpL (x.drop (k+1)) (y.drop (k+1))=cmpL x y by have:=HD.out;rwa[BU (Px _),BU (Px _)]at this);rw[HC.out];go_wp2_with fail;go_round;case rel=>exact⟨k+1,by omega,by go_num,HR⟩
    case measure=>simp[intOf];omega
   ·have HC:=hid (show ER a c=1 by simp[ER,h];omega);have HR:=hid (show 1=cmpL x y by have:=HD.out;rwa[BU (by omega),CU h]at this);rw[HC.out];clear h;go_wp2_with fail;go_ret;exact⟨by rw[←HR.out];rfl,rfl⟩
  ·obtain rfl:k=x.length:=by omega
   have hd:decide ((x.length:Int)<(x.length:Int))=false:=by simp
   have HR:=hid (show 0=cmpL x y by have:=hR.out;rw[MP]at this;simpa[cmpL]using this);go_wp2_with fail;go_ret;exact⟨by rw[←HR.out];rfl,rfl⟩
end Go.Proofs.YtlmlamcoeegkbaaGreat.vg
namespace Go.Proofs.YtlmlamcoeegkbaaGreat.Srt
open Go.RowKit Go.Lib Go.Sort Go.Proofs.YtlmlamcoeegkbaaGreat AJ vg
theorem yR (a b:Nat)(x y:List Nat):cmpL (a::x) (b::y)=if a<b then -1 else if b<a then 1 else cmpL x y:=rfl
theorem yS:∀x:List Nat,cmpL x x=0
 |[]=>rfl
 |a::x=>by rw[yR,BU (Px _),BU (Px _),yS x]
theorem xS (a b:Nat)(x y:List Nat):cmpL (a::x) (b::y)<0↔a<b∨(a=b∧cmpL x y<0):=by
 rw[yR];by_cases h1:a<b
 ·simp[h1]
 ·by_cases h2:b<a
  ·rw[BU h1,CU h2];constructor
   ·intro h;omega
   ·rintro(h|⟨h,_⟩)<;>omega
  ·obtain rfl:a=b:=by omega
   simp
theorem xq:∀x y z:List Nat,x.length=y.length→y.length=z.length→cmpL x y<0→cmpL y z<0→cmpL x z<0
 |[],y,z,h1,h2,h3,_=>by
  cases y with
  |nil=>exact absurd h3 (by simp[cmpL])
  |cons _ _=>simp at h1
 |a::x,[],z,h1,h2,h3,_=>by simp at h1
 |a::x,b::y,[],h1,h2,h3,_=>by simp at h2
 |a::x,b::y,c::z,h1,h2,h3,h4=>by
  rw[xS]at *;have ih:=xq x y z (by simpa using h1) (by simpa using h2);rcases h3 with h3|⟨rfl,h3⟩
  ·rcases h4 with h4|⟨rfl,h4⟩
   ·exact .inl (by omega)
   ·exact .inl h3
  ·rcases h4 with h4|⟨rfl,h4⟩
   ·exact .inl h4
   ·exact .inr ⟨rfl,ih h3 h4⟩
theorem xU:∀x y z:List Nat,x.length=y.length→y.length=z.length→¬cmpL x y<0→¬cmpL y z<0→¬cmpL x z<0
 |[],[],[],_,_,_,_=>by simp[cmpL]
 |[],_::_,_,h1,_,_,_=>by simp at h1
 |_::_,[],_,h1,_,_,_=>by simp at h1
 |[],[],_::_,_,h2,_,_=>by simp at h2
 |a::x,b::y,[],h1,h2,h3,_=>by simp at h2
 |a::x,b::y,c::z,h1,h2,h3,h4=>by
  rw[xS]at *;have ih:=xU x y z (by simpa using h1) (by simpa using h2);rintro(h|⟨rfl,h⟩)
  ·rcases RH a b with h5|h5|h5
   ·exact h3 (.inl h5)
   ·subst h5;exact h4 (.inl h)
   ·exact h4 (.inl (by omega))
  ·rcases RH a b with h5|h5|h5
   ·exact h3 (.inl h5)
   ·subst h5;exact ih (fun h6=>h3 (.inr ⟨rfl,h6⟩)) (fun h6=>h4 (.inr ⟨rfl,h6⟩)) h
   ·exact h4 (.inl h5)
abbrev Rw (B n:Nat)(w:World):Type:={ p:Value×List Nat // CL 3 B w p.1 p.2∧p.2.length=n }
def encR {B n:Nat}{w:World}(x:Rw B n w):Value:=x.1.1
def jC {B n:Nat}{w:World}(x y:Rw B n w):Int:=cmpL x.1.2 y.1.2
theorem AHD (B n:Nat)(w:World):OneCell (encR (B:=B) (n:=n) (w:=w)):=by
 rintro⟨⟨u,r⟩,⟨⟨g,c,h⟩,_⟩,_⟩;show u.oneCell'=true;simp only at h;rw[h];rfl
theorem swo (B n:Nat)(w:World):SWO (ltOf (jC (B:=B) (n:=n) (w:=w))) where
 irrefl x:=by simp[ltOf,jC,yS]
 trans x y z h1 h2:=by
  exact En (xq _ _ _ (x.2.2.trans y.2.2.symm) (y.2.2.trans z.2.2.symm) (AA0 h1) (AA0 h2))
 ntrans x y z h1 h2:=by
  exact Dh (xU _ _ _ (x.2.2.trans y.2.2.symm) (y.2.2.trans z.2.2.symm) (of_decide_eq_false h1) (of_decide_eq_false h2))
section
variable {α:Type} [Inhabited α]
theorem AF6 {w:World}{enc:α→Value}{g n:Nat}{os:Array Obj}{cur:Array Value}{e:TypeId}{fr:Nat×Nat}(d:Array α)(hb:w.heap[g]?=some (.cells cur e fr)):
  (sortWorld enc w g 0 n d os).heap[g]?=some (.cells (putCells enc 0 d cur) e fr):=by
 have hg:g<w.heap.size:=(BX.1 hb).1;unfold sortWorld;rw[heap_grow_old _ _ (by simpa using hg)];simp[putRow,mapBlock,Sort.ahead,Array.getElem?_modify,hb,onCells]
theorem za {w:World}{enc:α→Value}{g n:Nat}{os:Array Obj}(d:Array α):AA (fun k=>k≠g) w (sortWorld enc w g 0 n d os):=by
 unfold sortWorld;refine⟨by simp,fun k hne hk=>?_⟩;rw[heap_grow_old _ _ (by simpa using hk)];have:g≠k:=fun e=>hne e.symm;simp[putRow,mapBlock,Sort.ahead,Array.getElem?_modify,this]
theorem AF7 (enc:α→Value)(cur:Array Value)(d:Array α)(h:d.size≤cur.size):(putCells enc 0 d cur).toList.take d.size=d.toList.map enc:=by
 apply QD;intro j;by_cases hj:j<d.size
 ·rw[WL hj,Oq];simp[putCells,hj,show j<cur.size by omega]
 ·rw[List.getElem?_take_eq_none (by omega),MZ (by simp;omega)]
theorem AFH {w:World}{enc:α→Value}{g:Nat}{cur:Array Value}{e:TypeId}{d:Array α}(hb:w.heap[g]?=some (.cells cur e (0,0)))(ht:cur.toList.take d.size=d.toList.map enc):Holds enc w g 0 d:=by
 intro j hj;refine⟨?_,by simp[World.frozen?,hb]⟩;have h1:(cur.toList.take d.size)[j]?=(d.toList.map enc)[j]?:=by rw[ht]
 rw[WL hj]at h1;simp only[World.cell?,hb,D5];simp only[Option.isSome_none,Bool.false_eq_true,if_false];rw[←Oq,h1];simp[hj]
end
def Asc (l:List (List Nat)):Prop:=l.Pairwise fun a b=>¬cmpL b a<0
theorem AHl {B g:Nat}{w:World}{cur:Array Value}(hg:w.heap[g]?=some (.cells cur 91 (0,0))){u:Value}{r:List Nat}(h1:CL 3 B w u r):AL (fun k=>k≠g) w u (ints r):=by
 have h3:=h1.sl;obtain⟨⟨gu,c,rfl⟩,h4⟩:=h1;rcases h4.2 with⟨h5,_⟩|⟨g',cap,cur',h5,_,h6,_⟩
 ·cases h5
 ·cases h5;obtain⟨ao,c',e1,e2,e3,e0,e4⟩:=h3;refine⟨ao,c',e1,e2,e3,e0,fun i x hx=>?_⟩;obtain⟨b,o,f1,f2,f3,f4⟩:=e4 i x hx;refine⟨b,o,f1,?_,f3,f4⟩;subst f1;have e5:gu=b:=by
   have:=Bp Value.ownBlock e1;simpa[Value.ownBlock]using this
  rintro rfl;rw[e5,hg]at h6;simp at h6
theorem AF8 (B n:Nat)(w:World)(hn:n≤1000)(g size:Nat)(cur:Array Value)(hg:w.heap[g]?=some (.cells cur 91 (0,0)))(ax:Rw B n w):
  letI:Inhabited (Rw B n w):=⟨ax⟩
  CmpReads Tryz.prog 68 #[] (encR (B:=B) (n:=n) (w:=w)) jC g 0 size w:=by
 letI:Inhabited (Rw B n w):=⟨ax⟩
 intro m os dk hs x y;have hk:=za (w:=w) (enc:=encR (B:=B) (n:=n) (w:=w)) (g:=g) (n:=m) (os:=os) dk;have hr:∀z:Rw B n w,AL (fun _=>True) (sortWorld (encR (B:=B) (n:=n) (w:=w)) w g 0 m dk os) z.1.1 (ints z.1.2):=fun z=>by
  exact AL.mono (AL.keep (S:=fun k=>k≠g) (AHl hg z.2.1) hk) (fun _ _=>trivial)
 refine(AEA _ _ _ _ _ (hr x) (hr y) (x.2.2.trans y.2.2.symm)).mono ?_;rintro e w' ⟨rfl,rfl⟩;exact⟨rfl,0,rfl⟩
def AII (B:Nat)(v:Value)(F:List (List Nat))(w:World)(e:Ending)(w':World):Prop:=
 e= .returned (.tuple #[])∧∃F',F'.Perm F∧Asc F'∧Own2 91 3 B w' v F'∧AA (fun k=>some k≠v.ownBlock) w w'∧Below (min B w.heap.size) w w'
theorem AF9 (B n:Nat)(hn:n≤1000)(w:World)(v:Value)(F:List (List Nat))(hF:Own2 91 3 B w v F)(hbig:F.length≤1000000000)(hl:∀r∈F,r.length=n):
  Calls Tryz.prog 67 #[v,.func (.func 68) #[] #[]] w (AII B v F w):=by
 obtain⟨us,h1,h2,h4⟩:=hF;rcases h1.2 with⟨rfl,h5⟩|⟨g,cap,cur,rfl,hB,hg,hc1,hc2,hc3,hc4⟩
 ·obtain rfl:F=[]:=EY h5;have hc:=AnyF.slices_SortFunc_none ({ Tryz.vZ with }:SlLaysF0.n6 _ _) none 0 (.func (.func 68) #[] #[]) w;refine hc.mono ?_;rintro e w' ⟨rfl,rfl⟩;exact⟨rfl,[],List.Perm.refl _,List.Pairwise.nil,Own2.nil _ _ _ _,AA.refl _ _,Ag _ _⟩
 ·cases F with
  |nil=>
   have hc:=AnyF.slices_SortFunc_none ({ Tryz.vZ with }:SlLaysF0.n6 _ _) (some ⟨g,0,none⟩) cap (.func (.func 68) #[] #[]) w;refine hc.mono ?_;rintro e w' ⟨rfl,rfl⟩;exact⟨rfl,[],List.Perm.refl _,List.Pairwise.nil,⟨us,h1,h2,h4⟩,AA.refl _ _,Ag _ _⟩
  |cons r0 F0=>
   generalize hFe:r0::F0=F at *;have hpos:0<F.length:=by rw[←hFe];simp
   have hget:∀i:Fin F.length,∃u,us[i.1]?=some u∧CL 3 B w u F[i.1]∧(F[i.1]).length=n:=fun i=>by
    obtain⟨u,hu⟩:∃u,us[i.1]?=some u:=⟨_,AP (by rw[h2];exact i.2)⟩;exact⟨u,hu,h4 i.1 _ u (AP i.2) hu,hl _ (Je i.2)⟩
   let dd:Fin F.length→Rw B n w:=fun i=>⟨(us[i.1]'(by rw[h2];exact i.2),F[i.1]),by
    obtain⟨u,hu,h5,h6⟩:=hget i;obtain⟨hi,e⟩:=Ak.1 hu;rw[e];exact⟨h5,h6⟩⟩
   letI:Inhabited (Rw B n w):=⟨dd ⟨0,hpos⟩⟩
   let d:Array (Rw B n w):=Array.ofFn dd
   have hds:d.size=F.length:=by simp[d]
   have hdu:d.toList.map encR=us:=by
    apply RJ
    ·simp[d,h2]
    ·intro i q1 q2;simp[d,dd,encR]
   have hdF:d.toList.map (fun x=>x.1.2)=F:=by
    apply RJ
    ·simp[d]
    ·intro i q1 q2;simp[d,dd]
   have hH:Holds (encR (B:=B) (n:=n) (w:=w)) w g 0 d:=AFH hg (by rw[hds,hdu,←hc4,Ol]);have hgl:g<w.heap.size:=(BX.1 hg).1;have eg:∀args w,(callFunc 68 args).run Tryz.prog w= .ok (.enter 68 args) w:=enters_of Tryz.func68 (by kernel_rfl) rfl;have hc:=Any.slices_SortFunc Tryz.vZ (encR (B:=B) (n:=n) (w:=w)) (AHD B n w) jC (swo B n w) 68 #[] g 0 cap d w eg (AF8 B n w hn g d.size cur hg (dd ⟨0,hpos⟩)).lays hH hgl (by rw[hds];omega);rw[hds]at hc;refine hc.mono ?_;rintro e w' ⟨rfl,d',m,os,⟨p1,p2,p3⟩,hs,rfl⟩;have XW:d'.size=F.length:=by rw[p1,hds]
   have hperm:d'.toList.Perm d.toList:=by
    have e1:d'.extract 0 F.length=d':=by rw[←XW];exact Array.extract_size
    have e2:d.extract 0 F.length=d:=by rw[←hds];exact Array.extract_size
    rwa[e1,e2]at p3
   have hk:=za (w:=w) (enc:=encR (B:=B) (n:=n) (w:=w)) (g:=g) (n:=m) (os:=os) d';have hlen':(d'.toList.map fun x=>x.1.2).length=F.length:=by simp[XW]
   refine⟨rfl,d'.toList.map (fun x=>x.1.2),?_,?_,⟨d'.toList.map encR,?_,by simp,fun i r u hr hu=>?_⟩,hk.mono (fun k h e=>h (by rw[e];rfl)),⟨rfl,rfl,rfl,hk.size,fun k hk'=>hk.block k (by omega) (by omega)⟩⟩
   ·exact(hperm.map _).trans (by rw[hdF])
   ·refine List.pairwise_iff_getElem.2 fun i j hi hj hij=>?_;have hi':i<d'.size:=by simpa using hi
    have hj':j<d'.size:=by simpa using hj
    have:=hs i j (AU _) hij (by omega);rw[getElem!_pos d' j hj',getElem!_pos d' i hi']at this;simp only[Nh,Array.getElem_toList];exact of_decide_eq_false this
   ·rw[hlen'];refine⟨by simp[XW],.inr ⟨g,cap,_,rfl,hB,AF6 d' hg,hc1,hc2,by simp[putCells,hc3],?_⟩⟩;rw[Ol,←XW];exact AF7 _ cur d' (by rw[XW,hc3];omega)
   ·simp only[Em,Oy]at hr hu;obtain⟨x,hx,rfl⟩:=hr;obtain⟨y,hy,rfl⟩:=hu;rw[hx]at hy;cases hy;have h5:=x.2.1;refine⟨h5.1,?_⟩;have h6:=h5.2;refine⟨h6.1,?_⟩;rcases h6.2 with h7|⟨g',cap',cur',e1,e2,e3,e4⟩
    ·exact .inl h7
    ·refine .inr ⟨g',cap',cur',e1,e2,?_,e4⟩;have hne:g'≠g:=by
      rintro rfl;rw[hg]at e3;simp at e3
     rw[hk.block g' hne (BX.1 e3).1];exact e3
end Go.Proofs.YtlmlamcoeegkbaaGreat.Srt
