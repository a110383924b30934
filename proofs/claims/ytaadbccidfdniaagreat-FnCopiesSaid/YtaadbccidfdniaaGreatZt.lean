import Derived.Test.YtaadbccidfdniaaGreatZ0
import Derived.Test.YtaadbccidfdniaaGreatZp
import Derived.Laws.AppendOwnNone
import Derived.Deep.RegionHeld3
import Derived.Deep.AppendLies
import Derived.Deep.RegionLaw
import Derived.Ground.SlsfProg
import Derived.Shelf.SlSortCmp.Insertion
import Derived.Test.YtaadbccidfdniaaGreatProg
import Derived.Shelf.SlSortCmp.NoneTotal
/-
  Lemmas for the law FnCopies, in short spelling.
-/
open Go.Lib (hid)
set_option linter.unusedVariables false
set_option linter.unusedSimpArgs false
set_option maxRecDepth 100000
set_option maxHeartbeats 40000000
namespace Go.Proofs.YtaadbccidfdniaaGreat.jE
open Go.RowKit Go.Proofs.YtaadbccidfdniaaGreat AB CU JV LX Mf V6 TU Ni
def ANv (e:TypeId)(x:List Nat)(w:World)(e':Ending)(w':World):Prop:=∃v,e'= .returned v∧Ck e w.heap.size w' v x∧Below w.heap.size w w'
theorem AHZ (w:World)(ad:Addr)(n c:Nat)(l:List Nat)(hv:AL Any w (.slice (some ad) n c) (ints l))(hl:l.length≤1000000):
  Calls Tryz.prog 88 #[.slice (some ad) n c] w (ANv 3 l w):=by
 obtain⟨i0,hi,hz0,hz1,hz2⟩:=Bt YV;have hnl:n=l.length:=by obtain⟨_,_,e,_⟩:=hv;simp only[EY]at e;rw[e.2.1,BL]
 subst hnl;have HL:=hid hl;clear hl;have HS:=hid hv;have h00:=Fb (base:=w.heap.size) (e:=3) (size:=1) w #[] 0 AR (AU _) rfl;have hen:=fun(w:World) (a:Option Addr) (n c n' c':Nat)=>Lib.run_eql_slice_nil (P:=Tryz.prog) w 64 3 a n c n' c' Tryz.underlying64;have hv':AL Any w (.slice (some ad) (ints l).length c) (ints l):=by rw[BL];exact hv
 have C1:=hid (AL.src (w':=w.alloc (.cells #[] 3)) hv' (AJ.alloc _));have C2:=hid (Qy (ints l));have C3:=hid (show 0+l.length≤maxLen from by have:=HL.out;unfold maxLen;omega);have C4:=hid (show(0+l.length)*8≤140737488355328 from by have:=HL.out;omega);have C5:=hid (show(vals (ints l)).length=l.length*1 by simp[vals,ints]);clear hv hv';go_enter Tryz.func88,Tryz.ntmps88;go_wp2_with (at_builtin;refine Fz _ rfl _ _ 64 rfl w.heap.size 3 i0 (.int .i64 0) 1 8 Tryz.underlying64 hi hz0 hz1 hz2 rfl (by decide) _ _ _ rfl h00 ad l.length c (vals (ints l)) rfl C5.out C1.out C2.out C3.out C4.out (by simp) ?_);intro v' w1 hown' hgrow hnil;have hne:v'≠.slice none 0 0:=by first|exact hnil|(intro e;have:=hnil.1 e;simp at this)
 have hO:w1.ownsRow w.heap.size 3 1 v' l.length (vals (ints l)):=by simpa using hown'
 have hB:Below w.heap.size w w1:=(AX.alloc AR _).grown hgrow (by simp) (by intro k hk;simp[Value.ownBlock]at hk;omega);clear hown' hgrow hnil;go_wp2_with fail;go_ret;refine⟨_,rfl,⟨?_,hO⟩,hB⟩;rcases hO.2 with⟨e,_⟩|⟨g,cap,cur,e,_⟩
 ·exact absurd e hne
 ·exact⟨g,cap,e⟩
end Go.Proofs.YtaadbccidfdniaaGreat.jE
namespace Go.Proofs.YtaadbccidfdniaaGreat.sM
open Go.RowKit Go.Proofs.YtaadbccidfdniaaGreat AB CU JV LX Mf V6 TU jE Ni Grow
def Sx (B bs gi:Nat):Nat→Prop:=fun k=>k<B∧k≠bs∧k≠gi
structure Ia (w:World)(bs bp op bg gi ci B:Nat)(T Q:Tw)(b:Bool)(Ae:List Nat)(F:List (List Nat))(vF:Value):Prop where
 hbs:bs<B
 hgi:gi<B
 hne:bs≠gi
 hB:B≤w.heap.size
 row:w.heap[bs]?=some (.cells #[.pointer (some ⟨bp,op,none⟩),.pointer (some ⟨bg,0,none⟩),.slice (some ⟨gi,0,none⟩) T.length ci,.bool b,vF] 94)
 pre:BN (Sx B bs gi) w bp op (AQ T)
 tab:ED (Sx B bs gi) w bg Q
 len:Ae.length=T.length
 Ae:w.ownsRow 0 3 1 (.slice (some ⟨gi,0,none⟩) T.length ci) T.length (vals (ints Ae))
 dI:Own2 64 3 B w vF F
theorem Ia.slI {w:World}{bs bp op bg gi ci B:Nat}{T Q:Tw}{b:Bool}{Ae:List Nat}{F:List (List Nat)}{vF:Value}(h:Ia w bs bp op bg gi ci B T Q b Ae F vF):AL Any w (.slice (some ⟨gi,0,none⟩) T.length ci) (ints Ae):=by
 have hl:=h.len;have:Ck 3 0 w (.slice (some ⟨gi,0,none⟩) T.length ci) Ae:=⟨⟨gi,ci,by rw[hl]⟩,by rw[hl];exact h.Ae⟩;exact this.sl.mono (fun _ _=>trivial)
theorem Ia.cells {w:World}{bs bp op bg gi ci B:Nat}{T Q:Tw}{b:Bool}{Ae:List Nat}{F:List (List Nat)}{vF:Value}(h:Ia w bs bp op bg gi ci B T Q b Ae F vF):
  w.cell? ⟨bs,0,none⟩=some (.pointer (some ⟨bp,op,none⟩))∧w.cell? ⟨bs,1,none⟩=some (.pointer (some ⟨bg,0,none⟩))∧w.cell? ⟨bs,2,none⟩=some (.slice (some ⟨gi,0,none⟩) T.length ci)∧w.cell? ⟨bs,3,none⟩=some (.bool b)∧w.cell? ⟨bs,4,none⟩=some vF:=by
 refine⟨?_,?_,?_,?_,?_⟩<;>exact(Ah w bs _ _ _ (0,0) h.row).trans rfl
theorem Ia.ZM {w:World}{bs bp op bg gi ci B:Nat}{T Q:Tw}{b:Bool}{Ae:List Nat}{F:List (List Nat)}{vF:Value}(h:Ia w bs bp op bg gi ci B T Q b Ae F vF):uu w bs bp op bg gi ci T Q Ae:=
 ⟨Ai h.hbs h.hB,h.cells.1,h.cells.2.1,h.cells.2.2.1,h.pre.mono (fun _ _=>trivial),ED.mono h.tab (fun _ _=>trivial),h.len,h.slI⟩
theorem Ia.below {w w':World}{bs bp op bg gi ci B:Nat}{T Q:Tw}{b:Bool}{Ae:List Nat}{F:List (List Nat)}{vF:Value}(h:Ia w bs bp op bg gi ci B T Q b Ae F vF)(hb:Below w.heap.size w w'):Ia w' bs bp op bg gi ci B T Q b Ae F vF:=
 ⟨h.hbs,h.hgi,h.hne,Ad h.hB hb.size,by rw[hb.block _ (Ai h.hbs h.hB)];exact h.row,h.pre.keep (AA.of_below hb),h.tab.keep (AA.of_below hb),h.len,Br h.Ae (S:=Any) (AA.of_below hb) (fun _ _=>trivial),h.dI.of_below hb⟩
def Qs (A B bs gi:Nat)(w w':World):Prop:=Below A w w'∧AA (Sx B bs gi) w w'
def zI (A bs bp op bg gi ci B:Nat)(T Q:Tw)(b:Bool)(F G:List (List Nat))(k:Nat)(im:List Nat)(w:World)(e:Ending)(w':World):Prop:=
 e= .returned (.tuple #[])∧∃FL Jv,Ia w' bs bp op bg gi ci B T Q b FL (F++G) Jv∧FL.drop k=im∧(∀y∈FL,y<sz Q)∧Qs A B bs gi w w'
theorem ADn {B bs:Nat}{w w':World}(hb:bs<B∧B≤w.heap.size)(h:AA (· <B) w w'):(∀o,w'.cell? ⟨bs,o,none⟩=w.cell? ⟨bs,o,none⟩)∧(∀o,w'.frozen? ⟨bs,o,none⟩=w.frozen? ⟨bs,o,none⟩)∧AA (· <B) w w':=
 ⟨fun o=>h.cell hb.1 (Ai hb.1 hb.2),fun o=>World.frozen?_of_block (h.block bs hb.1 (Ai hb.1 hb.2)),h⟩
theorem AKR {w:World}{bs:Nat}{cs:Array Value}{t:TypeId}(h:w.heap[bs]?=some (.cells cs t))(j:Nat)(v:Value):(w.setCell ⟨bs,j,none⟩ v).heap[bs]?=some (.cells (cs.setIfInBounds j v) t):=by
 rw[GV w bs j cs t v h]
theorem AJF {w w':World}{e:TypeId}{B g n c:Nat}{xs:List Value}(h:w.ownsRow B e 1 (.slice (some ⟨g,0,none⟩) n c) n xs)(hb:w'.heap[g]?=w.heap[g]?):w'.ownsRow B e 1 (.slice (some ⟨g,0,none⟩) n c) n xs:=by
 refine⟨h.1,?_⟩;rcases h.2 with hn|⟨g',cap,cur,he,hb',hgg,rest⟩
 ·exact .inl hn
 ·obtain⟨rfl,rfl⟩:g=g'∧c=cap:=by simpa using he
  exact .inr ⟨g,c,cur,rfl,hb',by rw[hb];exact hgg,rest⟩
theorem AHa {A:Nat}{T Q:Tw}{w w6:World}{bs bp op bg gi ci B:Nat}{b:Bool}{Ae:List Nat}{F:List (List Nat)}{vF v':Value}(h:Ia w bs bp op bg gi ci B T Q b Ae F vF)(hA:A≤bs∧A≤gi)(hin:∀y∈Ae,y<sz Q)
  (U7:Below A w w6) (hN:Own2 64 3 B w6 v' (F++[Ae])) (hk:AA (· <B) w w6):zI A bs bp op bg gi ci B T Q b F [Ae] 0 Ae w (.returned (.tuple #[])) (w6.setCell ⟨bs,4,none⟩ v'):=by
 have hbs:=Ai h.hbs h.hB;have zJ:AA (Sx B bs gi) w (w6.setCell ⟨bs,4,none⟩ v'):=(hk.mono (fun k (hk:Sx B bs gi k)=>hk.1)).setCell (by simp[Sx]) _;refine⟨rfl,Ae,v',⟨h.hbs,h.hgi,h.hne,by have:=hk.size;have:=h.hB;simp;omega,?_,h.pre.keep zJ,h.tab.keep zJ,h.len,?_,?_⟩,rfl,hin,U7.setCell (by simp;exact hA.1) _,zJ⟩
 ·have h1:w6.heap[bs]?=_:=(hk.block bs h.hbs hbs).trans h.row;exact AKR h1 4 v'
 ·refine AJF h.Ae ?_;have h2:(w6.setCell ⟨bs,4,none⟩ v').heap[gi]?=w6.heap[gi]?:=Below.heap_setCell _ _ _ gi (fun e=>h.hne e.symm);rw[h2];exact hk.block gi h.hgi (Ai h.hgi h.hB)
 ·exact hN.keep (S:=(B≤ ·)) (AJ.setCell (by simp;exact h.hbs) _) (fun k hk=>hk)
theorem AG9 (A:Nat)(T Q:Tw)(hs:T.length≤6)(hQ:Wf Q)(hz:sz Q≤27)(w:World)(bs bp op bg gi ci B:Nat)(b:Bool)(Ae:List Nat)(F:List (List Nat))(vF:Value)(M:Nat)
  (h:Ia w bs bp op bg gi ci B T Q b Ae F vF) (hA:A≤bs∧A≤gi) (hF:F.length≤1000000000) (hin:∀y∈Ae,y<sz Q):
  Calls Tryz.prog 47 #[.pointer (some ⟨bs,0,none⟩),.int .i64 (-1),.int .u64 (M:Int)] w (zI A bs bp op bg gi ci B T Q b F [Ae] 0 Ae w):=by
 obtain⟨i0,hi,hz0,hz1,hz2⟩:=Bt ADN;obtain⟨q0,q1,q2,q3,q4⟩:=h.cells;have z4:w.frozen? ⟨bs,4,none⟩=false:=BQ w bs 4 _ _ h.row;have HI:=hid h;have hbw:=Ai h.hbs h.hB;have Ec:=hid (fun W (hW:AL Any W (.slice (some ⟨gi,0,none⟩) T.length ci) (ints Ae))=>AHZ W ⟨gi,0,none⟩ T.length ci Ae hW (by rw[h.len];omega));have ME:=hid hin;have HA:=hid hA;have HF:=hid hF;obtain⟨us,hu1,hu2,hu4⟩:=h.dI;have HU:=hid (And.intro hu1 (And.intro hu2 hu4));have hBw:=h.hB;have AFT:bs<B∧B≤w.heap.size:=⟨h.hbs,h.hB⟩;have hvB:∀k,k<B→some k≠vF.ownBlock:=fun k hk e=>by have:=(Af hu1 k e.symm).1;omega
 clear h hin hA hF hz hu1 hu2 hu4;go_enter Tryz.func47,Tryz.ntmps47;go_upto_region 1 with fail;go_region_law
  (first|(go_simp;go_at_call 88;refine(Ec.out _ (HI.out.slI.keep (by first|exact AJ.drew|exact AA.refl _ _))).mono ?_;rintro e w5 ⟨v5,rfl,⟨⟨g5,c5,rfl⟩,O6⟩,hb5⟩;obtain⟨kc5,kf5,kk5⟩:=ADn AFT (by first|exact AA.trans (AJ.drew) (AA.of_below hb5)|exact AA.of_below hb5:AA (· <B) w w5);have dJ:=(kc5 4).trans q4;have AQG:bs<w5.heap.size:=Ai hbw (by exact hb5.size))|(refine Pv _ (by rfl) _ _ _ (by rfl) B 64 i0 (.slice none 0 0) 1 24 Tryz.underlying56 hi hz0 hz1 hz2 rfl (by omega) vF F.length us (by rfl) ((Br HU.out.1 (S:=Any) (by first|exact AA.trans (AJ.drew) (AA.of_below hb5)|exact AA.of_below hb5) (fun _ _=>trivial)).alloc _) ⟨w5.heap.size,0,none⟩ 1 1 [.slice (some ⟨g5,0,none⟩) Ae.length c5] (by rfl) (by rfl) (GN (cs:= #[.slice (some ⟨g5,0,none⟩) Ae.length c5]) (t:=64) (fr:=(0,0)) (BA w5 _)) (by simp[Value.oneCell']) (by omega) (by have:=HF.out;unfold maxLen;omega) (by have:=HF.out;omega) (by have:=hb5.size;simp;exact Nat.le_succ_of_le (Ad hBw hb5.size)) _ rfl ?_;intro gg cap w6 hown6 Ka Lc Ld;obtain⟨kc6,kf6,kk6⟩:=ADn AFT (AA.trans ((by first|exact AA.trans (AJ.drew) (AA.of_below hb5)|exact AA.of_below hb5:AA (· <B) w w5).alloc _) (AA.grown Ka hvB));have k46:=(kc6 4).trans q4;have z46:=(kf6 4).trans z4))
 all_goals
  have QF:Below w.heap.size w w5:=by first|exact hb5|exact(AX.drew).trans hb5
  have AQH:=QF.size;have hA1:=HA.out.1;have Ar:=hid (show Below A w w6 from((QF.mono (by omega)).alloc (by omega) _).grown Ka (by simp;omega) (fun k hk=>by have:=(Af HU.out.1 k hk).1;omega));have zK:=hid (show Own2 64 3 B w6 (.slice (some ⟨gg,0,none⟩) (F.length+1) cap) (F++[Ae]) from
   Own2.push (w:=w5.alloc _) (us:=us) (by decide) rfl ((Br HU.out.1 (S:=Any) (AA.of_below QF) (fun _ _=>trivial)).alloc _) HU.out.2.1 (fun i r u hr hu=>(HU.out.2.2 i r u hr hu).keep (S:=Any) ((AA.of_below QF).alloc _) (fun _ _=>trivial)) (Ck.keep (S:=Any) ⟨⟨g5,c5,rfl⟩,JI O6 (by first|exact hBw|exact Ad hBw AR)⟩ (AJ.alloc _) (fun _ _=>trivial)) hown6 Ka)
  have dB:=hid kk6;clear hown6 Ka O6 hb5 kc5 kf5 kk5 kc6 kf6 kk6 dJ QF k46 z46;go_wp2_with fail;exact Aj (v:=.tuple #[]) (by simp[results,Tryz.results47,go_sem]) rfl (AHa HI.out HA.out ME.out Ar.out zK.out dB.out)
end Go.Proofs.YtaadbccidfdniaaGreat.sM
namespace Go.Proofs.YtaadbccidfdniaaGreat.ADo
open Go.RowKit Go.Proofs.YtaadbccidfdniaaGreat AB CU JV LX Mf V6 TU jE sM Ni Grow
def zL (Q T:Tw)(im:List Nat)(M:Nat):Prop:=M<2^32∧∀c,M.testBit c=true↔IA Q T im c
theorem AKS {w:World}{bs bp op bg gi ci B:Nat}{T Q:Tw}{b:Bool}{Ae:List Nat}{F:List (List Nat)}{vF:Value}(h:Ia w bs bp op bg gi ci B T Q b Ae F vF)(i x:Nat):
  Ia (w.setCell ⟨gi,i,none⟩ (.int .i64 (x:Int))) bs bp op bg gi ci B T Q b (Ae.set i x) F vF:=by
 have hk:AA (Sx B bs gi) w (w.setCell ⟨gi,i,none⟩ (.int .i64 (x:Int))):=AJ.setCell (by simp[Sx]) _;refine⟨h.hbs,h.hgi,h.hne,by simpa using h.hB,?_,h.pre.keep hk,h.tab.keep hk,by simpa using h.len,?_,?_⟩
 ·rw[GR _ _ _ _ h.hne];exact h.row
 ·have h1:=(Q8 h.Ae i (.int .i64 (x:Int))).1;rw[ABS,ints_set]at h1;exact h1
 ·exact h.dI.keep (S:=(B≤ ·)) (AJ.setCell (by simp;exact h.hgi) _) (fun k hk=>hk)
theorem AHb {w:World}{bs bp op bg gi ci B:Nat}{T Q:Tw}{b:Bool}{Ae:List Nat}{F:List (List Nat)}{vF:Value}(h:Ia w bs bp op bg gi ci B T Q b Ae F vF){i:Nat}(hi:i<T.length):
  ∃y:Nat,w.cell? ⟨gi,i,none⟩=some (.int .i64 (y:Int))∧w.frozen? ⟨gi,i,none⟩=false:=by
 have hl:=h.len;obtain⟨y,hy⟩:∃y,Ae[i]?=some y:=⟨_,AO (by omega)⟩;refine⟨y,?_,YR h.Ae i⟩;rw[Ig h.Ae i (by omega)];simp[vals,ints,hy]
theorem drop_set {l:List Nat}{i x:Nat}(h:i<l.length):(l.set i x).drop i=x::l.drop (i+1):=by
 rw[EX (by simpa using h),List.getElem_set_self,List.drop_set_of_lt (Nat.lt_succ_self i)]
def Yl (A bs bp op bg gi ci B:Nat)(T Q:Tw)(b:Bool)(F:List (List Nat))(i:Nat)(im:List Nat)(x:Nat)(w wr:World):Prop:=
 ∃FL Jv,Ia wr bs bp op bg gi ci B T Q b FL (F++FW Q T i im x) Jv∧(b=true→FW Q T i im x=[])∧FL.drop (i+1)=im∧(∀y∈FL,y<sz Q)∧Qs A B bs gi w wr
theorem Qs.below {A B bs gi:Nat}{w w1 w2:World}(h:Qs A B bs gi w w1)(hA:A≤w1.heap.size)(hb:Below w1.heap.size w1 w2):Qs A B bs gi w w2:=
 ⟨h.1.trans (hb.mono hA),h.2.trans (AA.of_below hb)⟩
theorem Yl.no {A bs bp op bg gi ci B:Nat}{T Q:Tw}{b:Bool}{F:List (List Nat)}{i:Nat}{im:List Nat}{x:Nat}{w wr w1:World}(h:Yl A bs bp op bg gi ci B T Q b F i im x w wr)(hA:A≤bs)
  (hn:¬(¬IA Q (T.drop (i+1)) im x∧Fits Q (T.getD i ⟨0,[],[]⟩) im x)) (hb:Below wr.heap.size wr w1):Yl A bs bp op bg gi ci B T Q b F i im (x+1) w w1:=by
 obtain⟨FL,Jv,h1,h2,h3,h4,h5⟩:=h;refine⟨FL,Jv,?_,?_,h3,h4,Qs.below h5 (by have:=h1.hbs;have:=h1.hB;omega) hb⟩
 ·rw[eX hn];exact h1.below hb
 ·rw[eX hn];exact h2
theorem AHc (A:Nat)(T Q:Tw)(hT:Wf T)(hs:Small T)(hQ:Wf Q)(hz:sz Q≤27)(bs bp op bg gi ci B:Nat)(b:Bool)(hA:A≤bs∧A≤gi):∀k,k≤T.length→∀(w:World) (Ae:List Nat) (F:List (List Nat)) (vF:Value) (M:Nat),
  Ia w bs bp op bg gi ci B T Q b Ae F vF→(∀y∈Ae,y<sz Q)→zL Q (T.drop k) (Ae.drop k) M→F.length+27^k≤1000000000→(b=true→F=[])→
  Calls Tryz.prog 47 #[.pointer (some ⟨bs,0,none⟩),.int .i64 ((k:Int)-1),.int .u64 (M:Int)] w (zI A bs bp op bg gi ci B T Q b F (Lh b (grow Q T k (Ae.drop k))) k (Ae.drop k) w):=by
 intro k
 induction k with
 |zero=>
  intro _ w Ae F vF M h hin hM hF hb;have hc:=AG9 A T Q hs.1 hQ hz w bs bp op bg gi ci B b Ae F vF M h hA (by omega) hin;have e:Lh b (grow Q T 0 (Ae.drop 0))=[Ae]:=by cases b<;>rfl
  rw[e];exact hc
 |succ i ih=>
  intro hk w Ae F vF M h hin hM hF hb;obtain⟨L,hL⟩:∃L,T[i]?=some L:=⟨_,AO (by omega)⟩;have hil:i<T.length:=by omega
  have hLo:L.o≤1000:=by have:=hs.2 L (Ak hL);omega
  have Uz:=hid (show T.getD i ⟨0,[],[]⟩=L by rw[BV,hL];rfl);have HIH:=hid (ih (by omega));obtain⟨im,him⟩:∃im,im=Ae.drop (i+1):=⟨_,rfl⟩;rw[←him]at hM ⊢;have AFU:=hid (fun W FL x (hS:uu W bs bp op bg gi ci T Q FL) hx hin'=>AIp T Q hT hs hQ (by omega) W bs bp op bg gi ci FL i x L hL hS hx hin');have ANw:=hid (fun W (hG:ED Any W bg Q) x hx=>AHU Q hQ hz W bg hG M x L.o ⟨hM.1,fun c hc=>iO hQ ((hM.2 c).1 hc)⟩ hx hLo);have hpos:=JQ hQ;obtain⟨q0,q1,q2,q3,q4⟩:=h.cells;obtain⟨gt,ot,ct,hgl,hct,jh,_⟩:=h.ZM.tab.open hpos;have H0:Hid (Yl A bs bp op bg gi ci B T Q b F i im 0 w w):=hid ⟨Ae,vF,by rw[oD,La];exact h,fun _=>oD _ _ _ _,him.symm,hin,A7 _ _,AA.refl _ _⟩;have HM:=hid hM;have HF:=hid hF;have N9:=hid hb;have nE:=hid hA;have HL:=hid hL;have HQ:=hid hQ;have HS:=hid hs;have hii:(((i+1:Nat):Int)-1)=(i:Int):=by omega
  rw[hii];clear ih h hin hM hF hb him hLo hii hA hL hQ hs hT q0 q2 q3 q4;go_enter Tryz.func47,Tryz.ntmps47;go_wp2_with fail;go_loopw [31] (fun iv wr=>∃x:Nat,x≤sz Q∧iv= .int .i64 (x:Int)∧Hid (Yl A bs bp op bg gi ci B T Q b F i im x w wr)) (fun iv _=>sz Q-(intOf iv).toNat);case atStart=>exact⟨0,AU _,rfl,H0⟩
  case round=>
   obtain⟨x,hx,rfl,hR⟩:=hrel;clear q1 jh;by_cases hlt:x<sz Q
   ·have hd:decide ((x:Int)<(sz Q:Int))=true:=by simp;omega
    have h1:=Mask.test_eq M x (by omega) HM.out.1;cases hb:M.testBit x with
    |true=>
     have FO:=hid hb;rw[hb]at h1;clear hb;go_wp2_with fail;go_roundw;case rel=>exact⟨x+1,by omega,by go_num,hid (hR.out.no nE.out.1 (fun hh=>hh.1 ((HM.out.2 x).1 FO.out)) AX)⟩
     case measure=>simp[intOf];omega
    |false=>
     have FO:=hid hb;rw[hb]at h1;clear hb;by_cases hfit:Fits Q L im x
     ·have KJ:=hid hfit;clear hfit;obtain⟨FL,Jv,hI,hnb,hdr,hin',hch⟩:=hR.out;have HI:=hid hI;have G6:=hid hnb;have HDR:=hid hdr;have j3:=hid hin';have PU:=hid hch;clear hI hnb hdr hin' hch;go_wp2_with fail;refine(AFU.out wr FL x HI.out.ZM hlt j3.out).mono ?_;rintro e w1 ⟨r,rfl,hr,hb1⟩;obtain rfl:=hr.2 (by rw[HDR.out];exact KJ.out);obtain⟨r0,r1,r2,r3,r4⟩:=(HI.out.below hb1).cells;obtain⟨y0,s1,f1⟩:=AHb (HI.out.below hb1) hil;have HI1:=hid (HI.out.below hb1);have vW:=hid (Qs.below PU.out (by have:=HI.out.hbs;have:=HI.out.hB;have:=nE.out;omega) hb1);clear hb1 hr;go_upto_region 7 with fail;clear r0 r1 r2 r3 r4 s1 f1;have HI2:=hid (AKS HI1.out i x);have vY:Hid (Qs A B bs gi w (w1.setCell ⟨gi,i,none⟩ (.int .i64 (x:Int)))):=hid ⟨vW.out.1.setCell (by simp;exact nE.out.2) _,vW.out.2.setCell (by simp[Sx]) _⟩;generalize w1.setCell ⟨gi,i,none⟩ (.int .i64 (x:Int))=w2 at HI2 vY ⊢;clear HI1 vW HI PU;obtain⟨r0,r1,r2,r3,r4⟩:=HI2.out.cells;obtain⟨_,hbp,vO,vP,vC,hp0,hp1,hp2,hV⟩:=HI2.out.ZM.pre;obtain⟨aO,cO,aP,cP,aC,cC,rfl,rfl,rfl,Eo,hP1,FC⟩:=hV.open;obtain⟨bO,oO,rfl,_,CQ,BS⟩:=hV.ord HL.out;have hlen':i<FL.length:=by have:=HI2.out.len;simp at this;omega
      have dK:=hid (show(FL.set i x).drop i=x::im by rw[drop_set hlen',HDR.out]);have ANx:Hid (∀y∈FL.set i x,y<sz Q):=hid (fun y hy=>by
       rcases List.mem_or_eq_of_mem_set hy with h|h
       ·exact j3.out y h
       ·rw[h];exact hlt)
      have ANy:Hid (∀O,O<2^32→(∀c,O.testBit c=true↔∃j,j<L.o∧∃s,s<sz Q∧M.testBit s=true∧it (pr Q x) j s=c)→zL Q (T.drop i) ((FL.set i x).drop i) O):=hid (fun O h1 h2=>⟨h1,fun c=>by
       rw[h2 c,dK.out,Fw HL.out];constructor
       ·rintro⟨j,hj,s,_,hs,e⟩;exact⟨j,hj,s,(HM.out.2 s).1 hs,e⟩
       ·rintro⟨j,hj,s,hs,e⟩;exact⟨j,hj,s,iO HQ.out hs,(HM.out.2 s).2 hs,e⟩⟩)
      have l9:Hid ((F++FW Q T i im x).length+27^i≤1000000000):=hid (by
       have h1:=AAH Q T hz i (Xr Q T hz i) im x;have h2:F.length+27*27^i≤1000000000:=by have h:=HF.out;rw[TI,Oh (27^i)]at h;exact h
       have h3:(x+1)*27^i≤27*27^i:=RI _ (by omega);rw[Nat.add_mul,Nat.one_mul]at h3;rw[Cs];refine Ad ?_ h2;rw[Nat.add_assoc];exact Nat.add_le_add_left (Ad (Nat.add_le_add_right h1 _) h3) _)
      have cZ:Hid (b=true→F++FW Q T i im x=[]):=hid (fun e=>by rw[N9.out e,G6.out e];rfl);have hs6:=HS.out.1;have hw8:IntKind.i64.wrap ((i:Int)-1)=(i:Int)-1:=AY _ (by omega);clear hV hp1 hp2 Eo hP1 FC r2 r3 r4 h1;go_region_law
       (first|(go_simp;go_at_call 90;refine(ANw.out _ (HI2.out.ZM.tab.keep (by first|exact AJ.drew|exact AA.refl _ _)) x hlt).mono ?_;rintro e w4 ⟨O,rfl,Eo,hO2,rfl⟩)|(go_simp;go_at_call 47;refine(HIH.out _ (FL.set i x) (F++FW Q T i im x) Jv O (HI2.out.below (by first|exact AX.drew|exact A7 _ _)) ANx.out (ANy.out O Eo hO2) l9.out cZ.out).mono ?_;rintro e w5 ⟨rfl,vZ,vF5,dL,hd5,AFV,Sa⟩))
      all_goals
       have Qk:=hid (show Qs A B bs gi w w5 from⟨vY.out.1.trans (by first|exact Sa.1|exact(AX.drew).trans Sa.1),vY.out.2.trans (by first|exact Sa.2|exact(AJ.drew).trans Sa.2)⟩);have XZ:=hid dL;have HD5:=hid (hd5.trans dK.out);have Xa:=hid AFV;rw[dK.out]at XZ;obtain⟨t0,t1,t2,t3,t4⟩:=dL.cells;obtain⟨a5,c5,rfl,_,_⟩:=dL.dI.form;clear dL hd5 AFV Sa r0 r1 hp0 BS t0 t1 t2;have NM:=hid (show¬IA Q (T.drop (i+1)) im x∧Fits Q (T.getD i ⟨0,[],[]⟩) im x from⟨fun h=>by have:=(HM.out.2 x).2 h;rw[FO.out]at this;exact Bool.noConfusion this,by rw[Uz.out];exact KJ.out⟩);rw[dK.out]at t4;generalize hN5:(F++FW Q T i im x++Lh b (grow Q T i (x::im))).length=N5 at t4;have AFW:=hid hN5;clear hN5;cases b with
       |false=>
        go_wp2_with fail;go_roundw;case rel=>exact⟨x+1,by omega,by go_num,hid ⟨vZ,_,by rw[VJ NM.out,←Ih];exact XZ.out,fun h=>Bool.noConfusion h,by rw[←Fe,HD5.out];rfl,Xa.out,Qk.out⟩⟩
        case measure=>simp[intOf];omega
       |true=>
        have nG:=N9.out rfl;have hG0:=G6.out rfl;by_cases hG:grow Q T i (x::im)=[]
        ·have hlen:(F++FW Q T i im x++Lh true (grow Q T i (x::im))).length=0:=by rw[nG,hG0,hG];rfl
         have KL:=hid hG;have Jj:=hid hG0;obtain rfl:N5=0:=by rw[←AFW.out];exact hlen
         clear hlen hG nG hG0;go_wp2_with fail;go_roundw;case rel=>exact⟨x+1,by omega,by go_num,hid ⟨vZ,_,by
          have e:F++FW Q T i im (x+1)=F++FW Q T i im x++Lh true (grow Q T i (x::im)):=by rw[VJ NM.out,KL.out];simp[Lh]
          rw[e];exact XZ.out,fun _=>by rw[VJ NM.out,KL.out,Jj.out];rfl,by rw[←Fe,HD5.out];rfl,Xa.out,Qk.out⟩⟩
         case measure=>simp[intOf];omega
        ·have sN:0<(F++FW Q T i im x++Lh true (grow Q T i (x::im))).length:=by
          rw[nG,hG0];cases hgr:grow Q T i (x::im)with
          |nil=>exact absurd hgr hG
          |cons a l=>simp[Lh]
         rw[AFW.out]at sN;have hgt:decide ((N5:Int)>0)=true:=by simp only[TY];omega
         have hgt2:decide (0<N5)=true:=by simp only[TY];omega
         have Dx:=hid sN;have KL:=hid hG;have Jj:=hid hG0;clear sN hG nG hG0;go_wp2_with fail;refine Aj (v:=.tuple #[]) (by simp[results,Tryz.results47,go_sem]) rfl ⟨rfl,vZ,.slice a5 (F++FW Q T i im x++Lh true (grow Q T i (x::im))).length c5,?_,by rw[←Fe,HD5.out];rfl,Xa.out,Qk.out⟩;have h:=XZ.out;rw[dK.out]at h;have e:Lh true (grow Q T (i+1) im)=FW Q T i im x++Lh true (grow Q T i (x::im)):=by
          obtain⟨r,hr⟩:=AHV Q T i im (show x+1≤sz Q by omega);rw[←ow,hr,VJ NM.out,Jj.out,List.nil_append,List.nil_append];cases hgr:grow Q T i (x::im)with
          |nil=>exact absurd hgr KL.out
          |cons a l=>simp[Lh]
         rw[e,←Ih];exact h
     ·have KJ:=hid hfit;clear hfit;obtain⟨FL,Jv,hI,hnb,hdr,hin',hch⟩:=hR.out;have HI:=hid hI;have HDR:=hid hdr;have j3:=hid hin';clear hI hnb hdr hin' hch;go_wp2_with (go_at_call 89;refine(AFU.out wr FL x HI.out.ZM hlt j3.out).mono ?_;rintro e w1 ⟨r,rfl,hr,hb1⟩;obtain rfl:=(Bool.eq_false_iff.2 (fun hh=>KJ.out (by have:=hr.1 hh;rwa[HDR.out]at this)));replace hb1:=hid hb1;clear hr);go_roundw;case rel=>exact⟨x+1,by omega,by go_num,hid (hR.out.no nE.out.1 (fun hh=>KJ.out (by have:=hh.2;rwa[Uz.out]at this)) hb1.out)⟩
      case measure=>simp[intOf];omega
   ·obtain rfl:x=sz Q:=by omega
    have hd:decide ((sz Q:Int)<(sz Q:Int))=false:=by simp
    go_wp2_with fail;go_end0;obtain⟨FL,Jv,h1,h2,h3,h4,h5⟩:=hR.out;refine⟨rfl,FL,Jv,?_,h3,h4,h5⟩;rw[ow]at h1 h2;cases b with
    |false=>exact h1
    |true=>have e:=h2 rfl;rw[e]at h1 ⊢; exact h1
end Go.Proofs.YtaadbccidfdniaaGreat.ADo
namespace Go.Proofs
open Go.Shelf
def Tryz.AKT:Go.Shelf.Ren:=⟨fun|6=>48|15=>78|14=>91|28=>119|29=>120|20=>126|21=>127|22=>128|23=>129|24=>130|25=>131|26=>132|27=>133|46=>155|47=>151|48=>152|49=>156|50=>157|57=>175|n=>n,fun|22=>56|24=>64|25=>97|3=>3|39=>124|0=>0|53=>160|55=>71|4=>4|46=>153|45=>152|50=>157|5=>5|9=>9|66=>186|70=>190|76=>208|77=>209|n=>n,fun|n=>n⟩
theorem Tryz.zM:Go.Proofs.SlLaysF.n6 Tryz.prog Tryz.AKT:={
 mixed:=by kernel_rfl
 f6:=⟨Tryz.f48.name,by decide,Tryz.func48.trans (congrArg some (by kernel_rfl))⟩
 f14:=⟨Tryz.f91.name,by decide,Tryz.func91.trans (congrArg some (by kernel_rfl))⟩
 f15:=Tryz.func78.trans (congrArg some (by kernel_rfl))
 f20:=⟨Tryz.f126.name,by decide,Tryz.func126.trans (congrArg some (by kernel_rfl))⟩
 f21:=⟨Tryz.f127.name,by decide,Tryz.func127.trans (congrArg some (by kernel_rfl))⟩
 f22:=⟨Tryz.f128.name,by decide,Tryz.func128.trans (congrArg some (by kernel_rfl))⟩
 f23:=⟨Tryz.f129.name,by decide,Tryz.func129.trans (congrArg some (by kernel_rfl))⟩
 f24:=⟨Tryz.f130.name,by decide,Tryz.func130.trans (congrArg some (by kernel_rfl))⟩
 f25:=⟨Tryz.f131.name,by decide,Tryz.func131.trans (congrArg some (by kernel_rfl))⟩
 f26:=⟨Tryz.f132.name,by decide,Tryz.func132.trans (congrArg some (by kernel_rfl))⟩
 f27:=⟨Tryz.f133.name,by decide,Tryz.func133.trans (congrArg some (by kernel_rfl))⟩
 f28:=Tryz.func119.trans (congrArg some (by kernel_rfl))
 f29:=Tryz.func120.trans (congrArg some (by kernel_rfl))
 f46:=⟨Tryz.f155.name,by decide,Tryz.func155.trans (congrArg some (by kernel_rfl))⟩
 f47:=Tryz.func151.trans (congrArg some (by kernel_rfl))
 f48:=Tryz.func152.trans (congrArg some (by kernel_rfl))
 f49:=⟨Tryz.f156.name,by decide,Tryz.func156.trans (congrArg some (by kernel_rfl))⟩
 f50:=⟨Tryz.f157.name,by decide,Tryz.func157.trans (congrArg some (by kernel_rfl))⟩
 f57:=⟨Tryz.f175.name,by decide,Tryz.func175.trans (congrArg some (by kernel_rfl))⟩
 t0:=Tryz.underlying0
 a0:=Tryz.isAgg0
 z0:=Tryz.sizeOf0
 v0:=Tryz.zeroValue0
 t3:=Tryz.underlying3
 a3:=Tryz.isAgg3
 z3:=Tryz.sizeOf3
 v3:=Tryz.zeroValue3
 t4:=Tryz.underlying4
 a4:=Tryz.isAgg4
 z4:=Tryz.sizeOf4
 v4:=Tryz.zeroValue4
 t5:=Tryz.underlying5
 a5:=Tryz.isAgg5
 z5:=Tryz.sizeOf5
 v5:=Tryz.zeroValue5
 t9:=Tryz.underlying9
 a9:=Tryz.isAgg9
 z9:=Tryz.sizeOf9
 v9:=Tryz.zeroValue9
 t22:=Tryz.underlying56
 a22:=Tryz.isAgg56
 z22:=Tryz.sizeOf56
 v22:=Tryz.zeroValue56
 a24:=Tryz.isAgg64
 z24:=Tryz.sizeOf64
 t25:=Tryz.underlying97
 a25:=Tryz.isAgg97
 z25:=Tryz.sizeOf97
 v25:=Tryz.zeroValue97
 t39:=Tryz.underlying124
 a39:=Tryz.isAgg124
 z39:=Tryz.sizeOf124
 v39:=Tryz.zeroValue124
 t45:=Tryz.underlying152
 a45:=Tryz.isAgg152
 z45:=Tryz.sizeOf152
 v45:=Tryz.zeroValue152
 t46:=Tryz.underlying153
 a46:=Tryz.isAgg153
 z46:=Tryz.sizeOf153
 v46:=Tryz.zeroValue153
 t50:=Tryz.underlying157
 a50:=Tryz.isAgg157
 z50:=Tryz.sizeOf157
 v50:=Tryz.zeroValue157
 t53:=Tryz.underlying160
 a53:=Tryz.isAgg160
 z53:=Tryz.sizeOf160
 v53:=Tryz.zeroValue160
 t55:=Tryz.underlying71
 a55:=Tryz.isAgg71
 z55:=Tryz.sizeOf71
 v55:=Tryz.zeroValue71
 t66:=Tryz.underlying186
 a66:=Tryz.isAgg186
 z66:=Tryz.sizeOf186
 v66:=Tryz.zeroValue186
 t70:=Tryz.underlying190
 a70:=Tryz.isAgg190
 z70:=Tryz.sizeOf190
 v70:=Tryz.zeroValue190
 t76:=Tryz.underlying208
 a76:=Tryz.isAgg208
 z76:=Tryz.sizeOf208
 v76:=Tryz.zeroValue208
 t77:=Tryz.underlying209
 a77:=Tryz.isAgg209
 z77:=Tryz.sizeOf209
 v77:=Tryz.zeroValue209 }
end Go.Proofs
namespace Go.Proofs.YtaadbccidfdniaaGreat.dM
open Go.RowKit Go.Proofs.YtaadbccidfdniaaGreat AB
def Du (x y:Nat):Int:=if x<y then -1 else if y<x then 1 else 0
def cmpL:List Nat→List Nat→Int
 |a::x,b::y=>if a<b then -1 else if b<a then 1 else cmpL x y
 |_,_=>0
theorem TC (x:Nat)(w:World):Calls Tryz.prog 134 #[.int .i64 (x:Int)] w fun e w'=>e= .returned (.bool false)∧w=w':=by
 go_enter Tryz.func134,Tryz.ntmps134;go_wp2_with fail;go_ret;exact⟨by simp,rfl⟩
theorem gX (x y:Nat)(w:World):Calls Tryz.prog 92 #[.int .i64 (x:Int),.int .i64 (y:Int)] w fun e w'=>e= .returned (.int .i64 (Du x y))∧w=w':=by
 rcases TN x y with h|h|h
 ·have h1:decide ((x:Int)<(y:Int))=true:=by simp;omega
  have HC:=hid (show Du x y= -1 by simp[Du,h]);go_enter Tryz.func92,Tryz.ntmps92;go_wp2_with (go_at_call 134;refine(TC _ _).mono ?_;rintro e w' ⟨rfl,rfl⟩);go_ret;exact⟨by rw[HC.out];rfl,rfl⟩
 ·subst h;have h1:decide ((x:Int)<(x:Int))=false:=by simp
  have HC:=hid (show Du x x=0 by simp[Du]);go_enter Tryz.func92,Tryz.ntmps92;go_wp2_with (go_at_call 134;refine(TC _ _).mono ?_;rintro e w' ⟨rfl,rfl⟩);go_ret;exact⟨by rw[HC.out];rfl,rfl⟩
 ·have h1:decide ((x:Int)<(y:Int))=false:=by simp;omega
  have h2:decide ((x:Int)>(y:Int))=true:=by simp;omega
  have HC:=hid (show Du x y=1 by simp[Du,h];omega);go_enter Tryz.func92,Tryz.ntmps92;go_wp2_with (go_at_call 134;refine(TC _ _).mono ?_;rintro e w' ⟨rfl,rfl⟩);go_ret;exact⟨by rw[HC.out];rfl,rfl⟩
theorem AH5 {x y:List Nat}{k a b:Nat}(ha:x[k]?=some a)(hb:y[k]?=some b):cmpL (x.drop k) (y.drop k)=if a<b then -1 else if b<a then 1 else cmpL (x.drop (k+1)) (y.drop (k+1)):=by
 have h1:=Ag.1 ha;have h2:=Ag.1 hb;rw[EX h1.1,EX h2.1,h1.2,h2.2];rfl
theorem AHA (w:World)(vx vy:Value)(x y:List Nat)(hx:AL (fun _=>True) w vx (ints x))(hy:AL (fun _=>True) w vy (ints y))(hl:x.length=y.length):
  Calls Tryz.prog 49 #[vx,vy] w fun e w'=>e= .returned (.int .i64 (cmpL x y))∧w=w':=by
 have hm:(x.length:Int)≤9223372036854775807:=by
  obtain⟨_,_,_,h1,h2,_⟩:=hx;rw[BL]at h1;unfold maxLen at h2;omega
 obtain⟨aX,cX,rfl,hcx⟩:=hx.open;obtain⟨aY,cY,rfl,hcy⟩:=hy.open;rw[←hl]at hcy hy ⊢;have HX:=hid hx;have HY:=hid hy;have HL:=hid hl;clear hx hy hl;go_enter Tryz.func49,Tryz.ntmps49;go_wp2_with fail;go_loop [11] (fun iv=>∃k:Nat,k≤x.length∧iv= .int .i64 (k:Int)∧Hid (cmpL (x.drop k) (y.drop k)=cmpL x y)) (fun iv=>x.length-(intOf iv).toNat);case atStart=>exact⟨0,AU _,rfl,hid rfl⟩
 case round=>
  obtain⟨k,hk,rfl,hR⟩:=hrel;by_cases hlt:k<x.length
  ·obtain⟨a,ha⟩:∃a,x[k]?=some a:=⟨_,AO hlt⟩;obtain⟨c,hc⟩:∃c,y[k]?=some c:=⟨_,AO (by rw[←HL.out];exact hlt)⟩;obtain⟨bX,oX,rfl,_,_,Fh⟩:=HX.out.at ha;obtain⟨bY,oY,rfl,_,_,bS⟩:=HY.out.at hc;have HD:=hid ((AH5 ha hc).symm.trans hR.out);have hd:decide ((k:Int)<(x.length:Int))=true:=by simp;omega
   have hd2:decide ((k:Int)≥(x.length:Int))=false:=by simp;omega
   clear ha hc;go_wp2_with fail;refine(gX _ _ _).mono ?_;rintro e w' ⟨rfl,rfl⟩;rcases TN a c with h|h|h
   ·have HC:=hid (show Du a c= -1 by simp[Du,h]);have HR:=hid (show -1=cmpL x y by have:=HD.out;rwa[Bo h]at this);rw[HC.out];clear h;go_wp2_with fail;go_ret;exact⟨by rw[←HR.out];rfl,rfl⟩
   ·subst h;have HC:=hid (show Du a a=0 by simp[Du]);have HR:=hid (show cmpL (x.drop (k+1)) (y.drop (k+1))=cmpL x y by have:=HD.out;rwa[BD (Nc _),BD (Nc _)]at this);rw[HC.out];go_wp2_with fail;go_round;case rel=>exact⟨k+1,by omega,by go_num,HR⟩
    case measure=>simp[intOf];omega
   ·have HC:=hid (show Du a c=1 by simp[Du,h];omega);have HR:=hid (show 1=cmpL x y by have:=HD.out;rwa[BD (by omega),Bo h]at this);rw[HC.out];clear h;go_wp2_with fail;go_ret;exact⟨by rw[←HR.out];rfl,rfl⟩
  ·obtain rfl:k=x.length:=by omega
   have hd:decide ((x.length:Int)<(x.length:Int))=false:=by simp
   have HR:=hid (show 0=cmpL x y by have:=hR.out;rw[Nb]at this;simpa[cmpL]using this);go_wp2_with fail;go_ret;exact⟨by rw[←HR.out];rfl,rfl⟩
end Go.Proofs.YtaadbccidfdniaaGreat.dM
namespace Go.Proofs.YtaadbccidfdniaaGreat.dN
open Go.RowKit Go.Lib Go.Sort Go.Proofs.YtaadbccidfdniaaGreat AB dM
theorem AA8 (a b:Nat)(x y:List Nat):cmpL (a::x) (b::y)=if a<b then -1 else if b<a then 1 else cmpL x y:=rfl
theorem pR:∀x:List Nat,cmpL x x=0
 |[]=>rfl
 |a::x=>by rw[AA8,BD (Nc _),BD (Nc _),pR x]
theorem AAY (a b:Nat)(x y:List Nat):cmpL (a::x) (b::y)<0↔a<b∨(a=b∧cmpL x y<0):=by
 rw[AA8];by_cases h1:a<b
 ·simp[h1]
 ·by_cases h2:b<a
  ·rw[BD h1,Bo h2];constructor
   ·intro h;omega
   ·rintro(h|⟨h,_⟩)<;>omega
  ·obtain rfl:a=b:=by omega
   simp
theorem AAj:∀x y z:List Nat,x.length=y.length→y.length=z.length→cmpL x y<0→cmpL y z<0→cmpL x z<0
 |[],y,z,h1,h2,h3,_=>by
  cases y with
  |nil=>exact absurd h3 (by simp[cmpL])
  |cons _ _=>simp at h1
 |a::x,[],z,h1,h2,h3,_=>by simp at h1
 |a::x,b::y,[],h1,h2,h3,_=>by simp at h2
 |a::x,b::y,c::z,h1,h2,h3,h4=>by
  rw[AAY]at *;have ih:=AAj x y z (by simpa using h1) (by simpa using h2);rcases h3 with h3|⟨rfl,h3⟩
  ·rcases h4 with h4|⟨rfl,h4⟩
   ·exact .inl (by omega)
   ·exact .inl h3
  ·rcases h4 with h4|⟨rfl,h4⟩
   ·exact .inl h4
   ·exact .inr ⟨rfl,ih h3 h4⟩
theorem AAZ:∀x y z:List Nat,x.length=y.length→y.length=z.length→¬cmpL x y<0→¬cmpL y z<0→¬cmpL x z<0
 |[],[],[],_,_,_,_=>by simp[cmpL]
 |[],_::_,_,h1,_,_,_=>by simp at h1
 |_::_,[],_,h1,_,_,_=>by simp at h1
 |[],[],_::_,_,h2,_,_=>by simp at h2
 |a::x,b::y,[],h1,h2,h3,_=>by simp at h2
 |a::x,b::y,c::z,h1,h2,h3,h4=>by
  rw[AAY]at *;have ih:=AAZ x y z (by simpa using h1) (by simpa using h2);rintro(h|⟨rfl,h⟩)
  ·rcases TN a b with h5|h5|h5
   ·exact h3 (.inl h5)
   ·subst h5;exact h4 (.inl h)
   ·exact h4 (.inl (by omega))
  ·rcases TN a b with h5|h5|h5
   ·exact h3 (.inl h5)
   ·subst h5;exact ih (fun h6=>h3 (.inr ⟨rfl,h6⟩)) (fun h6=>h4 (.inr ⟨rfl,h6⟩)) h
   ·exact h4 (.inl h5)
abbrev Rw (B n:Nat)(w:World):Type:={ p:Value×List Nat // Ck 3 B w p.1 p.2∧p.2.length=n }
def encR {B n:Nat}{w:World}(x:Rw B n w):Value:=x.1.1
def nH {B n:Nat}{w:World}(x y:Rw B n w):Int:=cmpL x.1.2 y.1.2
theorem qp (B n:Nat)(w:World):OneCell (encR (B:=B) (n:=n) (w:=w)):=by
 rintro⟨⟨u,r⟩,⟨⟨g,c,h⟩,_⟩,_⟩;show u.oneCell'=true;simp only at h;rw[h];rfl
theorem swo (B n:Nat)(w:World):SWO (ltOf (nH (B:=B) (n:=n) (w:=w))) where
 irrefl x:=by simp[ltOf,nH,pR]
 trans x y z h1 h2:=by
  exact IK (AAj _ _ _ (x.2.2.trans y.2.2.symm) (y.2.2.trans z.2.2.symm) (TR h1) (TR h2))
 ntrans x y z h1 h2:=by
  exact GX (AAZ _ _ _ (x.2.2.trans y.2.2.symm) (y.2.2.trans z.2.2.symm) (of_decide_eq_false h1) (of_decide_eq_false h2))
section
variable {α:Type} [Inhabited α]
theorem ABs {w:World}{enc:α→Value}{g n:Nat}{os:Array Obj}{cur:Array Value}{e:TypeId}{fr:Nat×Nat}(d:Array α)(hb:w.heap[g]?=some (.cells cur e fr)):
  (sortWorld enc w g 0 n d os).heap[g]?=some (.cells (putCells enc 0 d cur) e fr):=by
 have hg:g<w.heap.size:=(Ba.1 hb).1;unfold sortWorld;rw[heap_grow_old _ _ (by simpa using hg)];simp[putRow,mapBlock,Sort.ahead,Array.getElem?_modify,hb,onCells]
theorem fT {w:World}{enc:α→Value}{g n:Nat}{os:Array Obj}(d:Array α):AA (fun k=>k≠g) w (sortWorld enc w g 0 n d os):=by
 unfold sortWorld;refine⟨by simp,fun k hne hk=>?_⟩;rw[heap_grow_old _ _ (by simpa using hk)];have:g≠k:=fun e=>hne e.symm;simp[putRow,mapBlock,Sort.ahead,Array.getElem?_modify,this]
theorem ABt (enc:α→Value)(cur:Array Value)(d:Array α)(h:d.size≤cur.size):(putCells enc 0 d cur).toList.take d.size=d.toList.map enc:=by
 apply Oi;intro j;by_cases hj:j<d.size
 ·rw[YT hj,TL];simp[putCells,hj,show j<cur.size by omega]
 ·rw[List.getElem?_take_eq_none (by omega),J9 (by simp;omega)]
theorem AA9 {w:World}{enc:α→Value}{g:Nat}{cur:Array Value}{e:TypeId}{d:Array α}(hb:w.heap[g]?=some (.cells cur e (0,0)))(ht:cur.toList.take d.size=d.toList.map enc):Holds enc w g 0 d:=by
 intro j hj;refine⟨?_,by simp[World.frozen?,hb]⟩;have h1:(cur.toList.take d.size)[j]?=(d.toList.map enc)[j]?:=by rw[ht]
 rw[YT hj]at h1;simp only[World.cell?,hb,Cg];simp only[Option.isSome_none,Bool.false_eq_true,if_false];rw[←TL,h1];simp[hj]
end
def Asc (l:List (List Nat)):Prop:=l.Pairwise fun a b=>¬cmpL b a<0
theorem ALF {B g:Nat}{w:World}{cur:Array Value}(hg:w.heap[g]?=some (.cells cur 64 (0,0))){u:Value}{r:List Nat}(h1:Ck 3 B w u r):AL (fun k=>k≠g) w u (ints r):=by
 have h3:=h1.sl;obtain⟨⟨gu,c,rfl⟩,h4⟩:=h1;rcases h4.2 with⟨h5,_⟩|⟨g',cap,cur',h5,_,h6,_⟩
 ·cases h5
 ·cases h5;obtain⟨ao,c',e1,e2,e3,e0,e4⟩:=h3;refine⟨ao,c',e1,e2,e3,e0,fun i x hx=>?_⟩;obtain⟨b,o,f1,f2,f3,f4⟩:=e4 i x hx;refine⟨b,o,f1,?_,f3,f4⟩;subst f1;have e5:gu=b:=by
   have:=BM Value.ownBlock e1;simpa[Value.ownBlock]using this
  rintro rfl;rw[e5,hg]at h6;simp at h6
theorem AJG (B n:Nat)(w:World)(hn:n≤1000)(g size:Nat)(cur:Array Value)(hg:w.heap[g]?=some (.cells cur 64 (0,0)))(ax:Rw B n w):
  letI:Inhabited (Rw B n w):=⟨ax⟩
  CmpReads Tryz.prog 49 #[] (encR (B:=B) (n:=n) (w:=w)) nH g 0 size w:=by
 letI:Inhabited (Rw B n w):=⟨ax⟩
 intro m os dk hs x y;have hk:=fT (w:=w) (enc:=encR (B:=B) (n:=n) (w:=w)) (g:=g) (n:=m) (os:=os) dk;have hr:∀z:Rw B n w,AL (fun _=>True) (sortWorld (encR (B:=B) (n:=n) (w:=w)) w g 0 m dk os) z.1.1 (ints z.1.2):=fun z=>by
  exact AL.mono (AL.keep (S:=fun k=>k≠g) (ALF hg z.2.1) hk) (fun _ _=>trivial)
 refine(AHA _ _ _ _ _ (hr x) (hr y) (x.2.2.trans y.2.2.symm)).mono ?_;rintro e w' ⟨rfl,rfl⟩;exact⟨rfl,0,rfl⟩
def ALt (B:Nat)(v:Value)(F:List (List Nat))(w:World)(e:Ending)(w':World):Prop:=
 e= .returned (.tuple #[])∧∃F',F'.Perm F∧Asc F'∧Own2 64 3 B w' v F'∧AA (fun k=>some k≠v.ownBlock) w w'∧Below (min B w.heap.size) w w'
theorem qM (B n:Nat)(hn:n≤1000)(w:World)(v:Value)(F:List (List Nat))(hF:Own2 64 3 B w v F)(hbig:F.length≤1000000000)(hl:∀r∈F,r.length=n):
  Calls Tryz.prog 48 #[v,.func (.func 49) #[] #[]] w (ALt B v F w):=by
 obtain⟨us,h1,h2,h4⟩:=hF;rcases h1.2 with⟨rfl,h5⟩|⟨g,cap,cur,rfl,hB,hg,hc1,hc2,hc3,hc4⟩
 ·obtain rfl:F=[]:=D8 h5;have hc:=AnyF.slices_SortFunc_none ({ Tryz.zM with }:SlLaysF0.n6 _ _) none 0 (.func (.func 49) #[] #[]) w;refine hc.mono ?_;rintro e w' ⟨rfl,rfl⟩;exact⟨rfl,[],List.Perm.refl _,List.Pairwise.nil,Own2.nil _ _ _ _,AA.refl _ _,A7 _ _⟩
 ·cases F with
  |nil=>
   have hc:=AnyF.slices_SortFunc_none ({ Tryz.zM with }:SlLaysF0.n6 _ _) (some ⟨g,0,none⟩) cap (.func (.func 49) #[] #[]) w;refine hc.mono ?_;rintro e w' ⟨rfl,rfl⟩;exact⟨rfl,[],List.Perm.refl _,List.Pairwise.nil,⟨us,h1,h2,h4⟩,AA.refl _ _,A7 _ _⟩
  |cons r0 F0=>
   generalize zN:r0::F0=F at *;have hpos:0<F.length:=by rw[←zN];simp
   have hget:∀i:Fin F.length,∃u,us[i.1]?=some u∧Ck 3 B w u F[i.1]∧(F[i.1]).length=n:=fun i=>by
    obtain⟨u,hu⟩:∃u,us[i.1]?=some u:=⟨_,AO (by rw[h2];exact i.2)⟩;exact⟨u,hu,h4 i.1 _ u (AO i.2) hu,hl _ (Ke i.2)⟩
   let dd:Fin F.length→Rw B n w:=fun i=>⟨(us[i.1]'(by rw[h2];exact i.2),F[i.1]),by
    obtain⟨u,hu,h5,h6⟩:=hget i;obtain⟨hi,e⟩:=Ag.1 hu;rw[e];exact⟨h5,h6⟩⟩
   letI:Inhabited (Rw B n w):=⟨dd ⟨0,hpos⟩⟩
   let d:Array (Rw B n w):=Array.ofFn dd
   have hds:d.size=F.length:=by simp[d]
   have Lp:d.toList.map encR=us:=by
    apply TQ
    ·simp[d,h2]
    ·intro i q1 q2;simp[d,dd,encR]
   have hdF:d.toList.map (fun x=>x.1.2)=F:=by
    apply TQ
    ·simp[d]
    ·intro i q1 q2;simp[d,dd]
   have hH:Holds (encR (B:=B) (n:=n) (w:=w)) w g 0 d:=AA9 hg (by rw[hds,Lp,←hc4,Ic]);have hgl:g<w.heap.size:=(Ba.1 hg).1;have eg:∀args w,(callFunc 49 args).run Tryz.prog w= .ok (.enter 49 args) w:=enters_of Tryz.func49 (by kernel_rfl) rfl;have hc:=Any.slices_SortFunc Tryz.zM (encR (B:=B) (n:=n) (w:=w)) (qp B n w) nH (swo B n w) 49 #[] g 0 cap d w eg (AJG B n w hn g d.size cur hg (dd ⟨0,hpos⟩)).lays hH hgl (by rw[hds];omega);rw[hds]at hc;refine hc.mono ?_;rintro e w' ⟨rfl,d',m,os,⟨p1,p2,p3⟩,hs,rfl⟩;have Nv:d'.size=F.length:=by rw[p1,hds]
   have hperm:d'.toList.Perm d.toList:=by
    have e1:d'.extract 0 F.length=d':=by rw[←Nv];exact Array.extract_size
    have e2:d.extract 0 F.length=d:=by rw[←hds];exact Array.extract_size
    rwa[e1,e2]at p3
   have hk:=fT (w:=w) (enc:=encR (B:=B) (n:=n) (w:=w)) (g:=g) (n:=m) (os:=os) d';have hlen':(d'.toList.map fun x=>x.1.2).length=F.length:=by simp[Nv]
   refine⟨rfl,d'.toList.map (fun x=>x.1.2),?_,?_,⟨d'.toList.map encR,?_,by simp,fun i r u hr hu=>?_⟩,hk.mono (fun k h e=>h (by rw[e];rfl)),⟨rfl,rfl,rfl,hk.size,fun k hk'=>hk.block k (by omega) (by omega)⟩⟩
   ·exact(hperm.map _).trans (by rw[hdF])
   ·refine List.pairwise_iff_getElem.2 fun i j hi hj hij=>?_;have hi':i<d'.size:=by simpa using hi
    have hj':j<d'.size:=by simpa using hj
    have:=hs i j (AU _) hij (by omega);rw[getElem!_pos d' j hj',getElem!_pos d' i hi']at this;simp only[YQ,Array.getElem_toList];exact of_decide_eq_false this
   ·rw[hlen'];refine⟨by simp[Nv],.inr ⟨g,cap,_,rfl,hB,ABs d' hg,hc1,hc2,by simp[putCells,hc3],?_⟩⟩;rw[Ic,←Nv];exact ABt _ cur d' (by rw[Nv,hc3];omega)
   ·simp only[Bn,II]at hr hu;obtain⟨x,hx,rfl⟩:=hr;obtain⟨y,hy,rfl⟩:=hu;rw[hx]at hy;cases hy;have h5:=x.2.1;refine⟨h5.1,?_⟩;have h6:=h5.2;refine⟨h6.1,?_⟩;rcases h6.2 with h7|⟨g',cap',cur',e1,e2,e3,e4⟩
    ·exact .inl h7
    ·refine .inr ⟨g',cap',cur',e1,e2,?_,e4⟩;have hne:g'≠g:=by
      rintro rfl;rw[hg]at e3;simp at e3
     rw[hk.block g' hne (Ba.1 e3).1];exact e3
end Go.Proofs.YtaadbccidfdniaaGreat.dN
namespace Go.Proofs
open Go.Shelf
def Tryz.AJH:Go.Shelf.Ren:=⟨fun|6=>40|15=>78|14=>77|28=>119|29=>120|20=>111|21=>112|22=>113|23=>114|24=>115|25=>116|26=>117|27=>118|46=>150|47=>151|48=>152|49=>153|50=>154|57=>174|n=>n,fun|22=>26|24=>25|25=>83|3=>3|39=>124|0=>0|53=>160|55=>71|4=>4|46=>153|45=>152|50=>157|5=>5|9=>9|66=>186|70=>190|76=>208|77=>209|n=>n,fun|n=>n⟩
theorem Tryz.vg:Go.Proofs.SlLaysF.n6 Tryz.prog Tryz.AJH:={
 mixed:=by kernel_rfl
 f6:=⟨Tryz.f40.name,by decide,Tryz.func40.trans (congrArg some (by kernel_rfl))⟩
 f14:=⟨Tryz.f77.name,by decide,Tryz.func77.trans (congrArg some (by kernel_rfl))⟩
 f15:=Tryz.func78.trans (congrArg some (by kernel_rfl))
 f20:=⟨Tryz.f111.name,by decide,Tryz.func111.trans (congrArg some (by kernel_rfl))⟩
 f21:=⟨Tryz.f112.name,by decide,Tryz.func112.trans (congrArg some (by kernel_rfl))⟩
 f22:=⟨Tryz.f113.name,by decide,Tryz.func113.trans (congrArg some (by kernel_rfl))⟩
 f23:=⟨Tryz.f114.name,by decide,Tryz.func114.trans (congrArg some (by kernel_rfl))⟩
 f24:=⟨Tryz.f115.name,by decide,Tryz.func115.trans (congrArg some (by kernel_rfl))⟩
 f25:=⟨Tryz.f116.name,by decide,Tryz.func116.trans (congrArg some (by kernel_rfl))⟩
 f26:=⟨Tryz.f117.name,by decide,Tryz.func117.trans (congrArg some (by kernel_rfl))⟩
 f27:=⟨Tryz.f118.name,by decide,Tryz.func118.trans (congrArg some (by kernel_rfl))⟩
 f28:=Tryz.func119.trans (congrArg some (by kernel_rfl))
 f29:=Tryz.func120.trans (congrArg some (by kernel_rfl))
 f46:=⟨Tryz.f150.name,by decide,Tryz.func150.trans (congrArg some (by kernel_rfl))⟩
 f47:=Tryz.func151.trans (congrArg some (by kernel_rfl))
 f48:=Tryz.func152.trans (congrArg some (by kernel_rfl))
 f49:=⟨Tryz.f153.name,by decide,Tryz.func153.trans (congrArg some (by kernel_rfl))⟩
 f50:=⟨Tryz.f154.name,by decide,Tryz.func154.trans (congrArg some (by kernel_rfl))⟩
 f57:=⟨Tryz.f174.name,by decide,Tryz.func174.trans (congrArg some (by kernel_rfl))⟩
 t0:=Tryz.underlying0
 a0:=Tryz.isAgg0
 z0:=Tryz.sizeOf0
 v0:=Tryz.zeroValue0
 t3:=Tryz.underlying3
 a3:=Tryz.isAgg3
 z3:=Tryz.sizeOf3
 v3:=Tryz.zeroValue3
 t4:=Tryz.underlying4
 a4:=Tryz.isAgg4
 z4:=Tryz.sizeOf4
 v4:=Tryz.zeroValue4
 t5:=Tryz.underlying5
 a5:=Tryz.isAgg5
 z5:=Tryz.sizeOf5
 v5:=Tryz.zeroValue5
 t9:=Tryz.underlying9
 a9:=Tryz.isAgg9
 z9:=Tryz.sizeOf9
 v9:=Tryz.zeroValue9
 t22:=Tryz.underlying26
 a22:=Tryz.isAgg26
 z22:=Tryz.sizeOf26
 v22:=Tryz.zeroValue26
 a24:=Tryz.isAgg25
 z24:=Tryz.sizeOf25
 t25:=Tryz.underlying83
 a25:=Tryz.isAgg83
 z25:=Tryz.sizeOf83
 v25:=Tryz.zeroValue83
 t39:=Tryz.underlying124
 a39:=Tryz.isAgg124
 z39:=Tryz.sizeOf124
 v39:=Tryz.zeroValue124
 t45:=Tryz.underlying152
 a45:=Tryz.isAgg152
 z45:=Tryz.sizeOf152
 v45:=Tryz.zeroValue152
 t46:=Tryz.underlying153
 a46:=Tryz.isAgg153
 z46:=Tryz.sizeOf153
 v46:=Tryz.zeroValue153
 t50:=Tryz.underlying157
 a50:=Tryz.isAgg157
 z50:=Tryz.sizeOf157
 v50:=Tryz.zeroValue157
 t53:=Tryz.underlying160
 a53:=Tryz.isAgg160
 z53:=Tryz.sizeOf160
 v53:=Tryz.zeroValue160
 t55:=Tryz.underlying71
 a55:=Tryz.isAgg71
 z55:=Tryz.sizeOf71
 v55:=Tryz.zeroValue71
 t66:=Tryz.underlying186
 a66:=Tryz.isAgg186
 z66:=Tryz.sizeOf186
 v66:=Tryz.zeroValue186
 t70:=Tryz.underlying190
 a70:=Tryz.isAgg190
 z70:=Tryz.sizeOf190
 v70:=Tryz.zeroValue190
 t76:=Tryz.underlying208
 a76:=Tryz.isAgg208
 z76:=Tryz.sizeOf208
 v76:=Tryz.zeroValue208
 t77:=Tryz.underlying209
 a77:=Tryz.isAgg209
 z77:=Tryz.sizeOf209
 v77:=Tryz.zeroValue209 }
end Go.Proofs
