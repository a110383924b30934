import Derived.Test.YtlmlamcoeegkbaaGreatZ0
import Derived.Test.YtlmlamcoeegkbaaGreatZB
import Derived.Test.YtlmlamcoeegkbaaGreatZv
import Derived.Deep.AppendLies
import Derived.Test.YtlmlamcoeegkbaaGreatZn
import Derived.Test.YtlmlamcoeegkbaaGreatZe
/-
  Lemmas for the law FnOrbits, in short spelling.
-/
open Go.Lib (hid)
set_option linter.unusedVariables false
set_option linter.unusedSimpArgs false
set_option maxRecDepth 100000
set_option maxHeartbeats 40000000
namespace Go.Proofs.YtlmlamcoeegkbaaGreat.OuH
open Go.RowKit Go.Maps Go.Proofs.YtlmlamcoeegkbaaGreat Tow NumT GenD SpecB FindA CoB OuP OuG
open Go.Proofs.YtlmlamcoeegkbaaGreat.ImplD (NN NN_some)
open Go.Proofs.YtlmlamcoeegkbaaGreat.SfB (cnj cnj_El)
open Go.Proofs.YtlmlamcoeegkbaaGreat.SfH (wpList_insert_own)
structure CI (T:Tw)(x:List Nat)(rows:List (List Nat)):Prop where
 nd:rows.Nodup
 mem:x∈rows
 el:∀y∈rows,El T y∧RO T x y
theorem CI.nums {T:Tw}(hT:Wf T){x:List Nat}{rows:List (List Nat)}(h:CI T x rows){y:List Nat}(hy:El T y):num T y∈rows.map (num T)↔y∈rows:=by
 rw[zq35];constructor
 ·rintro⟨z,hz,e⟩;have:=zq38 (at_ T) e;rw[at_num hT (h.el z hz).1,at_num hT hy]at this;rw[←this];exact hz
 ·exact fun h=>⟨y,h,rfl⟩
theorem CI.len {T:Tw}(hT:Wf T){x:List Nat}{rows:List (List Nat)}(h:CI T x rows):rows.length≤sz T:=by
 have hn:(rows.map (num T)).Nodup:=CcB.nodup_map (P:=fun y=>El T y) (fun a b ha hb e=>by
  have:=zq38 (at_ T) e;rwa[at_num hT ha,at_num hT hb]at this) (fun a ha=>(h.el a ha).1) h.nd
 have:=zq120 (l₂:=List.range (sz T)) hn (fun k hk=>by
  obtain⟨y,hy,rfl⟩:=zq35.1 hk;exact zq62.2 (num_lt (h.el y hy).1 hT))
 simpa using this
theorem CI.push {T:Tw}(hT:Wf T)(hg:Tow.Good T){x:List Nat}{rows:List (List Nat)}(h:CI T x rows){r g:List Nat}(hr:r∈rows)(hG:El T g)(hn:cnj T r g∉rows):CI T x (rows++[cnj T r g]):=by
 refine⟨List.nodup_append.2 ⟨h.nd,by simp,fun a ha b hb e=>?_⟩,zq68.2 (.inl h.mem),fun y hy=>?_⟩
 ·rw[zq54]at hb;subst hb;subst e;exact hn ha
 ·rcases zq68.1 hy with hy|hy
  ·exact h.el y hy
  ·rw[zq54.1 hy];exact⟨cnj_El hT hg hG (h.el r hr).1,RO.conj hT hg (h.el r hr).2 hG⟩
def mkC (T:Tw)(rows:List (List Nat))(k:Nat):Bool:=decide (k∈rows.map (num T))
theorem mkC_push (T:Tw)(rows:List (List Nat))(y:List Nat)(k:Nat):(mkC T rows k||k==num T y)=mkC T (rows++[y]) k:=by
 rw[Bool.eq_iff_iff];simp[mkC]
theorem MapM.ne {w:World}{gm n z B m:Nat}{f:Nat→Bool}{e:TypeId}{v:Value}{us:List Value}(h:MapM w gm n z f)(ho:w.ownsRow B e 1 v m us):v.ownBlock≠some gm:=by
 rcases ho.2 with⟨rfl,_⟩|⟨g,cap,cur,rfl,_,hg,_⟩
 ·simp[Value.ownBlock]
 ·simp only[Value.ownBlock,ne_eq,zq42];rintro rfl;exact h.notCells hg
theorem ownE_sl2 {B:Nat}{w:World}{v:Value}{L:List (Nat×List Int)}(h:OwnE B w v L):Sl2 (fun b=>B≤b∧b<w.heap.size) w v (L.map (·.2)):=by
 obtain⟨ao,c,h1,h2,h3,h0,h4⟩:=h.rows;refine⟨ao,c,by simpa using h1,by simpa using h2,h3,h0,fun i x hx=>?_⟩;simp only[zq20,zq46]at hx;obtain⟨p,hp,rfl⟩:=hx;obtain⟨b,o,e1,e2,e3,u,e4,e5⟩:=h4 i p hp;exact⟨b,o,e1,⟨e2,e3⟩,e3,u,e4,e5.mono (fun k hk=>by rw[hk];exact h.lt p (zq5 hp))⟩
def NewM (m:Nat)(y:List Nat)(w:World)(e:Ending)(w':World):Prop:=∃g c,e= .returned (.slice (some ⟨g,0,none⟩) m c)∧Own w.heap.size w' (.slice (some ⟨g,0,none⟩) m c) (ints y)∧Below w.heap.size w w'
theorem NewM.of {m:Nat}{y:List Nat}{w w':World}{e:Ending}(h:NewS (ints y) w e w')(hl:y.length=m):NewM m y w e w':=by
 obtain⟨g,c,h1,h2,h3⟩:=h;rw[ints_length,hl]at h1 h2;exact⟨g,c,h1,h2,h3⟩
theorem own_row {B m g c:Nat}{w:World}{y:List Nat}(h:Own B w (.slice (some ⟨g,0,none⟩) m c) (ints y))(hl:y.length=m):RowOk 2 B w (.slice (some ⟨g,0,none⟩) m c) y:=by
 refine⟨⟨g,c,by rw[hl]⟩,?_⟩;unfold Own at h;rwa[ints_length]at h
def ClsR (T:Tw)(x:List Nat)(w:World)(e:Ending)(w':World):Prop:=∃v rows,e= .returned v∧Own2 24 2 w.heap.size w' v rows∧CI T x rows∧Srt.Asc rows∧Below w.heap.size w w'
theorem classOf_any (T:Tw)(hT:Wf T)(hs:Small T)(hg:Tow.Good T)(hz:sz T≤729)(w:World)(b o:Nat)(vx:Value)(x:List Nat)(hP:PtrP Any w b o (ofTw T))(hx:SlI Any w vx (ints x))(hn:NN vx)(hxE:El T x):
  Calls Tryz.prog 88 #[.pointer (some ⟨b,o,none⟩),vx] w (ClsR T x w):=by
 obtain⟨i0,hi0,hz0,hz1,hz2⟩:=zq41 infoR;obtain⟨m,hm⟩:∃m,T.length=m:=⟨_,rfl⟩;have hm6:m≤6:=by rw[←hm];exact hs.1
 have HM:=hid hm;have HT:=hid (And.intro hT (And.intro hs hg));have HP:=hid hP;have HX:=hid hx;have HXE:=hid hxE;have hxl:(ints x).length=m:=by rw[ints_length,El_length hxE,hm]
 have hcl:=ImplD.clone_some Any vx (ints x) w hx hn (by omega);have HCL:=hid (show Calls Tryz.prog 125 #[vx] w fun e w'=>∃g c,e= .returned (.slice (some ⟨g,0,none⟩) m c)∧Own w.heap.size w' (.slice (some ⟨g,0,none⟩) m c) (ints x)∧Below w.heap.size w w' from hcl.mono fun e w' h=>by
  obtain⟨g,c,h1,h2,h3⟩:=h;rw[hxl]at h1 h2;exact⟨g,c,h1,h2,h3⟩)
 have HNM:=hid (fun W u (y:List Nat) (h1:PtrP Any W b o (ofTw T)) (h2:SlI Any W u (ints y)) (h3:El T y)=>ImplN.number_any T hT hs.1 hz W b o u y h1 h2 h3);have HGE:=hid (fun W h=>gens_any T hs.1 W b o h);have HCJ:=hid (fun W va vc y g h1 h2 h3 h4 h5 h6 h7=>conj_any T hT hs hg W b o va vc y g h1 h2 h3 h4 h5 h6 h7);have hmm:= @run_makeMap Tryz.prog;clear hP hx hn hm hcl;go_enter Tryz.func88,Tryz.ntmps88;go_upto_region 2 with(go_at_call 125;refine HCL.out.mono ?_;rintro e w1 ⟨g0,c0,rfl,ho1,hb1⟩);have hxm:x.length=m:=by rw[←HM.out];exact El_length HXE.out
 obtain⟨g1,hg1⟩:∃g1,w1.heap.size=g1:=⟨_,rfl⟩;obtain⟨w2,hw2⟩:∃w2,w2=w1.alloc (.cells #[.slice (some ⟨g0,0,none⟩) m c0] 24):=⟨_,rfl⟩;rw[←hw2,hg1];have hs2:w2.heap.size=g1+1:=by rw[hw2,←hg1];simp
 have hB2:Below w.heap.size w w2:=by rw[hw2];exact hb1.alloc hb1.size _
 have hO2:Own2 24 2 w.heap.size w2 (.slice (some ⟨g1,0,none⟩) 1 1) [x]:=by
  refine⟨[.slice (some ⟨g0,0,none⟩) m c0],?_,rfl,fun i r u hr hu=>?_⟩
  ·rw[hw2,←hg1];exact zq98 (base:=w.heap.size) (e:=24) (size:=1) w1 #[.slice (some ⟨g0,0,none⟩) m c0] 1 hb1.size (by unfold maxLen;omega) rfl
  ·match i,hr,hu with
   |0,hr,hu=>
    simp at hr hu;subst hr;subst hu;refine⟨⟨g0,c0,by rw[hxm]⟩,?_⟩;have h:=ho1.alloc (.cells #[.slice (some ⟨g0,0,none⟩) m c0] 24);rw[←hw2]at h;unfold Own at h;rwa[ints_length]at h
 have hm0:(w2.alloc (.map #[] 0)).ownsMap Tryz.prog 2 (plainElem (H:=Unit) Tryz.prog 4) w2.heap.size 0 (.map []):=World.ownsMap_made _ _ _ _;have hB3:Below w.heap.size w (w2.alloc (.map #[] 0)):=hB2.alloc hB2.size _;have HN3:=hid (HNM.out (w2.alloc (.map #[] 0)) vx x (HP.out.keep (Keep.of_below hB3)) (HX.out.keep (Keep.of_below hB3)) HXE.out);have hO3:=hO2.of_below (((zq3 _ w2).alloc zqN (.map #[] 0)));have hnx:num T x<730:=by have:=num_lt HXE.out HT.out.1;omega
 rw[hs2]at hm0;have hs3:(w2.alloc (.map #[] 0)).heap.size=g1+2:=by simp[hs2]
 have HB3:=hid hB3;have HO3:=hid hO3;have HM0:=hid hm0;have HS3:=hid hs3;have HW0:=hid (show w.heap.size≤g1 by rw[←hg1];exact hb1.size);clear hw2 hg1 hb1 ho1 hB2 hO2 hm0 hB3 hO3 hs3;go_upto_region 3 with(first|(go_at_call 49;refine HN3.out.mono ?_;rintro e w4 ⟨rfl,hb4⟩;have hm4:w4.ownsMap Tryz.prog 2 (plainElem (H:=Unit) Tryz.prog 4) (g1+1) 0 (.map []):=(by obtain⟨es,clock,hh,r⟩:=HM0.out;exact⟨es,clock,(hb4.block (g1+1) (by have:=HS3.out;omega)).trans hh,r⟩))|(refine wpList_insert_own _ rfl _ _ _ 78 rfl 2 4 law Tryz.underlying78 (plainElem Tryz.prog 4) (g1+1) 0 (.map []) rfl hm4 (by decide) _ _ (.int .i64 (num T x:Int)) rfl rfl (keyOf_int_mk Tryz.underlying2 (WalkArith.wf_i64 (by omega))) (.lit (.bool true)) [] (plainElem_bool Tryz.underlying4 true) ?_;intro w5 hm5 hgrow5));have HGI:=hid (show CI T x [x] from⟨by simp,by simp,fun y hy=>by rw[zq54.1 hy];exact⟨HXE.out,RO.refl HT.out.1 HT.out.2.2 HXE.out⟩⟩);have hB4:Below w.heap.size w w4:=HB3.out.trans (hb4.mono HB3.out.size);have HM5:=hid (show MapM w5 (g1+1) 1 (sz T) (mkC T [x]) from MapM.fun_eq (MapM.put (f:=fun _=>false) isMap_empty (fun k _=>rfl) hm5) (fun k _=>by rw[Bool.eq_iff_iff];simp[mkC]));have HO5:=hid (show Own2 24 2 w.heap.size w5 (.slice (some ⟨g1,0,none⟩) 1 1) [x] from own2_map (HO3.out.of_below hb4) (Keep.grown (S:=fun k=>k≠g1+1) hgrow5 (fun k hk=>by simpa using hk)) (fun cs t fr=>by obtain⟨es,clock,hh,r⟩:=hm4;rw[hh];simp));have HB5:=hid (hB4.grown hgrow5 hB4.size (fun g hg=>by cases hg;have:=HW0.out;omega));have HG5:=hid (show g1+1<w5.heap.size by have h1:=hgrow5.size;have h2:=hb4.size;have h3:=HS3.out;omega);have hz63:(sz T:Int)≤729:=by omega
 clear hm5 hm4 hgrow5 hb4 hB4 hnx hmm hxl hxm hs2;go_wp2_with fail;go_loopw [5,7] (fun ov iv wr=>∃(i l:Nat) (rows:List (List Nat)) (a:Option Addr) (c:Nat),ov= .slice a l c∧iv= .int .i64 (i:Int)∧i≤l∧l≤sz T∧Hid (rows.length=l)∧Hid (CI T x rows)∧Hid (Own2 24 2 w.heap.size wr (.slice a l c) rows)∧Hid (∃n,n≤l∧MapM wr (g1+1) n (sz T) (mkC T rows))∧Hid (Below w.heap.size w wr)) (fun _ iv _=>sz T-(intOf iv).toNat);case atStart=>exact⟨0,1,[x],_,_,rfl,rfl,by omega,by have:=HGI.out.len HT.out.1;simpa using this,hid rfl,HGI,HO5,hid ⟨1,zq1 _,HM5.out⟩,HB5⟩
 case round=>
  obtain⟨i,l,rows,a,c,rfl,rfl,hil,hlz,hL,hC,hO,hMP,hB⟩:=hrel;clear HM5 HO5 HB5 HGI;by_cases hlt:i<l
  ·have hd1:decide ((i:Int)<(l:Int))=true:=by simp;omega
   have HIL:=hid hlt;have HLZ:=hid hlz;have HG1:=hid (show g1+1<wr.heap.size from by obtain⟨n,_,h⟩:=hMP.out;exact h.lt);have hPr:=HP.out.keep (Keep.of_below hB.out);have HGC:=hid (HGE.out wr hPr);clear hlt hil hlz hPr;go_wp2_with fail;refine HGC.out.mono ?_;rintro e w6 ⟨v6,rfl,⟨GL,hGL,hGr,-⟩,hb6⟩;have HB6:=hid (hB.out.trans (hb6.mono hB.out.size));have hgv:Sl2 (fun q=>wr.heap.size≤q∧q<w6.heap.size) w6 v6 ((gens T).map ints):=by rw[←hGr];exact ownE_sl2 hGL
   obtain⟨a6,c6,rfl,_,_⟩:=SlG.form hgv;have hgl:((gens T).map ints).length=m:=by rw[zq18,gens,zq18,List.length_range,HM.out]
   rw[hgl]at hgv ⊢;have HGV:=hid hgv;have HGL:=hid hgl;have HO6:=hid (hO.out.of_below hb6);have HM6:=hid (show∃n,n≤l∧MapM w6 (g1+1) n (sz T) (mkC T rows) from by obtain⟨n,h1,h2⟩:=hMP.out;exact⟨n,h1,h2.kept hb6⟩);have HA6:=hid (show∀q,a=some ⟨q,0,none⟩→q<wr.heap.size∨w6.heap.size≤q from fun q e=>by
    obtain⟨us,h1,_⟩:=hO.out;exact .inl (zq8 h1 q (by rw[e];rfl)).2)
   have HSR:=hid (And.intro hb6.size hB.out.size);clear hgv hgl hGL hGr hb6 hO hMP hB HGC;go_wp2_with fail;go_loopw [5,29] (fun ov kv wi=>∃(k l:Nat) (rows:List (List Nat)) (a:Option Addr) (c:Nat),ov= .slice a l c∧kv= .int .i64 (k:Int)∧k≤m∧i<l∧l≤sz T∧Hid (rows.length=l)∧Hid (CI T x rows)∧Hid (Own2 24 2 w.heap.size wi (.slice a l c) rows)∧Hid (∃n,n≤l∧MapM wi (g1+1) n (sz T) (mkC T rows))∧Hid (Keep (fun q=>wr.heap.size≤q∧q<w6.heap.size) w6 wi)∧Hid (∀q,a=some ⟨q,0,none⟩→q<wr.heap.size∨w6.heap.size≤q)∧Hid (Below w.heap.size w wi)) (fun _ kv _=>m-(intOf kv).toNat);case atStart=>exact⟨0,l,rows,_,_,rfl,rfl,zq4 _,HIL.out,HLZ.out,hL,hC,HO6,HM6,hid zqK,HA6,HB6⟩
   case round=>
    rename World=>wi;clear HO6 HM6 HA6 hL hC HIL HLZ hd1;obtain⟨k,l,rows,a,c,rfl,rfl,hk,hil,hlz,hL,hC,hO,hMP,hK,hA,hB⟩:=hrel;by_cases hkm:k<m
    ·obtain⟨y,hy⟩:∃y,(gens T)[k]?=some y:=⟨_,zq0 (by have:=HGL.out;rw[zq18]at this;omega)⟩;have hyE:El T y:=gens_El HT.out.1 y (zq5 hy);obtain⟨bG,oG,vg,rfl,_,hbG,hcG,hrg⟩:=SlG.get (Sl2.keep HGV.out hK.out) (k:=k) (x:=ints y) (by rw[zq20,hy];rfl);obtain⟨r,hr⟩:∃r,rows[i]?=some r:=⟨_,zq0 (by rw[hL.out];exact hil)⟩;obtain⟨gO,capO,u,eO,hBO,hlO,hcO,hru⟩:=hO.out.at hr;rw[hL.out]at eO;injection eO with eA _ eC;subst eA;subst eC;have hrm:=zq5 hr;have hrE:=(hC.out.el r hrm).1;have hPi:=HP.out.keep (Keep.of_below hB.out);have hul:=hru.sl.mono (S':=Any) (fun _ _=>trivial);have hgl:=hrg.mono (S':=Any) (fun _ _=>trivial);have hm0:0<m:=by omega
     have HCC:=hid (show Calls Tryz.prog 51 #[.pointer (some ⟨b,o,none⟩),u,vg] wi (NewM m (cnj T r y) wi) from
      (HCJ.out wi u vg r y hPi hul (ImplD.NN_of hul (by rw[El_length hrE,HM.out];exact hm0)) hgl (ImplD.NN_of hgl (by rw[El_length hyE,HM.out];exact hm0)) hrE hyE).mono fun e w' h=>NewM.of h (by rw[El_length (cnj_El HT.out.1 HT.out.2.2 hyE hrE),HM.out]))
     have HYE:=hid (And.intro hyE (And.intro hrm (cnj_El HT.out.1 HT.out.2.2 hyE hrE)));have hki:(k:Int)<(m:Int):=by omega
     have hii:(i:Int)<(l:Int):=by omega
     have hi0':(0:Int)≤(i:Int):=by omega
     have HKM:=hid hkm;have HIL:=hid (And.intro hil hlz);clear hy hyE hrg hr hru hrm hrE hPi hul hgl hm0 hkm hil hlz hBO;go_wp2_with fail;refine HCC.out.mono ?_;rintro e w7 ⟨g7,c7,rfl,ho7,hb7⟩;obtain⟨z,hze⟩:∃z,cnj T r y=z:=⟨_,rfl⟩;rw[hze]at ho7;have hzE:El T z:=by rw[←hze];exact HYE.out.2.2
     have HZE:=hid (And.intro hze hzE);have hB7:=hB.out.trans (hb7.mono hB.out.size);have HN7:=hid (HNM.out w7 (.slice (some ⟨g7,0,none⟩) m c7) z (HP.out.keep (Keep.of_below hB7)) (ho7.sl.mono (fun _ _=>trivial)) hzE);have HROW:=hid (own_row (ho7.mono (B':=w.heap.size) hB.out.size) (by rw[El_length hzE,HM.out]));have HB7:=hid hB7;have HKL7:=hid hb7;have hzn:num T z<730:=by have:=num_lt hzE HT.out.1;omega
     have HZN:=hid (num_lt hzE HT.out.1);clear hze hzE hB7 ho7 hb7 hcG hbG hcO hlO HCC;go_wp2_with fail;refine HN7.out.mono ?_;rintro e w8 ⟨rfl,hb8⟩;have hb78:=HKL7.out.trans (hb8.mono HKL7.out.size);have HB8:=hid (hB.out.trans (hb78.mono hB.out.size));have HO8:=hid (hO.out.of_below hb78);have HR8:=hid (HROW.out.keep (Keep.of_below (S:=Any) hb8) (fun _ _=>trivial));have HK8:=hid (hK.out.trans (Keep.of_below hb78));have HSW:=hid (show w6.heap.size≤w8.heap.size from zq11 hK.out.size hb78.size);obtain⟨n,hnl,hM0⟩:=hMP.out;have hM8:=hM0.kept hb78;have HM8:=hid hM8;obtain⟨D,hD1,hD2,hD3⟩:=hM8;have hDN:=hD3 (num T z) HZN.out;by_cases hzr:z∈rows
     ·have hmk:mkC T rows (num T z)=true:=zq83 ((hC.out.nums HT.out.1 HZE.out.2).2 hzr);rw[hmk]at hDN;have HDN:=hid hDN;have HMR:=hid (show∃n,n≤l∧MapM w8 (g1+1) n (sz T) (mkC T rows) from⟨n,hnl,HM8.out⟩);clear hzr hmk hDN hD2 hD3 hnl hM0 hMP hO hK hB hb78 hb8;go_wp2_with (at_lookup;refine MapB.wpList_lookup_own_bool _ rfl _ _ 78 rfl 2 4 law Tryz.underlying78 Tryz.underlying4 (zeroB _) (g1+1) n D rfl hD1 _ _ rfl (keyOf_int_mk Tryz.underlying2 (WalkArith.wf_i64 (by omega))) ?_;intro c hat;obtain rfl:c=true:=(by have h:=HDN.out;rw[h]at hat;simpa using hat.symm));go_roundw;case rel=>exact⟨k+1,l,rows,_,_,rfl,by go_num,HKM.out,HIL.out.1,HIL.out.2,hL,hC,HO8,HMR,HK8,hA,HB8⟩
      case measure=>have:=HKM.out;simp[intOf];omega
     ·have hmk:mkC T rows (num T z)=false:=zq67 (fun h=>hzr ((hC.out.nums HT.out.1 HZE.out.2).1 h));rw[hmk]at hDN;have HDN:=hid hDN;have HND:=hid (And.intro hD2 hD3);have HCN:=hid (show CI T x (rows++[z]) from by rw[←HZE.out.1];exact hC.out.push HT.out.1 HT.out.2.2 HYE.out.2.1 HYE.out.1 (by rw[HZE.out.1];exact hzr));have HLN:=hid (show(rows++[z]).length=l+1 by simp[hL.out]);have HLZ:=hid (show l+1≤sz T from by have h:=HCN.out.len HT.out.1;rwa[HLN.out]at h);have hl64:(l:Int)≤729:=by have:=HLZ.out;omega
      have HNL:=hid hnl;have HL64:=hid hl64;clear hzr hmk hDN hD2 hD3 hnl hM0 hMP hO hK hB hb78 hb8 hC hl64;go_upto_region 13 with(first|(at_lookup;refine MapB.wpList_lookup_own_bool _ rfl _ _ 78 rfl 2 4 law Tryz.underlying78 Tryz.underlying4 (zeroB _) (g1+1) n D rfl hD1 _ _ rfl (keyOf_int_mk Tryz.underlying2 (WalkArith.wf_i64 (by omega))) ?_;intro c hat;obtain rfl:c=false:=(by have h:=HDN.out;rw[h]at hat;simpa using hat.symm))|(at_mapUpdate;refine wpList_mapUpdate_own _ rfl _ _ _ 78 rfl 2 4 law Tryz.underlying78 _ (g1+1) n D rfl hD1 (by have:=HNL.out;have:=HL64.out;unfold maxLen;omega) _ _ _ rfl rfl (keyOf_int_mk Tryz.underlying2 (WalkArith.wf_i64 (by omega))) _ [] (plainElem_bool Tryz.underlying4 true) ?_;intro w9 hown9 hgrow9));have HM9:=hid (show MapM w9 (g1+1) (n+1) (sz T) (mkC T (rows++[z])) from MapM.fun_eq (MapM.put HND.out.1 HND.out.2 hown9) (fun q _=>mkC_push T rows z q));have hkg:Keep (fun q=>q≠g1+1) w8 w9:=Keep.grown (S:=fun q=>q≠g1+1) hgrow9 (fun q hq=>by simpa using hq);have hO9:=own2_map HO8.out hkg (fun _ _ _=>HM8.out.notCells);have HR9:=hid (show RowOk 2 w.heap.size w9 (.slice (some ⟨g7,0,none⟩) m c7) z from⟨HR8.out.1,row_map HR8.out.2 hkg (fun _ _ _=>HM8.out.notCells)⟩);have HB9:=hid (HB8.out.grown hgrow9 HB8.out.size (fun q hq=>by cases hq;have:=HW0.out;omega));have hg1w:g1+1<wr.heap.size:=HG1.out;have HK9:=hid (HK8.out.trans (Keep.grown (S:=fun q=>wr.heap.size≤q∧q<w6.heap.size) hgrow9 (fun q hq e=>by cases e;omega)));obtain⟨us,h1,h2,h4⟩:=hO9;rw[hL.out]at h1;have hne9:=MapM.ne HM9.out h1;have h1:=h1.alloc (.cells #[.slice (some ⟨g7,0,none⟩) m c7] 24);have HU:=hid (And.intro h2 h4);have HOB:=hid (fun q (hq:(Value.slice (some ⟨gO,0,none⟩) l c).ownBlock=some q)=>(zq8 h1 q hq));have HNE:=hid hne9;have HS9:=hid hgrow9.size;clear hown9 hgrow9 hkg h2 h4 hne9 hD1;go_wp2_with (at_builtin;(refine zq52 _ rfl _ _ 25 rfl w.heap.size 24 i0 (.slice none 0 0) 1 24 Tryz.underlying25 hi0 hz0 hz1 hz2 rfl (by decide) _ _ _ rfl h1 ⟨w9.heap.size,0,none⟩ 1 1 [.slice (some ⟨g7,0,none⟩) m c7] rfl rfl ?c1 ?c2 (by decide) ?c3 ?c4 ?c5 _ rfl ?_));case c1=>
       intro j u hj
       match j,hj with
       |0,hj=>simp at hj;subst hj;simp[Addr.add]
      case c2=>intro u hu;simp at hu;subst hu;rfl
      case c3=>have:=HL64.out;unfold maxLen;omega
      case c4=>have:=HL64.out;omega
      case c5=>have:=HB9.out.size;simp;omega
      intro g10 c10 w10 hown10 hgrow10 hat10 hlt10;have hal:∀o:Obj,Keep Any w9 (w9.alloc o):=fun o=>zqK.alloc o;have HO10:=hid (show Own2 24 2 w.heap.size w10 (.slice (some ⟨g10,0,none⟩) (l+1) c10) (rows++[z]) from
       Own2.push (e2:=24) (e:=2) (by decide) (n:=l) hL.out h1 HU.out.1 (fun i p u hp hu=>(HU.out.2 i p u hp hu).keep (hal _) (fun _ _=>trivial)) (HR9.out.keep (hal _) (fun _ _=>trivial)) hown10 hgrow10)
      have HM10:=hid (show MapM w10 (g1+1) (n+1) (sz T) (mkC T (rows++[z])) from by
       have hlt9:=HM9.out.lt;obtain⟨D',⟨es,clock,hh,r⟩,q2,q3⟩:=HM9.out;exact⟨D',⟨es,clock,((hgrow10.block (g1+1) (by simp;omega) (fun e=>HNE.out e.symm)).trans (zq91 _ _ hlt9)).trans hh,r⟩,q2,q3⟩)
      have HK10:=hid (show Keep (fun q=>wr.heap.size≤q∧q<w6.heap.size) w6 w10 from(HK9.out.trans (zqK.alloc _)).trans (Keep.grown hgrow10 (fun q hq e=>by
       simp only[Value.ownBlock,zq42]at e;have:=hA.out gO rfl;omega)))
      have HA10:=hid (show∀q,(some ⟨g10,0,none⟩:Option Addr)=some ⟨q,0,none⟩→q<wr.heap.size∨w6.heap.size≤q from fun q e=>by
       simp only[zq42,zq96,and_true]at e;subst e;rcases hat10 with h|h
       ·simp only[Value.ownBlock,zq42]at h;rw[←h];exact hA.out gO rfl
       ·right;have:=HSW.out;have:=HS9.out;have h2:(w9.alloc (.cells #[.slice (some ⟨g7,0,none⟩) m c7] 24)).heap.size=w9.heap.size+1:=by simp
        omega)
      have HB10:=hid (show Below w.heap.size w w10 from(HB9.out.alloc HB9.out.size _).grown hgrow10 (by simp;have:=HB9.out.size;omega) (fun q hq=>(zq8 h1 q hq).1));clear hown10 hgrow10 hat10 hlt10 h1 hal;go_wp2_with fail;go_roundw;case rel=>exact⟨k+1,l+1,rows++[z],_,_,rfl,by go_num,HKM.out,by have:=HIL.out.1;omega,HLZ.out,HLN,HCN,HO10,hid ⟨n+1,by have:=HNL.out;omega,HM10.out⟩,HK10,HA10,HB10⟩
      case measure=>have:=HKM.out;simp[intOf];omega
    ·obtain rfl:k=m:=by omega
     have hi63:(i:Int)+1≤9223372036854775807:=by omega
     have HIL:=hid (And.intro hil hlz);clear hil hlz;go_wp2_with fail;go_roundw;case rel=>exact⟨i+1,l,rows,_,_,rfl,by go_num,by have:=HIL.out.1;omega,HIL.out.2,hL,hC,hO,hMP,hB⟩
     case measure=>have:=HIL.out.1;have:=HIL.out.2;simp[intOf];omega
  ·obtain rfl:i=l:=by omega
   have hd1:decide ((i:Int)<(i:Int))=false:=by simp
   have HST:=hid (Srt3.sort_any w.heap.size m (by omega) wr (.slice a i c) rows hO.out (by rw[hL.out];omega) (fun r hr=>by rw[El_length (hC.out.el r hr).1,HM.out]));clear hO hMP hil hlz;go_wp2_with (go_at_call 140;refine HST.out.mono ?_;rintro e w9 ⟨rfl,F',hperm,hasc,hown,hkeep,hbel⟩);go_ret;exact⟨_,F',rfl,hown,⟨hperm.nodup_iff.2 hC.out.nd,hperm.mem_iff.2 hC.out.mem,fun y hy=>hC.out.el y (hperm.mem_iff.1 hy)⟩,hasc,hB.out.trans (hbel.mono (by have:=hB.out.size;omega))⟩
end Go.Proofs.YtlmlamcoeegkbaaGreat.OuH
namespace Go.Proofs.YtlmlamcoeegkbaaGreat.OuJ
open Go.RowKit Go.Proofs.YtlmlamcoeegkbaaGreat Tow NumT GenD SpecB OuP OuH
open Go.Proofs.YtlmlamcoeegkbaaGreat.ImplD (NN NN_some)
open Go.Proofs.YtlmlamcoeegkbaaGreat.LawF (bx1)
open Go.Proofs.YtlmlamcoeegkbaaGreat.Srt (Asc)
open Go.Proofs.YtlmlamcoeegkbaaGreat.BinS (search_any SeaR Pos Fnd)
theorem infoC:(Tryz.prog.info? 25).map (fun i=>(i.zero,i.size,i.bytes))=some (some (.slice none 0 0),1,24):=by kernel_rfl
def HasR (u:List (List Nat))(y:List Nat)(w:World)(e:Ending)(w':World):Prop:=∃b:Bool,e= .returned (.bool b)∧(b=true→y∈u)∧w=w'
theorem cn1_any (w:World)(gb n:Nat)(v vx:Value)(u:List (List Nat))(y:List Nat)(hg:gb<w.heap.size)(hc:w.cell? ⟨gb,0,none⟩=some vx)(hv:Sl2 Any w v (u.map ints))(hx:SlI Any w vx (ints y))(hasc:Asc u)(hl:∀r∈u,r.length=n)(hyl:y.length=n)(hn:n≤1000)(hu:u.length≤1000000):
  Calls Tryz.prog 138 #[v,.pointer (some ⟨gb,0,none⟩)] w (HasR u y w):=by
 have HS:=hid (search_any w v vx u y n hv hx hasc hl hyl hn hu);obtain⟨aX,cX,rfl,_,_⟩:=SlG.form hv;obtain⟨aY,cY,rfl,_,_⟩:=SlG.form hx;obtain⟨l1,hl1⟩:∃l,(u.map ints).length=l:=⟨_,rfl⟩;obtain⟨l2,hl2⟩:∃l,(ints y).length=l:=⟨_,rfl⟩;rw[hl2]at hc;rw[hl1,hl2]at HS;rw[hl1];clear hv hx hasc hl hyl hn hu hl1 hl2;go_enter Tryz.func138,Tryz.ntmps138;go_wp2_with (go_at_call 77;refine HS.out.mono ?_;rintro e w1 ⟨i,bb,rfl,_,hf,rfl⟩);go_ret;exact⟨bb,rfl,fun h=>zq5 (hf.1 h),rfl⟩
def Cl (n:Nat)(C:List (List (List Nat))):Prop:=∀u∈C,Asc u∧(∀r∈u,r.length=n)∧u.length≤1000000
def IdxR (C:List (List (List Nat)))(y:List Nat)(w:World)(e:Ending)(w':World):Prop:=∃r:Int,e= .returned (.int .i64 r)∧(r= -1∨(0≤r∧∃u∈C,y∈u))∧w=w'
theorem index_any (w:World)(gb n:Nat)(v vx:Value)(C:List (List (List Nat)))(y:List Nat)(hg:gb<w.heap.size)(hc:w.cell? ⟨gb,0,none⟩=some vx)(hv:Sl3 Any w v (C.map fun u=>u.map ints))(hx:SlI Any w vx (ints y))(hC:Cl n C)(hyl:y.length=n)(hn:n≤1000)(hl:C.length≤1000000):
  Calls Tryz.prog 137 #[v,.func (.func 138) #[] #[.pointer (some ⟨gb,0,none⟩)]] w (IdxR C y w):=by
 obtain⟨aX,cX,rfl,_,_⟩:=SlG.form hv;obtain⟨m,hm⟩:∃m,(C.map fun u=>u.map ints).length=m:=⟨_,rfl⟩;have hml:C.length=m:=by rw[←hm,zq18]
 rw[hm]at hv ⊢;have HV:=hid hv;have HM:=hid hml;have HH:=hid (fun v' u (hu:u∈C) (h2:Sl2 Any w v' (u.map ints))=>cn1_any w gb n v' vx u y hg hc h2 hx (hC u hu).1 (hC u hu).2.1 hyl hn (hC u hu).2.2);have hm63:(m:Int)≤1000000:=by omega
 clear hv hm hml hg hc hx hC hyl hn hl;go_enter Tryz.func137,Tryz.ntmps137;go_wp2_with fail;go_loop [8] (fun iv=>∃i:Nat,i≤m∧iv= .int .i64 (i:Int)) (fun iv=>m-(intOf iv).toNat);case atStart=>exact⟨0,zq4 _,rfl⟩
 case round=>
  obtain⟨i,hi,rfl⟩:=hrel;by_cases hlt:i<m
  ·obtain⟨u,hu⟩:∃u,C[i]?=some u:=⟨_,zq0 (by rw[HM.out];exact hlt)⟩;obtain⟨bL,oL,vu,rfl,_,hbL,hcL,hru⟩:=SlG.get HV.out (k:=i) (x:=u.map ints) (by rw[zq20,hu];rfl);have hmem:=zq5 hu;have HCH:=hid (HH.out vu u hmem hru);have HMEM:=hid hmem;have hii:(i:Int)<(m:Int):=by omega
   have hi0:(0:Int)≤(i:Int):=by omega
   clear hu hru hmem;go_wp2_with fail;refine HCH.out.mono ?_;rintro e w1 ⟨bb,rfl,hb,rfl⟩;cases bb with
   |true=>
    have HR:=hid (show IdxR C y w (.returned (.int .i64 (i:Int))) w from⟨_,rfl,.inr ⟨by omega,u,HMEM.out,hb rfl⟩,rfl⟩);clear hb;go_wp2_with fail;go_ret;exact HR.out
   |false=>
    clear hb;go_wp2_with fail;go_round;case rel=>exact⟨i+1,by omega,by go_num⟩
    case measure=>simp[intOf];omega
  ·obtain rfl:i=m:=by omega
   go_wp2_with fail;go_ret;exact⟨-1,rfl,.inl rfl,rfl⟩
theorem number_any (w:World)(n:Nat)(v vx:Value)(C:List (List (List Nat)))(y:List Nat)(hv:Sl3 Any w v (C.map fun u=>u.map ints))(hx:SlI Any w vx (ints y))(hC:Cl n C)(hyl:y.length=n)(hn:n≤1000)(hl:C.length≤1000000):
  Calls Tryz.prog 87 #[v,vx] w fun e w'=>∃r:Int,e= .returned (.int .i64 r)∧(r= -1∨(0≤r∧∃u∈C,y∈u))∧Below w.heap.size w w':=by
 obtain⟨aX,cX,rfl,_,_⟩:=SlG.form hv;obtain⟨aY,cY,rfl,_,_⟩:=SlG.form hx;obtain⟨l1,hl1⟩:∃l,(C.map fun u=>u.map ints).length=l:=⟨_,rfl⟩;obtain⟨l2,hl2⟩:∃l,(ints y).length=l:=⟨_,rfl⟩;rw[hl1]at hv ⊢;rw[hl2]at hx ⊢;clear hl1 hl2;obtain⟨w1,hw1⟩:∃w1,w1=w.alloc (.cells #[.slice aY l2 cY] 24):=⟨_,rfl⟩;have hb1:Below w.heap.size w w1:=by rw[hw1];exact zqB.alloc zqN _
 have HB1:=hid hb1;have HC:=hid (index_any w1 w.heap.size n _ (.slice aY l2 cY) C y (by rw[hw1];simp) (by rw[hw1];exact zq15 _ _ _ #[.slice aY l2 cY] _ (0,0) (zq17 _ _)) (Sl3.keep hv (Keep.of_below hb1)) (hx.keep (Keep.of_below hb1)) hC hyl hn hl);clear hv hx hb1 hC hyl hn hl;go_enter Tryz.func87,Tryz.ntmps87;go_upto_region 1 with fail;rw[←hw1];clear hw1;go_wp2_with (go_at_call 137;refine HC.out.mono ?_;rintro e w2 ⟨r,rfl,hr,rfl⟩);go_ret;exact⟨r,rfl,hr,HB1.out⟩
theorem own3_sl {B:Nat}{w:World}{v:Value}{L:List (List (List Nat))}(h:Own3 B w v L):Sl3 Any w v (L.map fun u=>u.map ints):=by
 obtain⟨a,c,rfl,h1,h2⟩:=h.form;refine⟨a,c,by simp,by simpa using h1,h2,fun ha=>?_,fun i x hx=>?_⟩
 ·subst ha;obtain⟨us,q1,_⟩:=h;rcases q1.2 with⟨e,_⟩|⟨g,cap,cur,e,_⟩
  ·simp at e;exact e.2
  ·simp at e
 ·simp only[zq20,zq46]at hx;obtain⟨r,hr,rfl⟩:=hx;obtain⟨g,cap,u,e,hb,hl,hc,hu⟩:=FindC.Own3.at h hr;injection e with e1 _ _;exact⟨g,0,e1,trivial,hl,u,by rw[zq39];exact hc,SlG.mono hu.sl (fun _ _=>trivial) (fun _ _ h=>SlI.mono h fun _ _=>trivial)⟩
theorem SlI_in {S:Nat→Prop}{w:World}{v:Value}{l:List Int}(h:SlI S w v l):SlI (fun k=>S k∧k<w.heap.size) w v l:=by
 obtain⟨ao,c,h1,h2,h3,h0,h4⟩:=h;exact⟨ao,c,h1,h2,h3,h0,fun i x hx=>by obtain⟨b,o,e1,e2,e3,e4⟩:=h4 i x hx;exact⟨b,o,e1,⟨e2,e3⟩,e3,e4⟩⟩
structure Cov (T:Tw)(k:Nat)(C:List (List (List Nat))):Prop where
 cov:∀t,t<k→∃u∈C,at_ T t∈u
 cls:∀u∈C,∃x,El T x∧CI T x u∧Asc u
 len:C.length≤k
theorem Cov.cl {T:Tw}(hT:Wf T)(hz:sz T≤729){k:Nat}{C:List (List (List Nat))}(h:Cov T k C):Cl T.length C:=fun u hu=>by
 obtain⟨x,_,h1,h2⟩:=h.cls u hu;exact⟨h2,fun r hr=>El_length (h1.el r hr).1,by have:=h1.len hT;omega⟩
theorem Cov.same {T:Tw}(hT:Wf T)(hg:Tow.Good T){k:Nat}{C:List (List (List Nat))}(h:Cov T k C):∀u∈C,∀a∈u,∀b∈u,RO T a b:=fun u hu a ha b hb=>by
 obtain⟨x,hx,h1,_⟩:=h.cls u hu;exact RO.trans hT hg (RO.symm hT hg hx (h1.el a ha).2) (h1.el b hb).2
def ClssR (T:Tw)(w:World)(e:Ending)(w':World):Prop:=∃v C,e= .returned (.tuple #[v,.int .i64 0])∧Own3 w.heap.size w' v C∧Cov T (sz T) C∧Below w.heap.size w w'
theorem classesOf_any (T:Tw)(gT:Grps.Grp (ofTw T))(hz:sz T≤128)(w:World)(b o:Nat)(hP:PtrP Any w b o (ofTw T)):
  Calls Tryz.prog 50 #[.pointer (some ⟨b,o,none⟩)] w (ClssR T w):=by
 obtain⟨i0,hi0,hz0,hz1,hz2⟩:=zq41 infoC;obtain⟨hT,hsT,hg,hp⟩:=SpecX.grp_parts gT;have hz7:sz T≤729:=by omega
 have HT:=hid (And.intro hT (And.intro hsT hg));have HP:=hid hP;obtain⟨_,hPb,vO,vP,vC,p0,p1,p2,hv⟩:=hP;have HGR:=hid (ImplI.group_any w vO vP vC (ofTw T) hv);have HORD:=hid (fun W h=>ImplN.order_any T hT hsT.1 hz7 W b o h);have HALL:=hid (fun W h=>ImplO.all_any T hT hsT.1 hz7 W b o h);have HCO:=hid (fun W vx x h1 h2 h3 h4=>classOf_any T hT hsT hg hz7 W b o vx x h1 h2 h3 h4);have HNU:=hid (fun W v vx C y h1 h2 h3 h4 h5=>number_any W T.length v vx C y h1 h2 h3 h4 (by have:=hsT.1;omega) h5);have HG:=hid gT;have hz63:(sz T:Int)≤128:=by omega
 clear hv;go_enter Tryz.func50,Tryz.ntmps50;go_upto_region 2 with(go_at_call 28;refine HGR.out.mono ?_;rintro e w1 ⟨r,rfl,hr,hb1⟩;obtain rfl:r=true:=hr.2 HG.out);have HB1:=hid hb1;have HO1:=hid (HORD.out w1 (HP.out.keep (Keep.of_below hb1)));clear hr hb1 p0 p1 p2 hPb HGR;go_upto_region 6 with(go_at_call 35;refine HO1.out.mono ?_;rintro e w2 ⟨rfl,hb2⟩;have hd128:decide ((sz T:Int)>128)=false:=(by simp;omega));have HB2:=hid (HB1.out.trans (hb2.mono HB1.out.size));have HA2:=hid (HALL.out w2 (HP.out.keep (Keep.of_below HB2.out)));clear hb2 HO1;go_wp2_with (go_at_call 48;refine HA2.out.mono ?_;rintro e w3 ⟨vA,rfl,hoA,hb3⟩;obtain⟨aA,cA,rfl,_,_⟩:=hoA.form);rw[ImplO.allE_length];have HB3:=hid (HB2.out.trans (hb3.mono HB2.out.size));have HAL:=hid (show Own2 24 2 w2.heap.size w3 (.slice aA (sz T) cA) (ImplO.allE T (sz T)) from by rw[ImplO.allE_length]at hoA;exact hoA);have HS23:=hid (And.intro HB2.out.size hb3.size);clear hb3 hoA HA2;go_wp2_with fail;go_loopw [4,18] (fun ov iv wr=>∃(k l:Nat) (C:List (List (List Nat))) (a:Option Addr) (c:Nat),ov= .slice a l c∧iv= .int .i64 (k:Int)∧k≤sz T∧l≤k∧Hid (C.length=l)∧Hid (Cov T k C)∧Hid (Own3 w.heap.size wr (.slice a l c) C)∧Hid (Keep (fun q=>w2.heap.size≤q∧q<w3.heap.size) w3 wr)∧Hid (∀q,(Value.slice a l c).ownBlock=some q→w3.heap.size≤q)∧Hid (Below w.heap.size w wr)) (fun _ iv _=>sz T-(intOf iv).toNat);case atStart=>exact⟨0,0,[],_,_,rfl,rfl,zq4 _,zq1 _,hid rfl,hid ⟨fun t h=>absurd h (zq33 _),fun u h=>by simp at h,zq1 _⟩,hid (Own3.nil _ _),hid zqK,hid (fun q h=>by simp[Value.ownBlock]at h),HB3⟩
 case round=>
  obtain⟨k,l,C,a,c,rfl,rfl,hk,hlk,hL,hC,hO,hK,hA,hB⟩:=hrel;by_cases hlt:k<sz T
  ·have hrow:(ImplO.allE T (sz T))[k]?=some (at_ T k):=by simp[ImplO.allE,hlt]
   obtain⟨gA,capA,u,eA,hBA,hlA,hcA,hru⟩:=HAL.out.at hrow;rw[ImplO.allE_length]at eA;injection eA with eA1 _ eA2;subst eA1;subst eA2;have hgS:w2.heap.size≤gA∧gA<w3.heap.size:=⟨hBA,hlA⟩;have hcr:=(hK.out.cell (b:=gA) (o:=k) hgS hlA).trans hcA;have hlr:=zq7 hlA hK.out.size;have hxs:SlI Any wr u (ints (at_ T k)):=((SlI_in hru.sl).keep hK.out).mono (fun _ _=>trivial);have hEk:=at_El HT.out.1 k;have hnn:NN u:=by obtain⟨⟨g,cc,rfl⟩,_⟩:=hru;exact NN_some _ _ _
   have HNC:=hid (HNU.out wr (.slice a l c) u C (at_ T k) (own3_sl hO.out) hxs (hC.out.cl HT.out.1 (by omega)) (El_length hEk) (by rw[hL.out];omega));have HCL:=hid (fun W (h:Below wr.heap.size wr W)=>HCO.out W u (at_ T k) (HP.out.keep (Keep.of_below (hB.out.trans (h.mono hB.out.size)))) (hxs.keep (Keep.of_below h)) hnn hEk);have hki:(k:Int)<(sz T:Int):=by omega
   have hk0:(0:Int)≤(k:Int):=by omega
   have HKZ:=hid (And.intro hlt hlk);obtain⟨⟨gu,cu,rfl⟩,_⟩:=hru;clear hrow hBA hlA hcA hxs hEk hnn hgS hlk hlt;go_wp2_with fail;refine HNC.out.mono ?_;rintro e w4 ⟨r,rfl,hr,hb4⟩;have hB4:=hB.out.trans (hb4.mono hB.out.size);have HO4:=hid (hO.out.of_below hb4);have HK4:=hid (hK.out.trans (Keep.of_below hb4));have HB4:=hid hB4;have HSS:=hid (zq11 hK.out.size hb4.size);rcases hr with rfl|⟨h0,u',hu',hm⟩
   ·have hd:decide ((-1:Int)<0)=true:=by decide
    have HC4:=hid (HCL.out w4 hb4);clear hb4 hB4 hcr hlr hO hK hB HNC HCL;go_wp2_with fail;refine HC4.out.mono ?_;rintro e w5 ⟨v5,rows,rfl,ho5,hci,hasc,hb5⟩;obtain⟨a5,c5,rfl,_,_⟩:=ho5.form;obtain⟨l5,hl5⟩:∃l5,rows.length=l5:=⟨_,rfl⟩;rw[hl5]at ho5 ⊢;have HB5:=hid (HB4.out.trans (hb5.mono HB4.out.size));have HK5:=hid (HK4.out.trans (Keep.of_below hb5));have HR5:=hid (ho5.mono (B':=w.heap.size) HB4.out.size);obtain⟨us,h1,h2,h4⟩:=HO4.out.of_below hb5;rw[hL.out]at h1;have h1:=h1.alloc (.cells #[.slice a5 l5 c5] 25);have HU:=hid (And.intro h2 h4);have HCN:=hid (show Cov T (k+1) (C++[rows]) from⟨fun t ht=>by
     rcases zq30.1 ht with h|h
     ·obtain⟨z,hz,hm⟩:=hC.out.cov t h;exact⟨z,zq68.2 (.inl hz),hm⟩
     ·subst h;exact⟨rows,by simp,hci.mem⟩,fun z hz=>by
     rcases zq68.1 hz with hz|hz
     ·exact hC.out.cls z hz
     ·rw[zq54.1 hz];exact⟨at_ T k,at_El HT.out.1 k,hci,hasc⟩,by rw[zq31];have:=hC.out.len;simp;omega⟩)
    have HS5:=hid hb5.size;have hl128:(l:Int)≤128:=by have:=HKZ.out;omega
    have HL128:=hid hl128;clear ho5 hci hasc hb5 h2 h4 HC4 hl5 hl128;go_wp2_with (at_builtin;(refine zq52 _ rfl _ _ 26 rfl w.heap.size 25 i0 (.slice none 0 0) 1 24 Tryz.underlying26 hi0 hz0 hz1 hz2 rfl (by decide) _ _ _ rfl h1 ⟨w5.heap.size,0,none⟩ 1 1 [.slice a5 l5 c5] rfl rfl ?c1 ?c2 (by decide) ?c3 ?c4 ?c5 _ rfl ?_));case c1=>
     intro j u hj
     match j,hj with
     |0,hj=>simp at hj;subst hj;simp[Addr.add]
    case c2=>intro u hu;simp at hu;subst hu;rfl
    case c3=>have:=HL128.out;unfold maxLen;omega
    case c4=>have:=HL128.out;omega
    case c5=>have:=HB5.out.size;simp;omega
    intro g10 c10 w10 hown10 hgrow10 hat10 hlt10;have hal:∀o:Obj,Keep Any w5 (w5.alloc o):=fun o=>zqK.alloc o;have HO10:=hid (show Own3 w.heap.size w10 (.slice (some ⟨g10,0,none⟩) (l+1) c10) (C++[rows]) from
     Own3.push (n:=l) hL.out h1 HU.out.1 (fun i p z hp hz=>(HU.out.2 i p z hp hz).keep (hal _) (fun _ _=>trivial)) (HR5.out.keep (hal _) (fun _ _=>trivial)) hown10 hgrow10)
    have HK10:=hid (show Keep (fun q=>w2.heap.size≤q∧q<w3.heap.size) w3 w10 from(HK5.out.trans (zqK.alloc _)).trans (Keep.grown hgrow10 (fun q hq e=>by
     have:=hA.out q e.symm;omega)))
    have HA10:=hid (show∀q,(Value.slice (some ⟨g10,0,none⟩) (l+1) c10).ownBlock=some q→w3.heap.size≤q from fun q e=>by
     simp only[Value.ownBlock,zq42]at e;subst e;rcases hat10 with h|h
     ·exact hA.out _ h
     ·have h3:(w5.alloc (.cells #[.slice a5 l5 c5] 25)).heap.size=w5.heap.size+1:=by simp
      have:=HSS.out;have:=HS5.out;omega)
    have HB10:=hid (show Below w.heap.size w w10 from(HB5.out.alloc HB5.out.size _).grown hgrow10 (by simp;have:=HB5.out.size;omega) (fun q hq=>(zq8 h1 q hq).1));have HL10:=hid (show(C++[rows]).length=l+1 by simp[hL.out]);clear hown10 hgrow10 hat10 hlt10 h1 hal;go_wp2_with fail;go_roundw;case rel=>exact⟨k+1,l+1,C++[rows],_,_,rfl,by go_num,HKZ.out.1,by have:=HKZ.out.2;omega,HL10,HCN,HO10,HK10,HA10,HB10⟩
    case measure=>have:=HKZ.out.1;simp[intOf];omega
   ·have hd:decide (r<0)=false:=by simp;omega
    have HCN:=hid (show Cov T (k+1) C from⟨fun t ht=>by
     rcases zq30.1 ht with h|h
     ·exact hC.out.cov t h
     ·subst h;exact⟨u',hu',hm⟩,hC.out.cls,by have:=hC.out.len;omega⟩)
    clear hb4 hB4 hcr hlr hO hK hB HNC HCL h0 hu' hm;go_wp2_with fail;go_roundw;case rel=>exact⟨k+1,l,C,_,_,rfl,by go_num,HKZ.out.1,by have:=HKZ.out.2;omega,hL,HCN,HO4,HK4,hA,HB4⟩
    case measure=>have:=HKZ.out.1;simp[intOf];omega
  ·obtain rfl:k=sz T:=by omega
   have HR:=hid (show ClssR T w (.returned (.tuple #[.slice a l c,.int .i64 0])) wr from⟨_,C,rfl,hO.out,hC.out,hB.out⟩);clear hO hB hC;go_wp2_with fail;exact zq12 (v:=.tuple #[.slice a l c,.int .i64 0]) (by simp[results,Tryz.results50,go_sem]) rfl HR.out
def SzsR (T:Tw)(w:World)(e:Ending)(w':World):Prop:=∃(a:Option Addr) (n c:Nat) (C:List (List (List Nat))),e= .returned (.tuple #[.slice a n c,.int .i64 0])∧Cov T (sz T) C∧C.length=n∧Below w.heap.size w w'
theorem sizes_any (T:Tw)(gT:Grps.Grp (ofTw T))(hz:sz T≤128)(w:World)(vO vP vC:Value)(hP:ValP Any w vO vP vC (ofTw T)):
  Calls Tryz.prog 19 #[.agg #[vO,vP,vC]] w (SzsR T w):=by
 obtain⟨iI,hiI,hy0,hy1,hy2⟩:=zq41 infoI;obtain⟨W0,hW0⟩:∃W0,W0=w.alloc (.cells #[vO,vP,vC] 28):=⟨_,rfl⟩;have HB0:=hid (show Below (w.heap.size+1) (w.alloc (.cells #[vO,vP,vC] 28)) W0 by rw[hW0];exact zq3 _ _);obtain⟨⟨e0,e1,e2⟩,hk,hbw,hs⟩:=bx1 HB0.out;have HC:=hid (classesOf_any T gT hz W0 w.heap.size 0 ⟨trivial,by omega,_,_,_,e0,e1,e2,hP.keep hk⟩);have HBW:=hid hbw;clear e0 e1 e2 hk hbw hP;go_enter Tryz.func19,Tryz.ntmps19;go_upto_region 1 with fail;rw[←hW0];clear hW0;go_upto_region 5 with(go_at_call 50;refine HC.out.mono ?_;rintro e w1 ⟨v1,C,rfl,hO,hCv,hb1⟩;obtain⟨a1,c1,rfl,_,_⟩:=hO.form);obtain⟨n,hn⟩:∃n,C.length=n:=⟨_,rfl⟩;rw[hn]at hO ⊢;have HN:=hid hn;have HO:=hid hO;have HCV:=hid hCv;have HB1:=hid (HBW.out.trans (hb1.mono HBW.out.size));have hn128:(n:Int)≤128:=by have:=hCv.len;omega
 clear hn hO hCv hb1 hs HC;go_wp2_with fail;go_loopw [6,18] (fun ov iv wr=>∃(k:Nat) (us:List Value) (a:Option Addr) (c:Nat),ov= .slice a k c∧iv= .int .i64 (k:Int)∧k≤n∧Hid (wr.ownsRow w1.heap.size 2 1 (.slice a k c) k us)∧Hid (Below w1.heap.size w1 wr)) (fun _ iv _=>n-(intOf iv).toNat);case atStart=>exact⟨0,[],_,_,rfl,rfl,zq4 _,hid (zq56 _ _ _ _),hid zqB⟩
 case round=>
  obtain⟨k,us,a,c,rfl,rfl,hk,hR,hB⟩:=hrel;by_cases hlt:k<n
  ·obtain⟨r,hr⟩:∃r,C[k]?=some r:=⟨_,zq0 (by rw[HN.out];exact hlt)⟩;obtain⟨bL,oL,vu,rfl,_,hbL,hcL,hru⟩:=SlG.get ((by have h:=own3_sl HO.out;exact Sl3.keep h (Keep.of_below hB.out)):Sl3 Any wr (.slice a1 n c1) (C.map fun u=>u.map ints)) (k:=k) (x:=r.map ints) (by rw[zq20,hr];rfl);obtain⟨aX,cX,rfl,_,_⟩:=SlG.form hru;obtain⟨lx,hlx⟩:∃lx,(r.map ints).length=lx:=⟨_,rfl⟩;rw[hlx]at hcL;have hki:(k:Int)<(n:Int):=by omega
   have hk0:(0:Int)≤(k:Int):=by omega
   have HKN:=hid hlt;have h1:=hR.out.alloc (.cells #[.int .i64 (lx:Int)] 2);clear hr hru hlx hlt hR;go_wp2_with (at_builtin;(refine zq55 _ rfl _ _ 24 rfl w1.heap.size 2 iI (.int .i64 0) 1 8 Tryz.underlying24 hiI hy0 hy1 hy2 rfl (by decide) _ _ _ rfl h1 ⟨wr.heap.size,0,none⟩ 1 1 [.int .i64 (lx:Int)] rfl rfl ?c1 ?c2 ?c3 ?c4 ?c5 ?_));case c1=>
    intro j u hj
    match j,hj with
    |0,hj=>simp at hj;subst hj;simp[Addr.add]
   case c2=>intro u hu;simp at hu;subst hu;rfl
   case c3=>have:=HKN.out;unfold maxLen;omega
   case c4=>have:=HKN.out;omega
   case c5=>have:=hB.out.size;simp;omega
   intro v' w2 hown hgrow _;have HB2:=hid ((hB.out.alloc hB.out.size _).grown hgrow (by simp;have:=hB.out.size;omega) (fun q hq=>(zq8 h1 q hq).1));have hf:∃a c,v'= .slice a (k+1) c:=by
    rcases hown.2 with⟨rfl,h0⟩|⟨g,cap,cur,e,_⟩
    ·exact absurd h0 (Nat.succ_ne_zero _)
    ·exact⟨_,_,e⟩
   obtain⟨a',c',rfl⟩:=hf;have HR2:=hid hown;clear hown hgrow h1 hB hcL;go_wp2_with fail;go_roundw;case rel=>exact⟨k+1,_,_,_,rfl,by go_num,HKN.out,HR2,HB2⟩
   case measure=>have:=HKN.out;simp[intOf];omega
  ·obtain rfl:k=n:=by omega
   have HR:=hid (show SzsR T w (.returned (.tuple #[.slice a k c,.int .i64 0])) wr from⟨a,k,c,C,rfl,HCV.out,HN.out,HB1.out.trans (hB.out.mono HB1.out.size)⟩);clear hB hR;go_wp2_with fail;exact zq12 (v:=.tuple #[.slice a k c,.int .i64 0]) (by simp[results,Tryz.results19,go_sem]) rfl HR.out
end Go.Proofs.YtlmlamcoeegkbaaGreat.OuJ
namespace Go.Proofs.YtlmlamcoeegkbaaGreat.OuU
open Go.RowKit Go.Proofs.YtlmlamcoeegkbaaGreat Tow NumT GenD SpecR FindA OrbC CoA OuP OuQ OuJ
open Go.Proofs.YtlmlamcoeegkbaaGreat.SpecB (Any)
theorem elts_sl {B:Nat}{w:World}{v:Value}{rows:List (List Int)}(h:Elts B w v rows):Sl2 Any w v rows:=by
 obtain⟨L,h,rfl,_⟩:=h;obtain⟨a,c,rfl,h1,h2,h0,h3⟩:=h.rows;refine⟨a,c,by rw[zq18],by rw[zq18];exact h1,h2,h0,fun i x hx=>?_⟩;rw[zq20]at hx;obtain⟨p,hp,rfl⟩:=zq46.1 hx;obtain⟨b,o,e1,e2,e3,u,e4,e5⟩:=h3 i p hp;exact⟨b,o,e1,trivial,e3,u,e4,SlI.mono e5 fun _ _=>trivial⟩
theorem elts_get {B:Nat}{w:World}{aR:Option Addr}{n c i:Nat}{rows:List (List Int)}{r:List Int}(h:Elts B w (.slice aR n c) rows)(hr:rows[i]?=some r):
  ∃gL gr cr:Nat,aR=some ⟨gL,0,none⟩∧gL<w.heap.size∧w.cell? ⟨gL,i,none⟩=some (.slice (some ⟨gr,0,none⟩) r.length cr)∧SlI Any w (.slice (some ⟨gr,0,none⟩) r.length cr) r:=by
 obtain⟨L,⟨us,o1,o2,o4⟩,rfl,_⟩:=h;rw[zq20]at hr;obtain⟨p,hp,rfl⟩:=zq46.1 hr;have hil:=(zq2.1 hp).1;obtain⟨u,hu⟩:∃u,us[i]?=some u:=⟨_,zq0 (by omega)⟩;obtain⟨⟨c',rfl⟩,ho⟩:=o4 i p u hp hu;rcases o1.2 with⟨e,hn⟩|⟨g,cap',cur,e,hb,hgg,_⟩
 ·omega
 ·cases e;refine⟨g,p.1,c',rfl,(zq10.1 hgg).1,?_,SlI.mono (Own.sl ho) fun _ _=>trivial⟩;rw[zq59 o1 i (by omega)];exact hu
theorem orb_zero {P:Pres}{l:List Int}{res:List (List Int)}(h:OrbV P l res 0):∃T x,P=ofTw T∧l=ints x∧Grps.Grp (ofTw T)∧El T x∧sz T≤27∧res=(nums (orb T x) (sz T)).map fun t=>ints (at_ T t):=by
 rcases h with⟨_,h,_⟩|⟨T,x,rfl,rfl,gT,hx,⟨_,h,_⟩|⟨_,h1,h2⟩⟩
 ·exact absurd h (by decide)
 ·exact absurd h (by decide)
 ·exact⟨T,x,rfl,rfl,gT,hx,h1,h2⟩
section
variable {T:Tw} {x:List Nat} {res:List (List Int)} (gT:Grps.Grp (ofTw T)) (hx:El T x) (hr:res=(nums (orb T x) (sz T)).map fun t=>ints (at_ T t))
include gT hr
theorem res_some {i:Nat}{v:List Int}(h:res[i]?=some v):∃y,v=ints y∧El T y∧RO T x y:=by
 subst hr;obtain⟨hT,-, -, -⟩:=SpecX.grp_parts gT;rw[zq20]at h;obtain⟨t,ht,rfl⟩:=zq46.1 h;obtain⟨h1,h2⟩:=zq77.1 (zq5 ht);have ht:=zq62.1 h1;exact⟨_,rfl,at_El hT t,(orb_iff gT ht).1 h2⟩
theorem res_mem {z:List Nat}(hz:El T z)(h:RO T x z):ints z∈res:=by
 subst hr;obtain⟨hT,-, -, -⟩:=SpecX.grp_parts gT;have hn:=num_lt hz hT;refine zq35.2 ⟨num T z,zq77.2 ⟨zq62.2 hn,(orb_iff gT hn).2 (by rw[at_num hT hz];exact h)⟩,by rw[at_num hT hz]⟩
omit gT in
theorem res_le (h27:sz T≤27):res.length≤27:=by
 subst hr;rw[zq18];exact zq11 (List.length_filter_le _ _) (by rw[List.length_range];exact h27)
include hx
theorem res_pos:0<res.length:=by
 obtain⟨hT,-, hg,-⟩:=SpecX.grp_parts gT;exact List.length_pos_of_mem (res_mem gT hr hx (RO.refl hT hg hx))
theorem res_dvd (h27:sz T≤27){n k:Int}(hc:ImplZ.CntV (ofTw T) n k):k=0∧∃m:Nat,n=m∧res.length∣m:=by
 rcases hc with⟨_,_,h⟩|⟨U,e,_,⟨_,_,h⟩|⟨h1,_,h2⟩⟩
 ·exact absurd gT h
 ·obtain rfl:=Grps.ofTw_inj e;omega
 ·obtain rfl:=Grps.ofTw_inj e;refine⟨h1,_,h2,?_⟩;have h:=orb_dvd gT hx;rw[FindC.maps_eq gT gT,zq18]at h;subst hr;rw[zq18];exact h
omit hr in
theorem orders:∃n,CyD.ordM T T.length 0 x 1=some n∧∀y,El T y→RO T x y→CyD.ordM T T.length 0 y 1=some n:=by
 obtain⟨hT,-, hg,hp⟩:=SpecX.grp_parts gT;obtain⟨n,h1,_,h2⟩:=ord_any hT hg (prm_of hp) hx;refine⟨n,h1,fun y hy h=>?_⟩;obtain⟨k,h3,_,h4⟩:=ord_any hT hg (prm_of hp) hy;rw[h3,ord_same hT hg hx h h2 h4]
end
theorem cnt_pos (T:Tw):∀n,1≤cntN T (n+1)
 |0=>by
  have h:seenN T 0 0=false:=by simp[seenN]
  rw[cnt_take h];omega
 |n+1=>by
  have h:=cnt_pos T n;cases e:seenN T (n+1) (n+1)
  ·rw[cnt_take e];omega
  ·rw[cnt_skip e];exact h
theorem cls {T:Tw}(gT:Grps.Grp (ofTw T))(h27:sz T≤27){n k:Int}(h:OrcV (ofTw T) n k):k=0∧∃m:Nat,n=m∧1≤m∧m≤27∧∀C,Cov T (sz T) C→m≤C.length:=by
 obtain⟨hT,-, hg,-⟩:=SpecX.grp_parts gT;rcases h with⟨_,_,h⟩|⟨U,e,_,⟨_,_,h⟩|⟨h1,_,h2⟩⟩
 ·exact absurd gT h
 ·obtain rfl:=Grps.ofTw_inj e;omega
 ·obtain rfl:=Grps.ofTw_inj e;refine⟨h1,_,h2,?_,zq11 (cnt_le T _) h27,fun C hC=>cnt_le_classes gT C hC.cov (hC.same hT hg)⟩;obtain⟨j,hj⟩:∃j,sz T=j+1:=⟨sz T-1,by have:=sz_pos hT;omega⟩;rw[hj];exact cnt_pos T j
theorem rd0_keep {w w':World}{a:Option Addr}{len:Nat}(h:CyC.Rd0 w a len)(hb:Below w.heap.size w w'):CyC.Rd0 w' a len:=fun i hi=>by
 obtain⟨b,o,z,h1,h3,h4,h5⟩:=h i hi;exact⟨b,o,z,h1,zq7 h3 hb.size,by rw[(Keep.of_below (S:=Any) hb).cell trivial h3];exact h4,h5⟩
end Go.Proofs.YtlmlamcoeegkbaaGreat.OuU
namespace Go.Proofs.YtlmlamcoeegkbaaGreat.FcD
open Go.RowKit Go.Proofs.YtlmlamcoeegkbaaGreat Tow CyA CyB CyC DwT DwB DwD DwK DwS DwU DwW DwX DwZ DxA DxF
theorem d25_any (g:Nat)(a:Option Addr)(len cap:Nat)(w:World)(h:Sr g a len cap w w):Calls Tryz.prog 38 #[.pointer (some ⟨g,0,none⟩)] w (PaS g a len cap w):=by
 obtain⟨w1,hw1⟩:∃w1,w1=w.alloc zbox:=⟨_,rfl⟩;obtain⟨g0,hg0⟩:∃g0,w.heap.size=g0:=⟨_,rfl⟩;have HX:=hid (show Bx g a len cap w w1 g0 by rw[hw1,←hg0];exact Bx.new h);clear h;go_enter Tryz.func38,Tryz.ntmps38;go_upto_region 1 with fail;rw[←hw1];clear hw1 hg0;go_upto_block 0 with(go_at_call 52;refine(nx_any _ g a len cap w1 _ HX.out.s).mono ?_;rintro e w4 ⟨r,rfl,hr,hS4⟩;have HS4:=hid hS4;clear hS4);by_cases hr0:r=0
 ·subst hr0;go_wp2_with (go_at_call 64;refine(DxB.draw_any _ g a len cap w4 (Sr.here HS4.out)).mono ?_;rintro e w6 ⟨X1,X2,X3,n1,n2,n3,Y1,Y2,Y3,rfl,hp,hs⟩;have HS6:=hid (HS4.out.tr hs);have HP6:=hid (PA.mono hp HS4.out.2.2.size);obtain⟨⟨e0,e1,e2⟩,f0,f1,f2⟩:=row3f (HX.out.k HS6.out).1;have hgr:=(HX.out.k HS6.out).2;clear hp hs);obtain⟨⟨z0,z1,z2⟩,-⟩:=row3f (put3 (x:=.slice X1 n1 Y1) (y:=.slice X2 n2 Y2) (z:=.slice X3 n3 Y3) (HX.out.k HS6.out).1);exact zq12 (v:=.agg #[.slice X1 n1 Y1,.slice X2 n2 Y2,.slice X3 n3 Y3]) (by simp[results,Tryz.results38,go_sem,z0,z1,z2]) rfl (Bx.finA HX.out HS6.out HP6.out)
 by_cases hr1:r=1
 ·subst hr1;go_wp2_with (go_at_call 64;refine(DxB.draw_any _ g a len cap w4 (Sr.here HS4.out)).mono ?_;rintro e w6 ⟨X1,X2,X3,n1,n2,n3,Y1,Y2,Y3,rfl,hp,hs⟩;have HS6:=hid (HS4.out.tr hs);have HP6:=hid (PA.mono hp HS4.out.2.2.size);obtain⟨⟨e0,e1,e2⟩,f0,f1,f2⟩:=row3f (HX.out.k HS6.out).1;have hgr:=(HX.out.k HS6.out).2;clear hp hs);obtain⟨⟨z0,z1,z2⟩,-⟩:=row3f (put3 (x:=.slice X1 n1 Y1) (y:=.slice X2 n2 Y2) (z:=.slice X3 n3 Y3) (HX.out.k HS6.out).1);exact zq12 (v:=.agg #[.slice X1 n1 Y1,.slice X2 n2 Y2,.slice X3 n3 Y3]) (by simp[results,Tryz.results38,go_sem,z0,z1,z2]) rfl (Bx.finA HX.out HS6.out HP6.out)
 by_cases hr2:r=2
 ·subst hr2;go_wp2_with (go_at_call 64;refine(DxB.draw_any _ g a len cap w4 (Sr.here HS4.out)).mono ?_;rintro e w6 ⟨X1,X2,X3,n1,n2,n3,Y1,Y2,Y3,rfl,hp,hs⟩;have HS6:=hid (HS4.out.tr hs);have HP6:=hid (PA.mono hp HS4.out.2.2.size);obtain⟨⟨e0,e1,e2⟩,f0,f1,f2⟩:=row3f (HX.out.k HS6.out).1;have hgr:=(HX.out.k HS6.out).2;clear hp hs);obtain⟨⟨z0,z1,z2⟩,-⟩:=row3f (put3 (x:=.slice X1 n1 Y1) (y:=.slice X2 n2 Y2) (z:=.slice X3 n3 Y3) (HX.out.k HS6.out).1);exact zq12 (v:=.agg #[.slice X1 n1 Y1,.slice X2 n2 Y2,.slice X3 n3 Y3]) (by simp[results,Tryz.results38,go_sem,z0,z1,z2]) rfl (Bx.finA HX.out HS6.out HP6.out)
 ·have h0:((r:Int)==0)=false:=zq79.2 (by omega);have h1:((r:Int)==1)=false:=zq79.2 (by omega);have h2:((r:Int)==2)=false:=zq79.2 (by omega);clear hr hr0 hr1 hr2;go_wp2_with (go_at_call 64;refine(DxB.draw_any _ g a len cap w4 (Sr.here HS4.out)).mono ?_;rintro e w6 ⟨X1,X2,X3,n1,n2,n3,Y1,Y2,Y3,rfl,hp,hs⟩;have HS6:=hid (HS4.out.tr hs);have HP6:=hid (PA.mono hp HS4.out.2.2.size);obtain⟨⟨e0,e1,e2⟩,f0,f1,f2⟩:=row3f (HX.out.k HS6.out).1;have hgr:=(HX.out.k HS6.out).2;clear hp hs);obtain⟨⟨z0,z1,z2⟩,-⟩:=row3f (put3 (x:=.slice X1 n1 Y1) (y:=.slice X2 n2 Y2) (z:=.slice X3 n3 Y3) (HX.out.k HS6.out).1);exact zq12 (v:=.agg #[.slice X1 n1 Y1,.slice X2 n2 Y2,.slice X3 n3 Y3]) (by simp[results,Tryz.results38,go_sem,z0,z1,z2]) rfl (Bx.finA HX.out HS6.out HP6.out)
end Go.Proofs.YtlmlamcoeegkbaaGreat.FcD
namespace Go.Proofs.YtlmlamcoeegkbaaGreat.OuL
open Go.RowKit Go.Proofs.YtlmlamcoeegkbaaGreat Tow CyA CyB CyC
def DcA (w:World)(g:Nat)(a:Option Addr)(len cap k:Nat)(h:Int):Prop:=w.heap[g]?=some (.cells #[.slice a len cap,.int .i64 (k:Int),.int .u64 h] 83 (0,0))
def Dc (w:World)(g:Nat)(a:Option Addr)(len cap:Nat):Prop:=∃(k:Nat) (h:Int),DcA w g a len cap k h∧k≤len∧len≤4096
theorem DcA.set1 {w:World}{g:Nat}{a:Option Addr}{len cap k:Nat}{h:Int}(hA:DcA w g a len cap k h)(k':Nat):DcA (w.setCell ⟨g,1,none⟩ (.int .i64 (k':Int))) g a len cap k' h:=zq60 w g 1 _ _ _ hA
theorem DcA.set2 {w:World}{g:Nat}{a:Option Addr}{len cap k:Nat}{h:Int}(hA:DcA w g a len cap k h)(h':Int):DcA (w.setCell ⟨g,2,none⟩ (.int .u64 h')) g a len cap k h':=zq60 w g 2 _ _ _ hA
theorem DcA.drew {w:World}{g:Nat}{a:Option Addr}{len cap k:Nat}{h:Int}(hA:DcA w g a len cap k h):DcA w.drew g a len cap k h:=hA
theorem DcA.cells {w:World}{g:Nat}{a:Option Addr}{len cap k:Nat}{h:Int}(hA:DcA w g a len cap k h):(w.cell? ⟨g,0,none⟩=some (.slice a len cap)∧w.cell? ⟨g,1,none⟩=some (.int .i64 (k:Int))∧w.cell? ⟨g,2,none⟩=some (.int .u64 h))∧
  w.frozen? ⟨g,1,none⟩=false∧w.frozen? ⟨g,2,none⟩=false∧g<w.heap.size:=⟨row3' hA,by simp[World.frozen?,show w.heap[g]?=_ from hA],by simp[World.frozen?,show w.heap[g]?=_ from hA],(zq10.1 hA).1⟩
theorem mask24 (x:Int):∃q:Nat,q≤16777215∧bits .and .u64 x 16777215=(q:Int):=by
 refine⟨(BitVec.ofInt 64 x &&& BitVec.ofInt 64 16777215).toNat,?_,?_⟩
 ·rw[BitVec.toNat_and];exact Nat.and_le_right
 ·have h:(BitVec.ofInt 64 x &&& BitVec.ofInt 64 16777215).toNat≤16777215:=by
   rw[BitVec.toNat_and];exact Nat.and_le_right
  exact(show IntKind.u64.wrap (((BitVec.ofInt 64 x &&& BitVec.ofInt 64 16777215).toNat:Nat):Int)=_ from IntWalk.u64_in _ (by omega))
def NxD (n g:Nat)(a:Option Addr)(len cap:Nat)(w:World)(e:Ending)(w':World):Prop:=∃r:Nat,e= .returned (.int .i64 (r:Int))∧r<n∧Dc w' g a len cap∧w.grownBy w' (some g)
def RollR (a:Option Addr)(len cap:Nat)(w:World)(e:Ending)(w':World):Prop:=∃g,e= .returned (.pointer (some ⟨g,0,none⟩))∧w.heap.size≤g∧Dc w' g a len cap∧Below w.heap.size w w'
theorem roll_any (w:World)(a:Option Addr)(len cap:Nat)(hl:len≤4096)(hR:Rd0 w a len):Calls Tryz.prog 20 #[.slice a len cap,.int .u64 15] w (RollR a len cap w):=by
 have HR:=hid hR;obtain⟨g,hg⟩:∃g,w.heap.size=g:=⟨_,rfl⟩;have hW1:IntKind.u64.wrap (15*7607)=114105:=by decide
 have hW2:IntKind.u64.wrap (len:Int)=(len:Int):=IntWalk.u64_in _ (by omega);have hW3:IntKind.u64.wrap (114105+(len:Int))=114105+(len:Int):=IntWalk.u64_in _ (by omega);obtain⟨w1,hw1⟩:∃w1,w1=w.alloc (.cells #[.slice a len cap,.int .i64 0,.int .u64 (114105+(len:Int))] 83):=⟨_,rfl⟩;have HA:=hid (show DcA w1 g a len cap 0 (114105+(len:Int)) by rw[hw1,←hg];exact zq17 _ _);have HB:=hid (show Below w.heap.size w w1 by rw[hw1];exact zqB.alloc zqN _);have HL:=hid hl;have HGG:=hid hg;have hl63:(len:Int)≤9223372036854775807:=by omega
 clear hR hg;go_enter Tryz.func20,Tryz.ntmps20;go_upto_region 2 with fail;rw[←hw1];rw[HGG.out];clear hw1 hW1 hW2 hW3;go_wp2_with fail;go_loopw [6] (fun iv wr=>∃(i:Nat) (h:Int),i≤len∧iv= .int .i64 (i:Int)∧Hid (DcA wr g a len cap 0 h)∧Hid (Below w.heap.size w wr)) (fun iv _=>len-(intOf iv).toNat);case atStart=>exact⟨0,_,zq4 _,rfl,HA,HB⟩
 case round=>
  obtain⟨i,h,hi,rfl,hA,hB⟩:=hrel;by_cases hlt:i<len
  ·have hii:(i:Int)<(len:Int):=by omega
   have hii0:(0:Int)≤(i:Int):=by omega
   obtain⟨⟨c0,c1,c2⟩,f1,f2,hgl⟩:=hA.out.cells;obtain⟨b,o,z,rfl,hbl,hcz,hz⟩:=HR.out i hlt;have hcz':=((Keep.of_below (S:=fun _=>True) hB.out).cell (b:=b) (o:=o+i) trivial hbl).trans hcz;have hbl':=zq7 hbl hB.out.size;obtain⟨h1,hh1⟩:∃h1,IntKind.u64.wrap (h*1099511628211)=h1:=⟨_,rfl⟩;obtain⟨h2,hh2⟩:∃h2,IntKind.u64.wrap (h1+(z:Int))=h2:=⟨_,rfl⟩;obtain⟨h3,hh3⟩:∃h3,IntKind.u64.wrap (h2+5)=h3:=⟨_,rfl⟩;have hw4:IntKind.u64.wrap (z:Int)=(z:Int):=IntWalk.u64_in _ (by omega);have HA':=hid (show DcA ((wr.setCell ⟨g,2,none⟩ (.int .u64 h3)).drew) g (some ⟨b,o,none⟩) len cap 0 h3 from(hA.out.set2 h3).drew);have HB':=hid (show Below w.heap.size w ((wr.setCell ⟨g,2,none⟩ (.int .u64 h3)).drew) from(hB.out.setCell (p:=⟨g,2,none⟩) (by rw[HGG.out];exact zq1 _) _).drew);clear hcz hbl hA hB hz;go_wp2_with fail;go_region_law (fail);all_goals
    go_wp2_with fail;go_roundw;case rel=>exact⟨i+1,h3,by omega,by go_num,HA',HB'⟩
    case measure=>simp[intOf]<;>omega
  ·obtain rfl:i=len:=by omega
   have HRR:=hid (show RollR a i cap w (.returned (.pointer (some ⟨g,0,none⟩))) wr from⟨g,rfl,by rw[HGG.out];exact zq1 _,⟨0,h,hA.out,zq4 _,HL.out⟩,hB.out⟩);clear hA hB hlt;go_wp2_with fail;go_ret;exact HRR.out
theorem below_any (n:Nat)(h2:1≤n)(w:World)(g:Nat)(a:Option Addr)(len cap:Nat)(hS:Dc w g a len cap)(hR:Rd w g a len):
  Calls Tryz.prog 21 #[.pointer (some ⟨g,0,none⟩),.int .i64 (n:Int)] w (NxD n g a len cap w):=by
 obtain⟨k,h,hA,hk,hl⟩:=hS;have HR:=hid hR;have HH2:=hid h2;obtain⟨h1,hh1⟩:∃h1,IntKind.u64.wrap (h*6364136223846793005)=h1:=⟨_,rfl⟩;obtain⟨h3,hh3⟩:∃h3,IntKind.u64.wrap (h1+1442695040888963407)=h3:=⟨_,rfl⟩;obtain⟨⟨c0,c1,c2⟩,f1,f2,hgl⟩:=hA.cells;have HA:=hid hA;have HL:=hid hl;have HK:=hid hk;clear hA hR h2 hl;go_enter Tryz.func21,Tryz.ntmps21;go_upto_region 2 with fail;obtain⟨wa,hwa⟩:∃wa,w.setCell ⟨g,2,none⟩ (.int .u64 h3)=wa:=⟨_,rfl⟩;simp only[hwa];have HA_wa:=hid (show DcA wa g a len cap k h3 by rw[←hwa];exact HA.out.set2 h3);have HG_wa:=hid (show w.grownBy wa (some g) by rw[←hwa];exact gr_set (gr_refl _ _) _);clear hwa c0 c1 c2 f1 f2 hgl hh1 hh3;obtain⟨⟨c0,c1,c2⟩,f1,f2,hgl⟩:=HA_wa.out.cells;go_upto_region 3 with fail;obtain⟨q,hq,hqe⟩:=mask24 (h3/8589934592);have hq1:wrap64 (bits BinOp.and IntKind.u64 (h3/8589934592) 16777215)=(q:Int):=by
  rw[hqe];unfold wrap64;omega
 rw[hq1];have HQ:=hid hq;clear hq1 hqe hq;have HMOD:=hid (show∀x:Nat,∃r:Nat,((x:Int)).tmod (n:Int)=(r:Int)∧r<n∧r≤x from fun x=>⟨x%n,tmod_nat x n,Nat.mod_lt _ (by have:=HH2.out;omega),Nat.mod_le _ _⟩);have hn0:¬(n:Int)=0:=by have:=HH2.out;omega
 by_cases hkl:k<len
 ·obtain⟨b,o,z,rfl,hbg,hbl,hcz,hz⟩:=HR.out.grown HG_wa.out k hkl;have hki:(k:Int)<(len:Int):=by omega
  have hki0:(0:Int)≤(k:Int):=by omega
  have hwz:IntKind.i64.wrap ((q:Int)+(z:Int))=(q:Int)+(z:Int):=zq6 _ (by have:=HQ.out;omega);have hzw:IntKind.i64.wrap (z:Int)=(z:Int):=zq6 _ (by omega);have hwk:IntKind.i64.wrap ((k:Int)+1)=(k:Int)+1:=zq6 _ (by have:=HL.out;omega);go_wp2_with fail;go_region_held3 (fun w'=>(∀b o,b<wa.heap.size→w'.cell? ⟨b,o,none⟩=wa.cell? ⟨b,o,none⟩)∧Keep (fun _=>True) wa w')
   (first|exact ks_mk (by repeat(first|exact zqK.drew|exact Keep.refl _ _)))
   (fail)
  rename_i hHd;clear hHd;obtain⟨wb,hwb⟩:∃wb,wa.drew=wb:=⟨_,rfl⟩;simp only[hwb];have HA_wb:=hid (show DcA wb g (some ⟨b,o,none⟩) len cap k h3 by rw[←hwb];exact HA_wa.out.drew);have HG_wb:=hid (show w.grownBy wb (some g) by rw[←hwb];exact gr_drew HG_wa.out);have hczb:wb.cell? ⟨b,o+k,none⟩=some (.int .u8 (z:Int)):=by rw[←hwb];exact hcz
  have hblb:b<wb.heap.size:=by rw[←hwb];exact hbl
  clear hwb c0 c1 c2 f1 f2 hgl hcz hbl;obtain⟨⟨c0,c1,c2⟩,f1,f2,hgl⟩:=HA_wb.out.cells;go_wp2_with fail;go_region_held3 (fun w'=>(∀b o,b<wb.heap.size→w'.cell? ⟨b,o,none⟩=wb.cell? ⟨b,o,none⟩)∧Keep (fun _=>True) wb w')
   (first|exact ks_mk (by repeat(first|exact zqK.drew|exact Keep.refl _ _)))
   (fail)
  rename_i hHd;clear hHd;obtain⟨wc,hwc⟩:∃wc,wb.drew=wc:=⟨_,rfl⟩;simp only[hwc];have HA_wc:=hid (show DcA wc g (some ⟨b,o,none⟩) len cap k h3 by rw[←hwc];exact HA_wb.out.drew);have HG_wc:=hid (show w.grownBy wc (some g) by rw[←hwc];exact gr_drew HG_wb.out);clear hwc c0 c1 c2 f1 f2 hgl hczb hblb;obtain⟨⟨c0,c1,c2⟩,f1,f2,hgl⟩:=HA_wc.out.cells;go_upto_region 6 with fail;obtain⟨wd,hwd⟩:∃wd,wc.setCell ⟨g,1,none⟩ (.int .i64 ((k:Int)+1))=wd:=⟨_,rfl⟩;simp only[hwd];have HA_wd:=hid (show DcA wd g (some ⟨b,o,none⟩) len cap (k+1) h3 by rw[←hwd];exact HA_wc.out.set1 (k+1));have HG_wd:=hid (show w.grownBy wd (some g) by rw[←hwd];exact gr_set HG_wc.out _);obtain⟨r,hr,hrn,hrx⟩:=HMOD.out (q+z);rw[Int.natCast_add]at hr;have hwr:IntKind.i64.wrap (r:Int)=(r:Int):=zq6 _ (by have:=HQ.out;omega);have HRR:=hid (show NxD n g (some ⟨b,o,none⟩) len cap w (.returned (.int .i64 (r:Int))) wd from⟨r,rfl,hrn,⟨k+1,h3,HA_wd.out,by omega,HL.out⟩,HG_wd.out⟩);clear hrn hrx hwd c0 c1 c2 f1 f2 hgl;go_wp2_with fail;go_ret;exact HRR.out
 ·have hki:¬(k:Int)<(len:Int):=by omega
  go_wp2_with fail;go_region_held3 (fun w'=>(∀b o,b<wa.heap.size→w'.cell? ⟨b,o,none⟩=wa.cell? ⟨b,o,none⟩)∧Keep (fun _=>True) wa w')
   (first|exact ks_mk (by repeat(first|exact zqK.drew|exact Keep.refl _ _)))
   (fail)
  rename_i hHd;clear hHd;obtain⟨wb,hwb⟩:∃wb,wa.drew=wb:=⟨_,rfl⟩;simp only[hwb];have HA_wb:=hid (show DcA wb g a len cap k h3 by rw[←hwb];exact HA_wa.out.drew);have HG_wb:=hid (show w.grownBy wb (some g) by rw[←hwb];exact gr_drew HG_wa.out);clear hwb c0 c1 c2 f1 f2 hgl;obtain⟨r,hr,hrn,hrx⟩:=HMOD.out q;have hwr:IntKind.i64.wrap (r:Int)=(r:Int):=zq6 _ (by have:=HQ.out;omega);have HRR:=hid (show NxD n g a len cap w (.returned (.int .i64 (r:Int))) wb from⟨r,rfl,hrn,⟨k,h3,HA_wb.out,HK.out,HL.out⟩,HG_wb.out⟩);clear hrn hrx;go_wp2_with fail;go_ret;exact HRR.out
end Go.Proofs.YtlmlamcoeegkbaaGreat.OuL
