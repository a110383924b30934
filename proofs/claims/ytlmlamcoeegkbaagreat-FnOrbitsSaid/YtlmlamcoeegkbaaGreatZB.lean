import Derived.Test.YtlmlamcoeegkbaaGreatZ0
import Derived.Test.YtlmlamcoeegkbaaGreatZz
import Derived.Test.YtlmlamcoeegkbaaGreatZA
import Derived.Maps.OwnOps
import Derived.Maps.OwnSet
import Derived.Maps.Views
import Derived.Test.YtlmlamcoeegkbaaGreatZv
import Derived.Test.YtlmlamcoeegkbaaGreatZc
import Derived.Test.YtlmlamcoeegkbaaGreatZu
import Derived.Ground.SlsfProg
import Derived.Shelf.SlSortCmp.Insertion
import Derived.Test.YtlmlamcoeegkbaaGreatProg
import Derived.Shelf.SlSortCmp.NoneTotal
/-
  Lemmas for the law FnOrbits, in short spelling.
-/
open Go.Lib (hid)
set_option linter.unusedVariables false
set_option linter.unusedSimpArgs false
set_option maxRecDepth 100000
set_option maxHeartbeats 40000000
namespace Go.Proofs.YtlmlamcoeegkbaaGreat.OrbD
open Go.RowKit Go.Proofs.YtlmlamcoeegkbaaGreat Tow Val NumT GenD SpecB SpecR Cmp Srt Go.Proofs.YtlmlamcoeegkbaaGreat.Ord BinS FindA AllA OrbB OrbC
def OrbI (rows ims:List (List Nat)):Prop:=Asc rows∧rows.Nodup∧∀y,y∈rows↔y∈ims
theorem OrbI.nil:OrbI [] []:=⟨List.Pairwise.nil,List.nodup_nil,fun y=>Iff.rfl⟩
theorem OrbI.yes {rows ims:List (List Nat)}{i:Nat}{y:List Nat}(h:OrbI rows ims)(hf:Fnd rows y i true):OrbI rows (ims++[y]):=by
 refine⟨h.1,h.2.1,fun z=>?_⟩;rw[zq68,zq54,h.2.2 z];refine⟨.inl,fun hz=>hz.elim id fun e=>?_⟩;subst e;exact(h.2.2 z).1 (zq5 (hf.1 rfl))
theorem OrbI.no {rows ims:List (List Nat)}{i n:Nat}{y:List Nat}(h:OrbI rows ims)(hl:∀r∈rows,r.length=n)(hyl:y.length=n)(hp:Pos rows y i)(hf:Fnd rows y i false):OrbI (rows.take i++y::rows.drop i) (ims++[y]):=by
 have hny:y∉rows:=fun hy=>by
  obtain⟨k,hk⟩:=zq45 hy;rcases zq123 k i with c|c|c
  ·have:=hp.2.1 k y c hk;rw[cmpL_self]at this;omega
  ·subst c;exact Bool.noConfusion (hf.2 hk)
  ·have hkl:=(zq2.1 hk).1;obtain⟨r,hr⟩:∃r,rows[i]?=some r:=⟨_,zq0 (by omega)⟩;have h1:=hp.2.2 i r zqN hr;have h2:=asc_get h.1 c hr hk;have e:r=y:=cmpL_eq r y (by rw[hl r (zq5 hr),hyl]) h1 h2;subst e;exact Bool.noConfusion (hf.2 hr)
 have hpm:(rows.take i++y::rows.drop i).Perm (y::rows):=by
  have:= @List.perm_middle _ y (rows.take i) (rows.drop i);rwa[List.take_append_drop]at this
 refine⟨?_,hpm.nodup_iff.2 (List.nodup_cons.2 ⟨hny,h.2.1⟩),fun z=>?_⟩
 ·have hA:(rows.take i++rows.drop i).Pairwise (fun a b=>¬cmpL b a<0):=by rw[List.take_append_drop];exact h.1
  obtain⟨h1,h2,h3⟩:=List.pairwise_append.1 hA;refine List.pairwise_append.2 ⟨h1,List.pairwise_cons.2 ⟨fun b hb=>?_,h2⟩,fun a ha b hb=>?_⟩
  ·obtain⟨k,hk⟩:=zq45 hb;rw[zq63]at hk;exact hp.2.2 (i+k) b (by omega) hk
  ·rcases zq70.1 hb with e|e
   ·subst e;intro hc;obtain⟨k,hk⟩:=zq45 ha;rw[zq106]at hk;split at hk
    ·next hki=>
     have h4:=hp.2.1 k a hki hk;have:=cmpL_trans a b a (by rw[hl a (zq5 hk),hyl]) (by rw[hl a (zq5 hk),hyl]) h4 hc;rw[cmpL_self]at this;omega
    ·cases hk
   ·exact h3 a ha b e
 ·rw[hpm.mem_iff,zq70,zq68,zq54,h.2.2 z];exact Or.comm
theorem OrbI.len {rows ims:List (List Nat)}{n:Nat}(h:OrbI rows ims)(hl:∀r∈ims,r.length=n):∀r∈rows,r.length=n:=fun r hr=>hl r ((h.2.2 r).1 hr)
theorem nodup_lt:∀(n:Nat) (l:List Nat),l.Nodup→(∀t∈l,t<n)→l.length≤n
 |0,l,_,h=>by
  cases l with
  |nil=>exact zq1 _
  |cons a l=>exact absurd (h a zq24) (zq33 _)
 |n+1,l,hn,h=>by
  by_cases hm:n∈l
  ·have h1:=nodup_lt n (l.erase n) (hn.erase n) fun t ht=>by
    have h2:=(hn.mem_erase_iff).1 ht;have:=h t h2.2;omega
   rw[List.length_erase_of_mem hm]at h1;omega
  ·have h1:=nodup_lt n l hn fun t ht=>by
    have h2:=h t ht;have:t≠n:=fun e=>hm (e▸ht);omega
   omega
theorem OrbI.small {T:Tw}(hT:Wf T){rows ims:List (List Nat)}(h:OrbI rows ims)(hl:∀r∈ims,El T r):rows.length≤sz T:=by
 have h2:(rows.map (num T)).Nodup:=by
  refine List.pairwise_map.2 (zq139 (R:=fun a b=>a≠b) ?_ h.2.1);intro a b ha hb hne e;exact hne (num_inj hT (hl a ((h.2.2 a).1 ha)) (hl b ((h.2.2 b).1 hb)) e)
 have h3:=nodup_lt (sz T) (rows.map (num T)) h2 fun t ht=>by
  obtain⟨r,hr,rfl⟩:=zq35.1 ht;exact num_lt (hl r ((h.2.2 r).1 hr)) hT
 simpa using h3
theorem OrbI.done {T:Tw}(hT:Wf T){rows F:List (List Nat)}{x:List Nat}(hF:F.Perm (Grow.grow T T T.length []))(h:OrbI rows (F.map fun f=>prodL (mul T) (Tow.one T) (f.map (at_ T)) x)):
  rows=(nums (orb T x) (sz T)).map (at_ T):=by
 have hE:∀r∈F.map (fun f=>prodL (mul T) (Tow.one T) (f.map (at_ T)) x),El T r:=fun r hr=>by
  obtain⟨f,_,rfl⟩:=zq35.1 hr;exact prodL_inv (El T) (mul T) (fun _ _ p q=>El_mul hT p q) _ (fun c hc=>by obtain⟨i,_,rfl⟩:=zq35.1 hc;exact at_El hT i) _ _ (El_one hT)
 have hn:(nums (orb T x) (sz T)).Pairwise (fun a b=>a<b):=List.Pairwise.filter _ List.pairwise_lt_range;have hlt:∀t∈nums (orb T x) (sz T),t<sz T:=fun t ht=>zq62.1 (zq77.1 ht).1;refine asc_one (n:=T.length) (h.len fun r hr=>El_length (hE r hr)) ?_ h.1 ?_
 ·refine(List.perm_ext_iff_of_nodup h.2.1 ?_).2 fun y=>?_
  ·refine List.pairwise_map.2 (zq139 (R:=fun a b=>a<b) ?_ hn);intro a b ha hb hab e;have:=at_inj (hlt a ha) (hlt b hb) e;omega
  ·rw[h.2.2 y,zq35,zq35];constructor
   ·rintro⟨f,hf,rfl⟩;have hy:=hE _ (zq35.2 ⟨f,hf,rfl⟩);refine⟨_,zq77.2 ⟨zq62.2 (num_lt hy hT),?_⟩,at_num hT hy⟩;unfold orb;exact zq83 ⟨f,hF.mem_iff.1 hf,rfl⟩
   ·rintro⟨t,ht,rfl⟩;have h2:=(zq77.1 ht).2;unfold orb at h2;obtain⟨f,hf,hft⟩:=zq136 h2;refine⟨f,hF.mem_iff.2 hf,?_⟩;rw[←hft];exact(at_num hT (hE _ (zq35.2 ⟨f,hF.mem_iff.2 hf,rfl⟩))).symm
 ·refine List.pairwise_map.2 (zq139 (R:=fun a b=>a<b) ?_ hn);intro a b ha hb hab;rw[cmp_at T hT,zq43 (hlt a ha),zq43 (hlt b hb)];unfold c3;rw[zq37 (by omega),zq57 hab];omega
theorem OwnE.ins {B i n:Nat}{w w':World}{v v' u:Value}{L:List (Nat×List Int)}{p:Nat×List Int}{us:List Value}(hn:L.length=n)(hi:i≤n)
  (h1:w.ownsRow B 24 1 v n us) (h2:us.length=L.length) (h4:∀(i:Nat) (p:Nat×List Int) (u:Value),L[i]?=some p→us[i]?=some u→(∃c,u= .slice (some ⟨p.1,0,none⟩) p.2.length c)∧Own B w u p.2)
  (hu:(∃c,u= .slice (some ⟨p.1,0,none⟩) p.2.length c)∧Own B w u p.2) (ho:w'.ownsRow B 24 1 v' (n+1) (us.take i++u::us.drop i)) (hg:w.grownBy w' v.ownBlock):OwnE B w' v' (L.take i++p::L.drop i):=by
 subst hn;have hl:(L.take i++p::L.drop i).length=L.length+1:=by simp;omega
 refine⟨us.take i++u::us.drop i,by rw[hl];exact ho,by simp;omega,fun j r' u' hr' hu'=>?_⟩;have hown:(∃c,u'= .slice (some ⟨r'.1,0,none⟩) r'.2.length c)∧Own B w u' r'.2:=by
  rcases zq123 j i with c|c|c
  ·rw[zq28 (by rw[zq75];omega),zq106,zq57 c]at hr' hu';exact h4 j r' u' hr' hu'
  ·subst c;rw[zq27 (by rw[zq75];omega),zq75,show j-min j L.length=0 by omega]at hr';rw[zq27 (by rw[zq75];omega),zq75,show j-min j us.length=0 by omega]at hu';simp at hr' hu';subst hr';subst hu';exact hu
  ·rw[zq27 (by rw[zq75];omega),zq75,show j-min i L.length=(j-i-1)+1 by omega,zq14,zq63,show i+(j-i-1)=j-1 by omega]at hr';rw[zq27 (by rw[zq75];omega),zq75,show j-min i us.length=(j-i-1)+1 by omega,zq14,zq63,show i+(j-i-1)=j-1 by omega]at hu';exact h4 (j-1) r' u' hr' hu'
 exact⟨hown.1,zq93 hown.2 hg (rows_apart hown.2 h1 (by decide))⟩
theorem ins_map {α β:Type}(f:α→β)(L:List α)(p:α)(i:Nat):(L.take i++p::L.drop i).map f=(L.map f).take i++f p::(L.map f).drop i:=by
 rw[zq103,zq81,List.map_take,List.map_drop]
theorem ins_nodup {L:List (Nat×List Int)}{p:Nat×List Int}(h:(L.map (·.1)).Nodup)(hp:∀q∈L,q.1≠p.1)(i:Nat):((L.take i++p::L.drop i).map (·.1)).Nodup:=by
 have hpm:((L.take i++p::L.drop i)).Perm (p::L):=by
  have:= @List.perm_middle _ p (L.take i) (L.drop i);rwa[List.take_append_drop]at this
 refine(hpm.map (·.1)).nodup_iff.2 (List.nodup_cons.2 ⟨fun hm=>?_,h⟩);obtain⟨q,hq,e⟩:=zq35.1 hm;exact hp q hq e
end Go.Proofs.YtlmlamcoeegkbaaGreat.OrbD
namespace Go.Proofs.YtlmlamcoeegkbaaGreat.OrbE
open Go.RowKit Go.Proofs.YtlmlamcoeegkbaaGreat Tow Val NumT GenD SpecB SpecR Cmp Srt Go.Proofs.YtlmlamcoeegkbaaGreat.Ord BinS FindA FindD AllA OrbB OrbC OrbD
theorem orbitOf_any (T:Tw)(hT:Wf T)(hs:Small T)(hg:Tow.Good T)(hz:sz T≤27)(B:Nat)(w:World)(b o:Nat)(hP:PtrP Any w b o (ofTw T))(vF vx:Value)(F:List (List Nat))(x:List Nat)(hF:Own2 91 3 B w vF F)(hperm:F.Perm (Grow.grow T T T.length []))
  (hx:SlI Any w vx (ints x)) (hxE:El T x) (hF9:F.length≤1000000000):
  Calls Tryz.prog 41 #[.pointer (some ⟨b,o,none⟩),vF,vx] w (EltR ((nums (orb T x) (sz T)).map fun t=>ints (at_ T t)) w):=by
 obtain⟨aF,cF,rfl,_,_⟩:=hF.form;have HP:=hid hP;have HF:=hid hF;have HX:=hid hx;have HT:=hid hT;have HPM:=hid hperm;have HFR:=hid (show∀f∈F,f.length=T.length∧∀q∈f,q<sz T from fun f hf=>⟨by simpa using ImplY.grow_rows _ _ _ (hperm.mem_iff.1 hf),FindB.grow_lt hT _ _ (by simp) f (hperm.mem_iff.1 hf)⟩);have hxl:=El_length hxE;have hx6:∀a∈x,a≤6:=fun a ha=>by
  obtain⟨j,hj⟩:=zq45 ha;have:=hs.lt (s:=0) (x:=x) hxE (zq4 _) hj;omega
 have HIE:=hid (fun f:List Nat=>show El T (prodL (mul T) (Tow.one T) (f.map (at_ T)) x) from prodL_inv (El T) (mul T) (fun _ _ p q=>El_mul hT p q) _ (fun c hc=>by obtain⟨i,_,rfl⟩:=zq35.1 hc;exact at_El hT i) _ _ (El_one hT));have HEL:=hid (fun W u (f:List Nat) (hp:PtrP Any W b o (ofTw T)) (hu:SlI Any W u (ints f)) (hf:f.length=T.length) (hq:∀q∈f,q<sz T)=>elementsAt_any T hT hs.1 (by omega) W b o hp u f hu (by have:=hs.1;omega) (fun q h=>by have:=hq q h;omega));have HAP:=hid (fun W u (f:List Nat) (hp:PtrP Any W b o (ofTw T)) (hu:Sl2 Any W u (f.map fun q=>ints (at_ T q))) (hx:SlI Any W vx (ints x)) (hf:f.length=T.length)=>OrbA.apply_any T hT hs hg W b o hp u vx (f.map (at_ T)) x (by rw[List.map_map];exact hu) hx (fun c hc=>by obtain⟨i,_,rfl⟩:=zq35.1 hc;exact at_El hT i) (by rw[zq18];omega) (by have:=hs.1;omega) hx6);have hT6:=hs.1;clear hP hF hx hperm hT hs hg hxE hx6;go_enter Tryz.func41,Tryz.ntmps41;go_wp2_with fail;go_loopw [7,15] (fun ov iv wr=>∃(i:Nat) (L:List (Nat×List Int)) (rows:List (List Nat)),i≤F.length∧iv= .int .i64 (i:Int)∧Hid (OwnE w.heap.size wr ov L∧L.map (·.2)=rows.map ints∧(L.map (·.1)).Nodup∧OrbI rows ((F.take i).map fun f=>prodL (mul T) (Tow.one T) (f.map (at_ T)) x))∧Hid (Below w.heap.size w wr)) (fun _ iv _=>F.length-(intOf iv).toNat);case atStart=>exact⟨0,[],[],zq4 _,rfl,hid ⟨OwnE.nil _ _,rfl,by simp,OrbI.nil⟩,hid zqB⟩
 case round=>
  obtain⟨i,L,rows,hi,rfl,hO,hBB⟩:=hrel;by_cases hlt:i<F.length
  ·obtain⟨f,hf⟩:∃f,F[i]?=some f:=⟨_,zq0 hlt⟩;obtain⟨g,cap,uf,e1,_,hgl,hcf,hrow⟩:=HF.out.at hf;simp only[zq40]at e1;obtain⟨rfl,-, rfl⟩:=e1;have hcr:=(hBB.out.cell (p:=⟨g,i,none⟩) hgl).trans hcf;have HK:=hid (Keep.of_below (S:=Any) hBB.out);obtain⟨hfl,hfq⟩:=HFR.out f (zq5 hf);have HEI:=hid (HEL.out wr uf f (HP.out.keep HK.out) ((hrow.sl.mono (fun _ _=>trivial)).keep HK.out) hfl hfq);have HFL:=hid hfl;have HTK:=hid (show(F.take (i+1)).map (fun f=>prodL (mul T) (Tow.one T) (f.map (at_ T)) x)=(F.take i).map (fun f=>prodL (mul T) (Tow.one T) (f.map (at_ T)) x)++[prodL (mul T) (Tow.one T) (f.map (at_ T)) x] from by rw[take_succ hf,zq103];rfl);have hLk:L.length=rows.length:=by
    have:=zq38 List.length hO.out.2.1;rwa[zq18,zq18]at this
   have hlims:∀r∈(F.take i).map (fun f=>prodL (mul T) (Tow.one T) (f.map (at_ T)) x),El T r:=fun r hr=>by
    obtain⟨f,_,rfl⟩:=zq35.1 hr;exact HIE.out f
   have HRL:=hid (hO.out.2.2.2.len (n:=T.length) (fun r hr=>El_length (hlims r hr)));have hr27:rows.length≤27:=zq11 (hO.out.2.2.2.small HT.out hlims) hz;have HLK:=hid hLk;obtain⟨y,hy⟩:∃y,prodL (mul T) (Tow.one T) (f.map (at_ T)) x=y:=⟨_,rfl⟩;have HYL:=hid (show y.length=T.length from by rw[←hy];exact El_length (HIE.out f));rw[hy]at HTK;have HAY:=hid (fun W u h1 h2 h3=>(show Calls _ _ _ _ (NewS (ints y) W) from by have h:=HAP.out W u f h1 h2 h3 HFL.out;rwa[hy]at h));clear hf hcf hrow hLk hlims hfl hfq hy;go_wp2_with fail;refine HEI.out.mono ?_;rintro e w3 ⟨v3,rfl,⟨L3,hL3,hL3r,-⟩,hb3⟩;have HB3:=hid (hBB.out.trans (hb3.mono hBB.out.size));have HS3:=hid (show Sl2 Any w3 v3 (f.map fun q=>ints (at_ T q)) from by have h:=Rows2.sl2 hL3.rows;rwa[hL3r]at h);have HO3:=hid (hO.out.1.keep hb3);have HREST:=hid hO.out.2;have HLT:=hid hO.out.1.lt;have HWR:=hid (show w.heap.size≤wr.heap.size from hBB.out.size);have H3S:=hid hb3.size;clear hL3 hL3r hb3 hO;have HAI:=hid (HAY.out w3 v3 (HP.out.keep (Keep.of_below HB3.out)) HS3.out (HX.out.keep (Keep.of_below HB3.out)));go_wp2_with fail;refine HAI.out.mono ?_;rintro e w4 ⟨g4,c4,rfl,ho4,hb4⟩;have HB4:=hid (HB3.out.trans (hb4.mono HB3.out.size));have HG4:=hid (show wr.heap.size≤g4 from zq11 H3S.out ho4.lt.1);have HO4:=hid (HO3.out.keep hb4);have HY4:=hid (ho4.mono (B':=w.heap.size) HB3.out.size);obtain⟨aL,cL,rfl,_,_,_⟩:=HO4.out.form;have HSE:=hid (search_any w4 (.slice aL L.length cL) (.slice (some ⟨g4,0,none⟩) (ints y).length c4) rows y T.length (by have h:=Rows2.sl2 HO4.out.rows;rwa[HREST.out.1]at h) (ho4.sl.mono (fun _ _=>trivial)) HREST.out.2.2.1 HRL.out HYL.out (by omega) (by omega));clear ho4 hb4;go_wp2_with fail;refine HSE.out.mono ?_;rintro e w5 ⟨p,bb,rfl,hpos,hfnd,rfl⟩;cases bb with
   |true=>
    have HN:=hid (show OwnE w.heap.size w4 (.slice aL L.length cL) L∧L.map (·.2)=rows.map ints∧(L.map (·.1)).Nodup∧OrbI rows ((F.take (i+1)).map fun f=>prodL (mul T) (Tow.one T) (f.map (at_ T)) x) from⟨HO4.out,HREST.out.1,HREST.out.2.1,by rw[HTK.out];exact OrbI.yes HREST.out.2.2 hfnd⟩);clear hpos hfnd;go_wp2_with fail;go_roundw;case rel=>exact⟨i+1,L,rows,by omega,by go_num,HN,HB4⟩
    case measure=>simp[intOf];omega
   |false=>
    have hpl:p≤L.length:=by have:=hpos.1;have:=HLK.out;omega
    have HPO:=hid hpos;have HFN:=hid hfnd;clear hpos hfnd;obtain⟨us,h1,h2,h4⟩:=HO4.out;have HU:=hid (And.intro h2 h4);have HIN:=hid (Ins.insert_any w.heap.size p L.length w4.heap.size (w4.alloc (.cells #[.slice (some ⟨g4,0,none⟩) (ints y).length c4] 24)) (.slice aL L.length cL) (.slice (some ⟨g4,0,none⟩) (ints y).length c4) us (h1.alloc _) (zq17 _ _) (fun v hv=>by
     obtain⟨j,hj,rfl⟩:=zq87 hv;obtain⟨⟨c,hc⟩,_⟩:=h4 j L[j] us[j] (zq0 _) (zq0 _);rw[hc];rfl) rfl hpl (by have:=HLK.out;omega) (by have:=HB4.out.size;simp;omega) (fun e=>by have:=(zq8 h1 _ e).2;omega))
    clear h2 h4;go_wp2_with fail;refine HIN.out.mono ?_;rintro e w6 ⟨v6,rfl,hown,hgrow⟩;have HN:=hid (show OwnE w.heap.size w6 v6 (L.take p++(g4,ints y)::L.drop p)∧(L.take p++(g4,ints y)::L.drop p).map (·.2)=(rows.take p++y::rows.drop p).map ints∧((L.take p++(g4,ints y)::L.drop p).map (·.1)).Nodup∧OrbI (rows.take p++y::rows.drop p) ((F.take (i+1)).map fun f=>prodL (mul T) (Tow.one T) (f.map (at_ T)) x) from by
     refine⟨OwnE.ins (w:=w4.alloc _) (us:=us) rfl hpl (h1.alloc _) HU.out.1 (fun i q u hq hu=>⟨(HU.out.2 i q u hq hu).1,(HU.out.2 i q u hq hu).2.alloc _⟩) ⟨⟨c4,rfl⟩,HY4.out.alloc _⟩ hown hgrow,?_,?_,?_⟩
     ·rw[ins_map,ins_map,HREST.out.1]
     ·refine ins_nodup HREST.out.2.1 (fun q hq=>?_) p;have h1:=(HLT.out q hq).2;have h2:=HG4.out;show q.1≠g4;omega
     ·rw[HTK.out];exact OrbI.no HREST.out.2.2 HRL.out HYL.out HPO.out HFN.out)
    have HB6:=hid (show Below w.heap.size w w6 from(HB4.out.alloc (by have:=HB4.out.size;omega) _).grown hgrow (by simp;have:=HB4.out.size;omega) (fun g hg=>(zq8 h1 g hg).1));clear hown hgrow h1 HU;go_wp2_with fail;go_roundw;case rel=>exact⟨i+1,_,_,by omega,by go_num,HN,HB6⟩
    case measure=>simp[intOf];omega
  ·obtain rfl:i=F.length:=by omega
   have HR:=hid (show EltR ((nums (orb T x) (sz T)).map fun t=>ints (at_ T t)) w (.returned u7) wr from by
    refine⟨_,rfl,⟨L,hO.out.1,?_,hO.out.2.2.1⟩,hBB.out⟩;have h:=hO.out.2.2.2;rw[zq88]at h;rw[hO.out.2.1,OrbI.done HT.out HPM.out h,List.map_map];rfl)
   clear hO hBB;go_wp2_with fail;go_ret;exact HR.out
end Go.Proofs.YtlmlamcoeegkbaaGreat.OrbE
namespace Go.Proofs.YtlmlamcoeegkbaaGreat.OrbF
open Go.RowKit Go.Proofs.YtlmlamcoeegkbaaGreat Tow Val NumT GenD SpecB SpecR LawE LawF LawC Cmp Srt Go.Proofs.YtlmlamcoeegkbaaGreat.Ord FindA FindB FindD Elt OrbB OrbC
theorem El_tail {T:Tw}{x:List Nat}(h:El T x):TailV (ofTw T).os 0 (ints x):=by
 refine⟨by rw[ints_length,ofTw_os,El_length h],fun j y q hy hq=>?_⟩;rw[ints_get,zq46]at hy;obtain⟨a,ha,rfl⟩:=hy;obtain⟨L,hL,hlt⟩:=El_lt h ha;rw[ofTw_os_get T j L hL]at hq;cases hq;exact⟨by simp,by simp;omega,fun h=>absurd h (zq33 _)⟩
theorem orb_one {P:Pres}{l:List Int}{r r':List (List Int)}{k k':Int}(h:OrbV P l r k)(h':OrbV P l r' k'):r'=r∧k'=k:=by
 rcases h with⟨rfl,rfl,hn⟩|⟨T,x,rfl,rfl,hG,hE,h⟩
 ·rcases h' with⟨rfl,rfl,_⟩|⟨T',x',hP,hl,hG,hE,_⟩
  ·exact⟨rfl,rfl⟩
  ·refine absurd ⟨hG,?_⟩ hn;rw[hP,hl];exact El_tail hE
 ·rcases h' with⟨_,_,hn⟩|⟨T',x',hT,hx,_,_,h'⟩
  ·exact absurd ⟨hG,El_tail hE⟩ hn
  ·obtain rfl:=Grps.ofTw_inj hT;obtain rfl:x=x':=TowD.ints_inj.1 hx;rcases h with⟨rfl,rfl,h1⟩|⟨rfl,h1,rfl⟩<;>rcases h' with⟨rfl,rfl,g1⟩|⟨rfl,g1,rfl⟩<;>first|exact⟨rfl,rfl⟩|omega
theorem sl2_one {w:World}{g:Nat}{vx:Value}{l:List Int}(h:w.cell? ⟨g,0,none⟩=some vx)(hg:g<w.heap.size)(hx:SlI Any w vx l):Sl2 Any w (.slice (some ⟨g,0,none⟩) 1 1) [l]:=by
 refine⟨some ⟨g,0,none⟩,1,rfl,zq1 _,by unfold maxLen;omega,by simp,fun i r hr=>?_⟩
 match i,hr with
 |0,hr=>simp at hr;subst hr;exact⟨g,0,rfl,trivial,hg,vx,h,hx⟩
def IOrbR (P:Pres)(l:List Int)(w:World)(e:Ending)(w':World):Prop:=∃v k res,e= .returned (.tuple #[v,.int .i64 k])∧OrbV P l res k∧Elts w.heap.size w' v res∧Below w.heap.size w w'
theorem impl_orbit (w:World)(vO vP vC vx:Value)(P:Pres)(l:List Int)(hP:ValP Any w vO vP vC P)(hx:SlI Any w vx l):
  Calls Tryz.prog 13 #[.agg #[vO,vP,vC],vx] w (IOrbR P l w):=by
 obtain⟨aX,cX,rfl,_,_⟩:=SlG.form hx;obtain⟨W0,hW0⟩:∃W0,W0=w.alloc (.cells #[vO,vP,vC] 28):=⟨_,rfl⟩;have HB0:=hid (show Below (w.heap.size+1) (w.alloc (.cells #[vO,vP,vC] 28)) W0 by rw[hW0];exact zq3 _ _);obtain⟨⟨e0,e1,e2⟩,hk,hbw,hs⟩:=bx1 HB0.out;have HPT:=hid (show PtrP Any W0 w.heap.size 0 P from⟨trivial,by omega,_,_,_,e0,e1,e2,hP.keep hk⟩);have HX:=hid (hx.keep hk);obtain⟨W1,hW1⟩:∃W1,W1=W0.alloc (.cells #[.slice aX l.length cX] 24):=⟨_,rfl⟩;have hb1:Below W0.heap.size W0 W1:=by rw[hW1];exact zqB.alloc zqN _
 have HPT1:=hid (HPT.out.keep (Keep.of_below hb1));have HX1:=hid (HX.out.keep (Keep.of_below hb1));have HB1:=hid (HB0.out.trans (hb1.mono hs));have HAE:=hid (areElements_any W1 w.heap.size 0 P (.slice (some ⟨W0.heap.size,0,none⟩) 1 1) [l] HPT1.out (sl2_one (by rw[hW1];exact zq15 _ _ _ #[.slice aX l.length cX] _ (0,0) (zq17 _ _)) (by rw[hW1];simp) HX1.out));clear e0 e1 e2 hk hbw hs hP hx hb1;go_enter Tryz.func13,Tryz.ntmps13;go_upto_region 1 with fail;rw[←hW0];clear hW0;go_wp2_with fail;rw[←hW1];clear hW1;refine HAE.out.mono ?_;rintro e w2 ⟨r,rfl,hr,hb2⟩;have HB2:=hid (HB1.out.trans (hb2.mono (bx1 HB1.out).2.2.2));have HPT2:=hid (HPT1.out.keep (Keep.of_below hb2));have HX2:=hid (HX1.out.keep (Keep.of_below hb2));clear hb2;by_cases hE:ElV P l
 ·obtain rfl:r=true:=hr.2 ⟨hE.1,fun l' hl'=>by rw[zq54.1 hl'];exact hE.2⟩;have HE:=hid hE;have HC:=hid (ImplY.isomorphisms_any w2 w.heap.size 0 w.heap.size 0 P P HPT2.out HPT2.out);clear hr hE;go_wp2_with fail;refine HC.out.mono ?_;rintro e w3 ⟨v,k,rfl,hb3,h⟩;have HB3:=hid (HB2.out.trans (hb3.mono (bx1 HB2.out).2.2.2));have HPT3:=hid (HPT2.out.keep (Keep.of_below hb3));have HX3:=hid (HX2.out.keep (Keep.of_below hb3));have HBW3:=hid (bx1 HB3.out).2.2.1;clear hb3;rcases h with⟨rfl,rfl,h⟩|⟨T,U,hTE,hUE,gP,-, h⟩
  ·exact absurd ⟨HE.out.1,HE.out.1⟩ h
  subst hTE;obtain rfl:T=U:=Grps.ofTw_inj hUE;clear hUE;obtain⟨x,hlx,hxE⟩:=el_of HE.out.2;subst hlx;rcases h with⟨rfl,rfl,h⟩|⟨rfl,rfl,h1,h2,h3⟩|⟨rfl,h1,h2,F,hperm,hasc,ho⟩
  ·have HR:=hid (show IOrbR (ofTw T) (ints x) w (.returned (.tuple #[.slice none 0 0,.int .i64 3])) w3 from⟨_,3,[],rfl,.inr ⟨T,x,rfl,rfl,gP,hxE,.inl ⟨rfl,rfl,by omega⟩⟩,Elts.nil _ _,HBW3.out⟩);clear h gP hxE;go_wp2_with fail;exact zq12 (v:=.tuple #[.slice none 0 0,.int .i64 3]) (by simp[results,Tryz.results13,go_sem]) rfl HR.out
  ·exact absurd rfl h3
  ·obtain⟨hT,hsT,hgT,hpT⟩:=SpecX.grp_parts gP;obtain⟨aF,cF,rfl,_,_⟩:=ho.form;have hF9:F.length≤1000000000:=by
    have h6:27^T.length≤27^6:=zq110 (by omega) hsT.1;have hgl:=Grow.grow_length T T h2 T.length [];rw[hperm.length_eq];omega
   have HOO:=hid (OrbE.orbitOf_any T hT hsT hgT h2 _ w3 w.heap.size 0 HPT3.out _ (.slice aX (ints x).length cX) F x ho hperm HX3.out hxE hF9);have HV:=hid (show OrbV (ofTw T) (ints x) ((nums (orb T x) (sz T)).map fun t=>ints (at_ T t)) 0 from .inr ⟨T,x,rfl,rfl,gP,hxE,.inr ⟨rfl,h2,rfl⟩⟩);clear hT hsT hgT hpT ho hperm hasc hF9 gP hxE h1 h2;go_wp2_with fail;refine HOO.out.mono ?_;rintro e w4 ⟨v4,rfl,⟨L,hL,hLr,hLd⟩,hb4⟩;have HR:=hid (show IOrbR (ofTw T) (ints x) w (.returned (.tuple #[v4,.int .i64 0])) w4 from⟨_,0,_,rfl,HV.out,⟨L,OwnE.mono hL HBW3.out.size,hLr,hLd⟩,HBW3.out.trans (hb4.mono HBW3.out.size)⟩);clear hL hLr hLd hb4;go_wp2_with fail;exact zq12 (v:=.tuple #[v4,.int .i64 0]) (by simp[results,Tryz.results13,go_sem]) rfl HR.out
 ·obtain rfl:r=false:=by
   cases r with
   |false=>rfl
   |true=>exact absurd ⟨(hr.1 rfl).1,(hr.1 rfl).2 l (zq54.2 rfl)⟩ hE
  have HR:=hid (show IOrbR P l w (.returned (.tuple #[.slice none 0 0,.int .i64 1])) w2 from⟨_,1,[],rfl,.inl ⟨rfl,rfl,hE⟩,Elts.nil _ _,(bx1 HB2.out).2.2.1⟩);clear hr hE;go_wp2_with fail;exact zq12 (v:=.tuple #[.slice none 0 0,.int .i64 1]) (by simp[results,Tryz.results13,go_sem]) rfl HR.out
end Go.Proofs.YtlmlamcoeegkbaaGreat.OrbF
namespace Go.Proofs.YtlmlamcoeegkbaaGreat.CoA
open Go.RowKit Go.Proofs.YtlmlamcoeegkbaaGreat Tow Val NumT SpecB SpecR SpecX LawF OrbB OrbC
noncomputable def seenN (T:Tw):Nat→Nat→Bool
 |0,_=>false
 |t+1,k=>seenN T t k||(!seenN T t t&&orb T (at_ T t) k)
noncomputable def cntN (T:Tw):Nat→Nat
 |0=>0
 |t+1=>cntN T t+if seenN T t t=true then 0 else 1
theorem seen_skip {T:Tw}{t:Nat}(h:seenN T t t=true):seenN T (t+1)=seenN T t:=by funext k;simp[seenN,h]
theorem seen_take {T:Tw}{t:Nat}(h:seenN T t t=false)(k:Nat):seenN T (t+1) k=(seenN T t k||orb T (at_ T t) k):=by simp[seenN,h]
theorem cnt_skip {T:Tw}{t:Nat}(h:seenN T t t=true):cntN T (t+1)=cntN T t:=by simp[cntN,h]
theorem cnt_take {T:Tw}{t:Nat}(h:seenN T t t=false):cntN T (t+1)=cntN T t+1:=by simp[cntN,h]
theorem cnt_le (T:Tw):∀t,cntN T t≤t
 |0=>zq1 _
 |t+1=>by
  have:=cnt_le T t;rw[cntN];split<;>omega
def OrcV (P:Pres)(n k:Int):Prop:=(n=0∧k=1∧¬Grps.Grp P)∨∃T,P=ofTw T∧Grps.Grp P∧((n=0∧k=3∧27<sz T)∨(k=0∧sz T≤27∧n=(cntN T (sz T):Int)))
def OrcR (P:Pres)(w:World)(e:Ending)(w':World):Prop:=∃n k:Int,e= .returned (.tuple #[.int .i64 n,.int .i64 k])∧OrcV P n k∧Below w.heap.size w w'
end Go.Proofs.YtlmlamcoeegkbaaGreat.CoA
namespace Go.Proofs.YtlmlamcoeegkbaaGreat.MapB
open Go Go.Maps
theorem plainElem_bool_inv {H:Type}{P:Program}{e:TypeId}(he:P.underlying e=some .bool){v:Value}{z:DataW H×List MemPlace}(h:plainElem P e v=some z):∃x,v= .bool x∧z=(.lit (.bool x),[]):=by
 unfold plainElem at h;rw[he]at h;cases v<;>simp at h;exact⟨_,rfl,h.symm⟩
theorem wpList_lookup_own_bool {H:Type}{P:Program}(w:World){ops:Array Oper}{rest:List Oper}{o:Oper}{a:Act}{Q:Exit→Act→World→Prop}
  (hg:o.guard=none) (m x:Operand) (t:TypeId) (hop:o.op=Op.lookup t m x false)
  (k e:TypeId) (K:Keyed P k) (ht:P.underlying t=some (.map k e)) (he:P.underlying e=some .bool) (hz:(zeroValue e).run P w= .ok (.bool false) w) (b n:Nat) (D:DataW H)
  (hm:a.eval m= .map (some b)) (hown:w.ownsMap P k (plainElem P e) b n D) (key:Value) (kl:Lit) (hx:a.eval x=key) (hkey:keyOf P k key=some kl)
  (hK:∀c:Bool,D.atKey kl (.lit (.bool false))= .lit (.bool c)→wpList P ops Q rest (a.put o.dst (.bool c)) w):
  wpList P ops Q (o::rest) a w:=by
 refine wpList_plain hg fun K' hK'=>?_;obtain⟨v,ps,hrun,hv⟩:=hown.lookup K ht hz (plainElem_bool he false) hkey;obtain⟨c,rfl,hc⟩:=plainElem_bool_inv he hv;simp only[Prod.mk.injEq]at hc;unfold Oper.wp;simp[execOp,hop,hm,hx,hrun,Result.andThen];exact hK' _ _ (hK c hc.1)
end Go.Proofs.YtlmlamcoeegkbaaGreat.MapB
namespace Go.Proofs.YtlmlamcoeegkbaaGreat.CoB
open Go.RowKit Go.Maps Go.Proofs.YtlmlamcoeegkbaaGreat Tow Val NumT SpecB SpecR LawE LawF FindA FindD OrbC CoA
theorem law:Keyed Tryz.prog 2:=int_keyed (q:=.i64) Tryz.underlying2
theorem zeroB (w:World):(zeroValue 4).run Tryz.prog w= .ok (.bool false) w:=by kernel_rfl
def MapM (w:World)(b n:Nat)(z:Nat)(f:Nat→Bool):Prop:=∃D:DataW Unit,w.ownsMap Tryz.prog 2 (plainElem Tryz.prog 4) b n D∧IsMap D∧∀k,k<z→D.atKey (.int .i64 (k:Int)) (.lit (.bool false))= .lit (.bool (f k))
theorem MapM.made (w:World)(z:Nat):MapM (w.alloc (.map #[] 0)) w.heap.size 0 z (fun _=>false):=⟨.map [],World.ownsMap_made _ _ _ _,isMap_empty,fun k _=>rfl⟩
theorem MapM.kept {w w':World}{b n z:Nat}{f:Nat→Bool}(h:MapM w b n z f)(hb:Below w.heap.size w w'):MapM w' b n z f:=by
 obtain⟨D,⟨es,clock,hh,r⟩,h2,h3⟩:=h;exact⟨D,⟨es,clock,(hb.block b (zq10.1 hh).1).trans hh,r⟩,h2,h3⟩
theorem MapM.lt {w:World}{b n z:Nat}{f:Nat→Bool}(h:MapM w b n z f):b<w.heap.size:=by
 obtain⟨D,h1,_⟩:=h;exact h1.lt
theorem MapM.notCells {w:World}{b n z:Nat}{f:Nat→Bool}(h:MapM w b n z f){cs:Array Value}{t:TypeId}{fr:Nat×Nat}:w.heap[b]?≠some (.cells cs t fr):=by
 obtain⟨D,⟨es,clock,hh,r⟩,h2,h3⟩:=h;rw[hh];simp
theorem MapM.fun_eq {w:World}{b n z:Nat}{f g:Nat→Bool}(h:MapM w b n z f)(e:∀k,k<z→f k=g k):MapM w b n z g:=by
 obtain⟨D,h1,h2,h3⟩:=h;exact⟨D,h1,h2,fun k hk=>by rw[h3 k hk,e k hk]⟩
theorem MapM.put {w':World}{b n z q:Nat}{f:Nat→Bool}{D:DataW Unit}(h2:IsMap D)(h3:∀k,k<z→D.atKey (.int .i64 (k:Int)) (.lit (.bool false))= .lit (.bool (f k)))
  (h1:w'.ownsMap Tryz.prog 2 (plainElem Tryz.prog 4) b n (D.put (.int .i64 (q:Int)) (.lit (.bool true)))):MapM w' b n z (fun k=>f k||k==q):=by
 refine⟨_,h1,h2.put _ _,fun k hk=>?_⟩;by_cases e:k=q
 ·subst e;rw[atKey_put_same h2 (by trivial)];simp
 ·rw[atKey_put_other (by simp;omega),h3 k hk];simp[e]
theorem row_map {w w':World}{B n gI:Nat}{e:TypeId}{v:Value}{us:List Value}(h:w.ownsRow B e 1 v n us)(hk:Keep (fun k=>k≠gI) w w')(hI:∀cs t fr,w.heap[gI]?≠some (.cells cs t fr)):w'.ownsRow B e 1 v n us:=by
 refine⟨h.1,?_⟩;rcases h.2 with hn|⟨g,cap,cur,rfl,hb,hgg,rest⟩
 ·exact .inl hn
 ·refine .inr ⟨g,cap,cur,rfl,hb,?_,rest⟩;rw[hk.block g (fun hg=>?_) (zq10.1 hgg).1]
  ·exact hgg
  ·subst hg;exact hI _ _ _ hgg
theorem own2_map {w w':World}{B gI:Nat}{e2 e:TypeId}{v:Value}{rows:List (List Nat)}(h:Own2 e2 e B w v rows)(hk:Keep (fun k=>k≠gI) w w')(hI:∀cs t fr,w.heap[gI]?≠some (.cells cs t fr)):Own2 e2 e B w' v rows:=by
 obtain⟨us,h1,h2,h4⟩:=h;exact⟨us,row_map h1 hk hI,h2,fun i r u hr hu=>⟨(h4 i r u hr hu).1,row_map (h4 i r u hr hu).2 hk hI⟩⟩
noncomputable def umk (T:Tw)(t:Nat)(l:List Nat)(k:Nat):Bool:=seenN T t k||decide (k∈l)
theorem umk_nil (T:Tw)(t:Nat):umk T t []=seenN T t:=by funext k;simp[umk]
theorem umk_snoc (T:Tw)(t:Nat)(l:List Nat)(q k:Nat):(umk T t l k||k==q)=umk T t (l++[q]) k:=by
 rw[Bool.eq_iff_iff];simp[umk,or_assoc]
theorem umk_all {T:Tw}{t:Nat}(h:seenN T t t=false)(k:Nat)(hk:k<sz T):umk T t (nums (orb T (at_ T t)) (sz T)) k=seenN T (t+1) k:=by
 rw[seen_take h,umk,Bool.eq_iff_iff];simp[nums,hk]
theorem nums_lt {p:Nat→Bool}{n t:Nat}(h:t∈nums p n):t<n:=zq62.1 (zq77.1 h).1
theorem impl_co (w:World)(vO vP vC:Value)(P:Pres)(hP:ValP Any w vO vP vC P):
  Calls Tryz.prog 18 #[.agg #[vO,vP,vC]] w (OrcR P w):=by
 obtain⟨W0,hW0⟩:∃W0,W0=w.alloc (.cells #[vO,vP,vC] 28):=⟨_,rfl⟩;have HB0:=hid (show Below (w.heap.size+1) (w.alloc (.cells #[vO,vP,vC] 28)) W0 by rw[hW0];exact zq3 _ _);obtain⟨⟨e0,e1,e2⟩,hk,hbw,hs⟩:=bx1 HB0.out;have HPT:=hid (show PtrP Any W0 w.heap.size 0 P from⟨trivial,by omega,_,_,_,e0,e1,e2,hP.keep hk⟩);have HC:=hid (ImplY.isomorphisms_any W0 w.heap.size 0 w.heap.size 0 P P HPT.out HPT.out);have HBW:=hid hbw;have HSS:=hid hs;have hmm:= @run_makeMap Tryz.prog;clear e0 e1 e2 hk hbw hs hP;go_enter Tryz.func18,Tryz.ntmps18;go_upto_region 1 with fail;rw[←hW0];clear hW0;go_wp2_with fail;refine HC.out.mono ?_;rintro e w1 ⟨v,k,rfl,hb,h⟩;have HB1:=hid (HB0.out.trans (hb.mono HSS.out));have HK1:=hid (Keep.of_below (S:=Any) hb);have HBW1:=hid (bx1 HB1.out).2.2.1;clear hb;rcases h with⟨rfl,rfl,h⟩|⟨T,U,hTE,hUE,gP,-, h⟩
 ·have HR:=hid (show OrcR P w (.returned (.tuple #[.int .i64 0,.int .i64 1])) w1 from⟨0,1,rfl,.inl ⟨rfl,rfl,fun h'=>h ⟨h',h'⟩⟩,HBW1.out⟩);clear h;go_wp2_with fail;exact zq12 (v:=.tuple #[.int .i64 0,.int .i64 1]) (by simp[results,Tryz.results18,go_sem]) rfl HR.out
 subst hTE;obtain rfl:T=U:=Grps.ofTw_inj hUE;clear hUE;rcases h with⟨rfl,rfl,h⟩|⟨rfl,rfl,h1,h2,h3⟩|⟨rfl,h1,h2,F,hperm,hasc,ho⟩
 ·have HR:=hid (show OrcR (ofTw T) w (.returned (.tuple #[.int .i64 0,.int .i64 3])) w1 from⟨0,3,rfl,.inr ⟨T,rfl,gP,.inl ⟨rfl,rfl,by omega⟩⟩,HBW1.out⟩);clear h gP;go_wp2_with fail;exact zq12 (v:=.tuple #[.int .i64 0,.int .i64 3]) (by simp[results,Tryz.results18,go_sem]) rfl HR.out
 ·exact absurd rfl h3
 ·obtain⟨aF,cF,rfl,_,_⟩:=ho.form;obtain⟨hT,hsT,hgT,hpT⟩:=SpecX.grp_parts gP;have hF9:F.length≤1000000000:=by
   have h6:27^T.length≤27^6:=zq110 (by omega) hsT.1;have hgl:=Grow.grow_length T T h2 T.length [];rw[hperm.length_eq];omega
  have HGP:=hid gP;have HTT:=hid hT;have HO:=hid ho;have HOO:=hid (fun B W vx x q1 q2 q3 q4=>OrbE.orbitOf_any T hT hsT hgT h2 B W w.heap.size 0 q1 (.slice aF F.length cF) vx F x q2 hperm q3 q4 hF9);have HAE:=hid (fun W hp=>ImplO.all_any T hT hsT.1 (by omega) W w.heap.size 0 hp);have HNM:=hid (fun W vx x h1 h2 h3=>ImplN.number_any T hT hsT.1 (by omega) W w.heap.size 0 vx x h1 h2 h3);have HP1:=hid (ImplY.PtrP.strong (HPT.out.keep HK1.out));clear hperm hasc ho gP hT hsT hgT hpT h1 HC;go_upto_region 6 with fail;obtain⟨gm,hgm⟩:∃gm,w1.heap.size=gm:=⟨_,rfl⟩;obtain⟨w2,hw2⟩:∃w2,w2=w1.alloc (.map #[] 0):=⟨_,rfl⟩;rw[←hw2];have HM2:=hid (show MapM w2 gm 0 (sz T) (seenN T 0) from by rw[hw2,←hgm];exact MapM.made w1 (sz T));have hb2:Below w1.heap.size w1 w2:=by rw[hw2];exact zqB.alloc zqN _
  have HB2:=hid (HB1.out.trans (hb2.mono (bx1 HB1.out).2.2.2));have HP2:=hid (show PtrP (fun k=>k≠gm) w2 w.heap.size 0 (ofTw T) from(HP1.out.keep (Keep.of_below hb2)).mono (fun k hk=>by rw[←hgm];omega));have HO2:=hid (HO.out.of_below hb2);have HGW:=hid (show w.heap.size+1≤gm by rw[←hgm];exact(bx1 HB1.out).2.2.2);simp only[hgm];clear hw2 hgm hb2;have HAA:=hid (HAE.out w2 (HP2.out.mono (fun _ _=>trivial)));go_wp2_with fail;refine HAA.out.mono ?_;rintro e w3 ⟨v3,rfl,ho3,hb3⟩;have HB3:=hid (HB2.out.trans (hb3.mono (bx1 HB2.out).2.2.2));have HM3:=hid (HM2.out.kept hb3);have HP3:=hid (HP2.out.keep (Keep.of_below hb3));have HO3:=hid (HO2.out.of_below hb3);obtain⟨aE,cE,rfl,_,_⟩:=ho3.form;rw[ImplO.allE_length]at ho3 ⊢;have HE3:=hid ho3;clear ho3 hb3 HAA HB2 HM2 HP2 HO2;go_wp2_with fail;go_loopw [6,22] (fun cv tv wr=>∃t:Nat,t≤sz T∧tv= .int .i64 (t:Int)∧cv= .int .i64 (cntN T t:Int)∧Hid (∃n,n≤27*t∧MapM wr gm n (sz T) (seenN T t))∧Hid (Keep (fun k=>k≠gm) w3 wr)∧Hid (Below (w.heap.size+1) (w.alloc (.cells #[vO,vP,vC] 28)) wr)) (fun _ tv _=>sz T-(intOf tv).toNat);case atStart=>exact⟨0,zq4 _,rfl,rfl,hid ⟨0,by omega,HM3.out⟩,hid zqK,HB3⟩
  case round=>
   obtain⟨t,ht,rfl,rfl,hMr,hKr,hB⟩:=hrel;rename World=>wo;have HBWr:=hid (bx1 hB.out).2.2.1;by_cases hlt:t<sz T
   ·have hti:decide ((t:Int)<(sz T:Int))=true:=by simp;omega
    have ht0:(0:Int)≤(t:Int):=by omega
    have ht1:(t:Int)<(sz T:Int):=by omega
    obtain⟨n,hn,hM⟩:=hMr.out;have HEr:=hid (own2_map HE3.out hKr.out (fun _ _ _=>HM3.out.notCells));obtain⟨g,cap,u,e1,_,hgl,hcx,hrow⟩:=HEr.out.at (i:=t) (r:=at_ T t) (by unfold ImplO.allE;simp[hlt]);rw[ImplO.allE_length]at e1;simp only[zq40]at e1;obtain⟨rfl,-, rfl⟩:=e1;have HPr:=hid ((HP3.out.keep hKr.out).mono (S':=Any) (fun _ _=>trivial));have HUr:=hid (hrow.sl.mono (S':=Any) (fun _ _=>trivial));have HNN:=hid (show Calls Tryz.prog 49 #[.pointer (some ⟨w.heap.size,0,none⟩),u] wo (ImplN.IntR t wo) from by
     have h:=HNM.out wo u (at_ T t) HPr.out HUr.out (at_El HTT.out t);rwa[num_at,zq43 hlt]at h)
    obtain⟨D,hD1,hD2,hD3⟩:=hM;have HD1:=hid hD1;have HD3:=hid (hD3 t hlt);have HMM:=hid (show MapM wo gm n (sz T) (seenN T t) from⟨D,hD1,hD2,hD3⟩);have HNB:=hid hn;clear hrow hD1 hD3 hMr hn;cases hst:seenN T t t with
    |true=>
     rw[hst]at HD3;have HST:=hid hst;clear hst;go_wp2_with fail;refine HNN.out.mono ?_;rintro e w4 ⟨rfl,hb4⟩;have HB4:=hid (hB.out.trans (hb4.mono (bx1 hB.out).2.2.2));have HK4:=hid (hKr.out.trans (Keep.of_below (S:=fun k=>k≠gm) hb4));have HM4:=hid (HMM.out.kept hb4);have hD4:w4.ownsMap Tryz.prog 2 (plainElem Tryz.prog 4) gm n D:=by
      obtain⟨es,clock,hh,r⟩:=HD1.out;exact⟨es,clock,(hb4.block gm (zq10.1 hh).1).trans hh,r⟩
     have HP4:=hid (HPr.out.keep (Keep.of_below hb4));have HU4:=hid (HUr.out.keep (Keep.of_below hb4));clear hb4 hB hKr;go_wp2_with (at_lookup;refine MapB.wpList_lookup_own_bool _ rfl _ _ 78 rfl 2 4 law Tryz.underlying78 Tryz.underlying4 (zeroB _) gm n D rfl hD4 _ _ rfl (keyOf_int_mk Tryz.underlying2 (WalkArith.wf_i64 (by omega))) ?_;intro c hat;obtain rfl:c=true:=(by have h:=HD3.out;rw[h]at hat;simpa using hat.symm));have HN:=hid (show∃n,n≤27*(t+1)∧MapM w4 gm n (sz T) (seenN T (t+1)) from⟨n,by have:=HNB.out;omega,by rw[seen_skip HST.out];exact HM4.out⟩);have HCN:=hid (cnt_skip HST.out);clear hD4;go_roundw;case rel=>exact⟨t+1,by omega,by go_num,by rw[HCN.out],HN,HK4,HB4⟩
     case measure=>simp[intOf]<;>omega
    |false=>
     rw[hst]at HD3;have HST:=hid hst;clear hst;go_wp2_with fail;refine HNN.out.mono ?_;rintro e w4 ⟨rfl,hb4⟩;have HB4:=hid (hB.out.trans (hb4.mono (bx1 hB.out).2.2.2));have HK4:=hid (hKr.out.trans (Keep.of_below (S:=fun k=>k≠gm) hb4));have HM4:=hid (HMM.out.kept hb4);have hD4:w4.ownsMap Tryz.prog 2 (plainElem Tryz.prog 4) gm n D:=by
      obtain⟨es,clock,hh,r⟩:=HD1.out;exact⟨es,clock,(hb4.block gm (zq10.1 hh).1).trans hh,r⟩
     have HP4:=hid (HPr.out.keep (Keep.of_below hb4));have HU4:=hid (HUr.out.keep (Keep.of_below hb4));clear hb4 hB hKr;go_upto_region 10 with(at_lookup;refine MapB.wpList_lookup_own_bool _ rfl _ _ 78 rfl 2 4 law Tryz.underlying78 Tryz.underlying4 (zeroB _) gm n D rfl hD4 _ _ rfl (keyOf_int_mk Tryz.underlying2 (WalkArith.wf_i64 (by omega))) ?_;intro c hat;obtain rfl:c=false:=(by have h:=HD3.out;rw[h]at hat;simpa using hat.symm));have HCL:=hid (cnt_le T t);have hc27:(cntN T t:Int)≤27:=by have:=HCL.out;omega
     have HF4:=hid (own2_map HO3.out HK4.out (fun _ _ _=>HM3.out.notCells));have HCO:=hid (HOO.out _ w4 u (at_ T t) HP4.out HF4.out HU4.out (at_El HTT.out t));clear hD4;go_wp2_with fail;refine HCO.out.mono ?_;rintro e w5 ⟨v5,rfl,⟨L,hL,hLr,-⟩,hb5⟩;have HB5:=hid (HB4.out.trans (hb5.mono (bx1 HB4.out).2.2.2));have HK5:=hid (HK4.out.trans (Keep.of_below (S:=fun k=>k≠gm) hb5));have HM5:=hid (HM4.out.kept hb5);have HP5:=hid (HP3.out.keep HK5.out);obtain⟨Q,hQ⟩:∃Q,nums (orb T (at_ T t)) (sz T)=Q:=⟨_,rfl⟩;rw[hQ]at hLr;obtain⟨m,hm⟩:∃m,L.length=m:=⟨_,rfl⟩;have hqm:Q.length=m:=by
      have:=zq38 List.length hLr;rw[zq18,zq18]at this;omega
     have hm27:m≤27:=by have:=nums_length (orb T (at_ T t)) (sz T);rw[hQ,hqm]at this;omega
     have HQL:=hid (show∀q∈Q,q<sz T from fun q hq=>by rw[←hQ]at hq;exact nums_lt hq);have HQE:=hid hQ;have HQM:=hid hqm;have HL5:=hid hL;have HLR:=hid hLr;have HG4:=hid HM4.out.lt;have HLM:=hid hm;obtain⟨a5,c5,rfl,_,_,_⟩:=hL.form;rw[hm];clear hL hLr hb5 hQ hqm hm HB4 HK4 HM4 HP4 HU4 HF4 HCO;go_wp2_with fail;go_loopw [36] (fun jv wi=>∃j:Nat,j≤m∧jv= .int .i64 (j:Int)∧Hid (∃n',n'≤n+j∧MapM wi gm n' (sz T) (umk T t (Q.take j)))∧Hid (Keep (fun k=>k≠gm) w5 wi)∧Hid (Below (w.heap.size+1) (w.alloc (.cells #[vO,vP,vC] 28)) wi)) (fun jv _=>m-(intOf jv).toNat);case atStart=>exact⟨0,zq4 _,rfl,hid ⟨n,zq1 _,by rw[List.take_zero,umk_nil];exact HM5.out⟩,hid zqK,HB5⟩
     case round=>
      obtain⟨j,hj,rfl,hMi,hKi,hBi⟩:=hrel;by_cases hjl:j<m
      ·have hji:decide ((j:Int)<(m:Int))=true:=by simp;omega
       have hj0:(0:Int)≤(j:Int):=by omega
       have hj1:(j:Int)<(m:Int):=by omega
       obtain⟨q,hq⟩:∃q,Q[j]?=some q:=⟨_,zq0 (by have:=HQM.out;omega)⟩;have hqz:=HQL.out q (zq5 hq);have HLi:=hid (show Sl2 Any wr (.slice a5 m c5) (Q.map fun t=>ints (at_ T t)) from by
        have h:=Rows2.sl2 (FindD.OwnE.keepS HL5.out hKi.out (fun k hk=>by have:=HG4.out;omega)).rows;rwa[HLR.out,HLM.out]at h)
       obtain⟨bL,oL,y,rfl,_,hbl,hcy,hys⟩:=SlG.get HLi.out (k:=j) (x:=ints (at_ T q)) (by rw[zq20,hq];rfl);have HYS:=hid hys;have HNQ:=hid (show Calls Tryz.prog 49 #[.pointer (some ⟨w.heap.size,0,none⟩),y] wr (ImplN.IntR q wr) from by
        have h:=HNM.out wr y (at_ T q) ((HP5.out.keep hKi.out).mono (fun _ _=>trivial)) hys (at_El HTT.out q);rwa[num_at,zq43 hqz]at h)
       obtain⟨n',hn',D',hD1',hD2',hD3'⟩:=hMi.out;have HD1':=hid hD1';have HD3':=hid hD3';have HNB':=hid hn';have HTK:=hid (take_succ hq);clear hys hMi hq hn' hD1' hD3';go_wp2_with fail;refine HNQ.out.mono ?_;rintro e w6 ⟨rfl,hb6⟩;have HB6:=hid (hBi.out.trans (hb6.mono (bx1 hBi.out).2.2.2));have HK6:=hid (hKi.out.trans (Keep.of_below (S:=fun k=>k≠gm) hb6));have hD6:w6.ownsMap Tryz.prog 2 (plainElem Tryz.prog 4) gm n' D':=by
        obtain⟨es,clock,hh,r⟩:=HD1'.out;exact⟨es,clock,(hb6.block gm (zq10.1 hh).1).trans hh,r⟩
       clear hb6 hBi hKi hcy;go_wp2_with (at_mapUpdate;refine wpList_mapUpdate_own _ rfl _ _ _ 78 rfl 2 4 law Tryz.underlying78 _ gm n' D' rfl hD6 (by have:=HNB'.out;have:=HNB.out;unfold maxLen;omega) _ _ _ rfl rfl (keyOf_int_mk Tryz.underlying2 (WalkArith.wf_i64 (by omega))) _ [] (plainElem_bool Tryz.underlying4 true) ?_;intro w7 hown7 hgrow7);have HN:=hid (show∃n'',n''≤n+(j+1)∧MapM w7 gm n'' (sz T) (umk T t (Q.take (j+1))) from⟨n'+1,by have:=HNB'.out;omega,MapM.fun_eq (MapM.put hD2' HD3'.out hown7) (fun k _=>by rw[umk_snoc,HTK.out])⟩);have HK7:=hid (HK6.out.trans (Keep.grown (S:=fun k=>k≠gm) hgrow7 (fun k hk=>by simpa using hk)));have HB7:=hid (HB6.out.grown hgrow7 (bx1 HB6.out).2.2.2 (fun g hg=>by cases hg;exact HGW.out));clear hown7 hgrow7 hD6;go_wp2_with fail;go_roundw;case rel=>exact⟨j+1,by omega,by go_num,HN,HK7,HB7⟩
       case measure=>simp[intOf]<;>omega
      ·obtain rfl:j=m:=by omega
       have hji:decide ((j:Int)<(j:Int))=false:=by simp
       have HN:=hid (show∃n,n≤27*(t+1)∧MapM wr gm n (sz T) (seenN T (t+1)) from by
        obtain⟨n',hn',h⟩:=hMi.out;have h1:=HNB.out;refine⟨n',by omega,h.fun_eq (fun k hk=>?_)⟩;rw[←HQM.out,zq88,←HQE.out];exact umk_all HST.out k hk)
       have HNK:=hid (HK5.out.trans hKi.out);have HCN:=hid (cnt_take HST.out);clear hMi hKi;go_wp2_with fail;go_roundw;case rel=>exact⟨t+1,by omega,by go_num,zq38 (Value.int .i64) (by have:=HCN.out;omega),HN,HNK,hBi⟩
       case measure=>simp[intOf]<;>omega
   ·obtain rfl:t=sz T:=by omega
    have hti:decide ((sz T:Int)<(sz T:Int))=false:=by simp
    have HR:=hid (show OrcR (ofTw T) w (.returned (.tuple #[.int .i64 (cntN T (sz T):Int),.int .i64 0])) wo from⟨_,0,rfl,.inr ⟨T,rfl,HGP.out,.inr ⟨rfl,h2,rfl⟩⟩,HBWr.out⟩);clear hMr hKr hB;go_wp2_with fail;exact zq12 (v:=.tuple #[.int .i64 (cntN T (sz T):Int),.int .i64 0]) (by simp[results,Tryz.results18,go_sem]) rfl HR.out
end Go.Proofs.YtlmlamcoeegkbaaGreat.CoB
namespace Go.Proofs.YtlmlamcoeegkbaaGreat.OuQ
open Go.Proofs.YtlmlamcoeegkbaaGreat Tow Gen NumT GenD CcA CcB SpecR OrbC CoA OuP
theorem prm_of {T:Tw}(h:SpecI.Pr T):Prm T:=fun L hL=>h L hL
theorem orb_iff {T:Tw}(gT:Grps.Grp (ofTw T)){x:List Nat}{t:Nat}(ht:t<sz T):orb T x t=true↔RO T x (at_ T t):=by
 obtain⟨hT,hsT,hg,hp⟩:=SpecX.grp_parts gT;have G:=grp hT hg;have hprod:∀c,Emb T T c→prodL (mul T) (Tow.one T) c x=phi T c x:=fun c hc=>G.prodL_e hc.el x;unfold orb;rw[zq78];constructor
 ·rintro⟨f,hf,e⟩;have hm:f.map (at_ T)∈growV T T T.length []:=by rw[FindC.maps_eq gT gT];exact zq35.2 ⟨f,hf,rfl⟩
  have hc:=(growV_iff hT hg hT hg (prm_of hp) _).1 hm;refine⟨_,hc,?_⟩;rw[hprod _ hc]at e;rw[←e,at_num hT (phi_El hT hg hc x)]
 ·rintro⟨c,hc,e⟩;have hm:=(growV_iff hT hg hT hg (prm_of hp) c).2 hc;rw[FindC.maps_eq gT gT]at hm;obtain⟨f,hf,rfl⟩:=zq35.1 hm;exact⟨f,hf,by rw[hprod _ hc,e,num_at,zq43 ht]⟩
theorem orb_dvd {T:Tw}(gT:Grps.Grp (ofTw T)){x:List Nat}(hx:El T x):(nums (orb T x) (sz T)).length∣(growV T T T.length []).length:=by
 obtain⟨hT,hsT,hg,hp⟩:=SpecX.grp_parts gT;refine orbit_dvd hT hg (prm_of hp) hx (List.nodup_range.filter _) fun t=>?_;show t∈List.filter _ _↔_;rw[zq77,zq62];exact⟨fun h=>⟨h.1,(orb_iff gT h.1).1 h.2⟩,fun h=>⟨h.1,(orb_iff gT h.1).2 h.2⟩⟩
theorem seen_step {T:Tw}{s k:Nat}(h:seenN T s k=true):seenN T (s+1) k=true:=by rw[seenN,h,Bool.true_or]
theorem seen_mono {T:Tw}{s k:Nat}(h:seenN T s k=true):∀d,seenN T (s+d) k=true
 |0=>h
 |d+1=>seen_step (seen_mono h d)
noncomputable def lead (T:Tw)(n:Nat):List Nat:=(List.range n).filter fun t=>!seenN T t t
theorem cnt_lead (T:Tw):∀n,cntN T n=(lead T n).length
 |0=>rfl
 |n+1=>by
  rw[cntN,cnt_lead T n,lead,lead,zq124,List.filter_append,zq31];cases h:seenN T n n<;>simp[h]
theorem cnt_le_classes {T:Tw}(gT:Grps.Grp (ofTw T))(C:List (List (List Nat)))(h1:∀t,t<sz T→∃u∈C,at_ T t∈u)(h2:∀u∈C,∀a∈u,∀b∈u,RO T a b):cntN T (sz T)≤C.length:=by
 classical
 have h3:∀t,t<sz T→∃i,i<C.length∧∃u,C[i]?=some u∧at_ T t∈u:=fun t ht=>by
  obtain⟨u,hu,hm⟩:=h1 t ht;obtain⟨i,hi⟩:=zq45 hu;exact⟨i,(zq2.1 hi).1,u,hi,hm⟩
 let g:Nat→Nat:=fun t=>if h:∃i,i<C.length∧∃u,C[i]?=some u∧at_ T t∈u then Classical.choose h else 0
 have hg:∀t,t<sz T→g t<C.length∧∃u,C[g t]?=some u∧at_ T t∈u:=fun t ht=>by
  have h:=h3 t ht;have e:g t=Classical.choose h:=dif_pos h;rw[e];exact zq86 h
 have hlt:∀t∈lead T (sz T),t<sz T∧seenN T t t=false:=fun t ht=>by
  obtain⟨ha,hb⟩:=zq77.1 ht;exact⟨zq62.1 ha,by simpa using hb⟩
 have hdiff:∀t t',t∈lead T (sz T)→t'∈lead T (sz T)→t<t'→g t≠g t':=fun t t' ht ht' hlt' e=>by
  obtain⟨a1,a2⟩:=hlt t ht;obtain⟨b1,b2⟩:=hlt t' ht';obtain⟨_,u,hu,hm⟩:=hg t a1;obtain⟨_,v,hv,hm'⟩:=hg t' b1;rw[←e,hu]at hv;obtain rfl:=zq102 hv;have ho:=(orb_iff gT b1).2 (h2 u (zq5 hu) _ hm _ hm');have hs:seenN T (t+1) t'=true:=by rw[seen_take a2,ho,Bool.or_true]
  have:=seen_mono hs (t'-(t+1));rw[show t+1+(t'-(t+1))=t' by omega,b2]at this;exact Bool.noConfusion this
 have hnd:((lead T (sz T)).map g).Nodup:=by
  refine List.pairwise_map.2 (zq139 ?_ (List.nodup_range.filter _:(lead T (sz T)).Nodup));intro a b ha hb hne e;rcases zq123 a b with h|h|h
  ·exact hdiff a b ha hb h e
  ·exact hne h
  ·exact hdiff b a hb ha h e.symm
 have:=zq120 (l₂:=List.range C.length) hnd (fun i hi=>by
  obtain⟨t,ht,rfl⟩:=zq35.1 hi;exact zq62.2 (hg t (hlt t ht).1).1)
 rw[cnt_lead];simpa using this
end Go.Proofs.YtlmlamcoeegkbaaGreat.OuQ
namespace Go.Proofs.YtlmlamcoeegkbaaGreat.OuG
open Go.RowKit Go.Proofs.YtlmlamcoeegkbaaGreat Tow NumT GenD SpecB SpecS FindA
open Go.Proofs.YtlmlamcoeegkbaaGreat.GenC (vinv_spec)
open Go.Proofs.YtlmlamcoeegkbaaGreat.SfB (cnj)
open Go.Proofs.YtlmlamcoeegkbaaGreat.ImplD (NN)
theorem cnj_eq {T:Tw}(hT:Wf T)(hg:Tow.Good T){u a z:List Nat}(hu:El T u)(ha:El T a)(hz:El T z)(h:mul T u z=mul T a u):z=cnj T a u:=by
 have G:=grp hT hg;obtain⟨hi,h1,h2⟩:=vinv_spec hT hg hu;unfold cnj;rw[←h,←G.asc hi hu hz,h2,G.eL hz]
theorem conj_any (T:Tw)(hT:Wf T)(hs:Small T)(hg:Tow.Good T)(W:World)(b o:Nat)(va vc:Value)(x y:List Nat)(hP:PtrP Any W b o (ofTw T))(ha:SlI Any W va (ints x))(hn:NN va)(hb:SlI Any W vc (ints y))(hnc:NN vc)(hx:El T x)(hy:El T y):
  Calls Tryz.prog 51 #[.pointer (some ⟨b,o,none⟩),va,vc] W (NewS (ints (cnj T x y)) W):=
 (ImplG.conjugate_any T hT hs 0 (zq4 _) hg W b o va vc x y hP ha hn hb hnc hx hy).mono fun e w' h=>by
  obtain⟨z,⟨h1,h2⟩,h3⟩:=h;have hz:z=cnj T x y:=cnj_eq hT hg hy hx h1 h2;rw[←hz];exact h3
theorem gens_any (T:Tw)(hs:T.length≤6)(w:World)(b o:Nat)(hP:PtrP Any w b o (ofTw T)):
  Calls Tryz.prog 139 #[.pointer (some ⟨b,o,none⟩)] w (EltR ((gens T).map ints) w):=by
 obtain⟨i0,hi,hz0,hz1,hz2⟩:=zq41 infoR;obtain⟨n,hn⟩:∃n,T.length=n:=⟨_,rfl⟩;have HP:=hid hP;have HN:=hid hn;have hn6:n≤6:=by omega
 have HUV:=hid (fun W k (hk:k<n)=>ImplG.unitVector_any n k (by omega) hk W);have HOS:=hid (show(ofTw T).os.length=n by rw[ofTw_os,hn]);have hunit:∀k,unit T k=(List.replicate n 0).set k 1:=fun k=>by rw[unit,Tow.one,hn]
 have HUN:=hid hunit;have HTK:=hid (show∀k,k<n→(List.range (k+1)).map (fun i=>ints (unit T i))=(List.range k).map (fun i=>ints (unit T i))++[ints (unit T k)] from fun k _=>by rw[zq124,zq103];rfl);have HGE:=hid (show(gens T).map ints=(List.range n).map (fun i=>ints (unit T i)) by rw[gens,List.map_map,hn];rfl);obtain⟨_,hPb,vO,vP,vC,p0,p1,p2,hv⟩:=hP;obtain⟨aO,cO,rfl,_,_⟩:=SlG.form hv.os;rw[HOS.out]at p0;clear hv hn hs hunit;have HCP:=hid (And.intro hPb (And.intro p0 (And.intro p1 p2)));go_enter Tryz.func139,Tryz.ntmps139;go_wp2_with fail;go_loopw [3,10] (fun ov iv wr=>∃(k:Nat) (L:List (Nat×List Int)),k≤n∧iv= .int .i64 (k:Int)∧Hid (OwnE w.heap.size wr ov L∧L.map (·.2)=(List.range k).map (fun i=>ints (unit T i))∧(L.map (·.1)).Nodup)∧Hid (Below w.heap.size w wr)) (fun _ iv _=>n-(intOf iv).toNat);case atStart=>exact⟨0,[],zq4 _,rfl,hid ⟨OwnE.nil _ _,by simp,by simp⟩,hid zqB⟩
 case round=>
  clear p0 p1 p2 hPb;obtain⟨k,L,hk,rfl,hO,hB⟩:=hrel;by_cases hlt:k<n
  ·have hkB:=Keep.of_below (S:=Any) hB.out;have p0:=(hkB.cell (b:=b) (o:=o) trivial HCP.out.1).trans HCP.out.2.1;have hPb:=zq7 HCP.out.1 hB.out.size;have HC:=hid (HUV.out wr k hlt);have hLk:L.length=k:=by
    have:=zq38 List.length hO.out.2.1;rw[zq18,zq18,List.length_range]at this;omega
   have HLK:=hid hLk;have HKN:=hid hlt;clear hLk hkB;go_wp2_with fail;refine HC.out.mono ?_;rintro e w1 ⟨g,c,rfl,ho,hb1⟩;rw[←HUN.out]at ho ⊢;have HB1:=hid (hB.out.trans (hb1.mono hB.out.size));have HG:=hid (show wr.heap.size≤g from ho.lt.1);have HO:=hid (ho.mono (B':=w.heap.size) hB.out.size);have HLT:=hid (hO.out.1.lt);have HREST:=hid hO.out.2;obtain⟨us,h1,h2,h4⟩:=hO.out.1.keep hb1;have HU:=hid (And.intro h2 h4);rw[HLK.out]at h1;clear ho hb1 h2 h4 hO p0 hPb;go_wp2_with (at_builtin;(refine zq55 _ rfl _ _ 25 rfl w.heap.size 24 i0 (.slice none 0 0) 1 24 Tryz.underlying25 hi hz0 hz1 hz2 rfl (by decide) _ _ _ rfl (h1.alloc _) ⟨w1.heap.size,0,none⟩ 1 1 [.slice (some ⟨g,0,none⟩) (ints (unit T k)).length c] rfl rfl ?c1 ?c2 ?c3 ?c4 ?c5 ?_));case c1=>
    intro j u hj
    match j,hj with
    |0,hj=>simp at hj;subst hj;simp[Addr.add]
   case c2=>intro u hu;simp at hu;subst hu;rfl
   case c3=>have:=HKN.out;unfold maxLen;omega
   case c4=>have:=HKN.out;omega
   case c5=>have:=HB1.out.size;simp;omega
   ·intro v' w2 hown hgrow _;have HN2:=hid (show OwnE w.heap.size w2 v' (L++[(g,ints (unit T k))])∧(L++[(g,ints (unit T k))]).map (·.2)=(List.range (k+1)).map (fun i=>ints (unit T i))∧((L++[(g,ints (unit T k))]).map (·.1)).Nodup from by
     refine⟨OwnE.push (w:=w1.alloc _) (us:=us) HLK.out (h1.alloc _) HU.out.1 (fun i p u hp hu=>⟨(HU.out.2 i p u hp hu).1,(HU.out.2 i p u hp hu).2.alloc _⟩) ⟨⟨c,rfl⟩,HO.out.alloc _⟩ hown hgrow,?_,?_⟩
     ·rw[HTK.out k HKN.out,zq103,HREST.out.1];rfl
     ·rw[zq103,List.nodup_append];refine⟨HREST.out.2,by simp,fun a ha b hb=>?_⟩;obtain⟨p,hp,rfl⟩:=zq35.1 ha;simp at hb;subst hb;have:=(HLT.out p hp).2;have:=HG.out;omega)
    have HB2:=hid (show Below w.heap.size w w2 from(HB1.out.alloc (by have:=HB1.out.size;omega) _).grown hgrow (by simp;have:=HB1.out.size;omega) (fun g hg=>(zq8 h1 g hg).1));have hk729:(k:Int)≤1000:=by have:=HKN.out;omega
    clear hown hgrow h1 HU HO;go_wp2_with fail;go_roundw;case rel=>exact⟨k+1,_,HKN.out,by go_num,HN2,HB2⟩
    case measure=>have:=HKN.out;simp[intOf];omega
  ·obtain rfl:k=n:=by omega
   have HR:=hid (show EltR ((gens T).map ints) w (.returned _) wr from⟨_,rfl,⟨L,hO.out.1,by rw[hO.out.2.1,HGE.out],hO.out.2.2⟩,hB.out⟩);clear hO hB;go_wp2_with fail;go_ret;exact HR.out
end Go.Proofs.YtlmlamcoeegkbaaGreat.OuG
namespace Go.Proofs
open Go.Shelf
def Tryz.srt3_ren:Go.Shelf.Ren:=⟨fun|6=>140|15=>123|14=>184|28=>174|29=>175|20=>210|21=>211|22=>212|23=>213|24=>214|25=>215|26=>216|27=>217|46=>226|47=>198|48=>199|49=>227|50=>228|57=>235|n=>n,fun|22=>25|24=>24|25=>116|3=>3|39=>84|0=>0|53=>201|55=>47|4=>4|46=>195|45=>194|50=>121|5=>5|9=>9|66=>219|70=>223|76=>241|77=>242|n=>n,fun|n=>n⟩
theorem Tryz.srt3:Go.Proofs.SlLaysF.n6 Tryz.prog Tryz.srt3_ren:={
 mixed:=by kernel_rfl
 f6:=⟨Tryz.f140.name,by decide,Tryz.func140.trans (congrArg some (by kernel_rfl))⟩
 f14:=⟨Tryz.f184.name,by decide,Tryz.func184.trans (congrArg some (by kernel_rfl))⟩
 f15:=Tryz.func123.trans (congrArg some (by kernel_rfl))
 f20:=⟨Tryz.f210.name,by decide,Tryz.func210.trans (congrArg some (by kernel_rfl))⟩
 f21:=⟨Tryz.f211.name,by decide,Tryz.func211.trans (congrArg some (by kernel_rfl))⟩
 f22:=⟨Tryz.f212.name,by decide,Tryz.func212.trans (congrArg some (by kernel_rfl))⟩
 f23:=⟨Tryz.f213.name,by decide,Tryz.func213.trans (congrArg some (by kernel_rfl))⟩
 f24:=⟨Tryz.f214.name,by decide,Tryz.func214.trans (congrArg some (by kernel_rfl))⟩
 f25:=⟨Tryz.f215.name,by decide,Tryz.func215.trans (congrArg some (by kernel_rfl))⟩
 f26:=⟨Tryz.f216.name,by decide,Tryz.func216.trans (congrArg some (by kernel_rfl))⟩
 f27:=⟨Tryz.f217.name,by decide,Tryz.func217.trans (congrArg some (by kernel_rfl))⟩
 f28:=Tryz.func174.trans (congrArg some (by kernel_rfl))
 f29:=Tryz.func175.trans (congrArg some (by kernel_rfl))
 f46:=⟨Tryz.f226.name,by decide,Tryz.func226.trans (congrArg some (by kernel_rfl))⟩
 f47:=Tryz.func198.trans (congrArg some (by kernel_rfl))
 f48:=Tryz.func199.trans (congrArg some (by kernel_rfl))
 f49:=⟨Tryz.f227.name,by decide,Tryz.func227.trans (congrArg some (by kernel_rfl))⟩
 f50:=⟨Tryz.f228.name,by decide,Tryz.func228.trans (congrArg some (by kernel_rfl))⟩
 f57:=⟨Tryz.f235.name,by decide,Tryz.func235.trans (congrArg some (by kernel_rfl))⟩
 t0:=Tryz.underlying0
 a0:=Tryz.isAgg0
 z0:=Tryz.sizeOf0
 v0:=Tryz.zeroValue0
 t3:=Tryz.underlying3
 a3:=Tryz.isAgg3
 z3:=Tryz.sizeOf3
 v3:=Tryz.zeroValue3
 t4:=Tryz.underlying4
 a4:=Tryz.isAgg4
 z4:=Tryz.sizeOf4
 v4:=Tryz.zeroValue4
 t5:=Tryz.underlying5
 a5:=Tryz.isAgg5
 z5:=Tryz.sizeOf5
 v5:=Tryz.zeroValue5
 t9:=Tryz.underlying9
 a9:=Tryz.isAgg9
 z9:=Tryz.sizeOf9
 v9:=Tryz.zeroValue9
 t22:=Tryz.underlying25
 a22:=Tryz.isAgg25
 z22:=Tryz.sizeOf25
 v22:=Tryz.zeroValue25
 a24:=Tryz.isAgg24
 z24:=Tryz.sizeOf24
 t25:=Tryz.underlying116
 a25:=Tryz.isAgg116
 z25:=Tryz.sizeOf116
 v25:=Tryz.zeroValue116
 t39:=Tryz.underlying84
 a39:=Tryz.isAgg84
 z39:=Tryz.sizeOf84
 v39:=Tryz.zeroValue84
 t45:=Tryz.underlying194
 a45:=Tryz.isAgg194
 z45:=Tryz.sizeOf194
 v45:=Tryz.zeroValue194
 t46:=Tryz.underlying195
 a46:=Tryz.isAgg195
 z46:=Tryz.sizeOf195
 v46:=Tryz.zeroValue195
 t50:=Tryz.underlying121
 a50:=Tryz.isAgg121
 z50:=Tryz.sizeOf121
 v50:=Tryz.zeroValue121
 t53:=Tryz.underlying201
 a53:=Tryz.isAgg201
 z53:=Tryz.sizeOf201
 v53:=Tryz.zeroValue201
 t55:=Tryz.underlying47
 a55:=Tryz.isAgg47
 z55:=Tryz.sizeOf47
 v55:=Tryz.zeroValue47
 t66:=Tryz.underlying219
 a66:=Tryz.isAgg219
 z66:=Tryz.sizeOf219
 v66:=Tryz.zeroValue219
 t70:=Tryz.underlying223
 a70:=Tryz.isAgg223
 z70:=Tryz.sizeOf223
 v70:=Tryz.zeroValue223
 t76:=Tryz.underlying241
 a76:=Tryz.isAgg241
 z76:=Tryz.sizeOf241
 v76:=Tryz.zeroValue241
 t77:=Tryz.underlying242
 a77:=Tryz.isAgg242
 z77:=Tryz.sizeOf242
 v77:=Tryz.zeroValue242 }
end Go.Proofs
namespace Go.Proofs.YtlmlamcoeegkbaaGreat.Srt3
open Go.RowKit Go.Lib Go.Sort Go.Proofs.YtlmlamcoeegkbaaGreat Tow Cmp
open Go.Proofs.YtlmlamcoeegkbaaGreat.Srt (cmpL_self cmpL_trans cmpL_ntrans heap_srt keep_srt take_srt holds_srt Asc)
abbrev Rw (B n:Nat)(w:World):Type:={ p:Value×List Nat // RowOk 2 B w p.1 p.2∧p.2.length=n }
def encR {B n:Nat}{w:World}(x:Rw B n w):Value:=x.1.1
def cfR {B n:Nat}{w:World}(x y:Rw B n w):Int:=cmpL x.1.2 y.1.2
theorem enc_one (B n:Nat)(w:World):OneCell (encR (B:=B) (n:=n) (w:=w)):=by
 rintro⟨⟨u,r⟩,⟨⟨g,c,h⟩,_⟩,_⟩;show u.oneCell'=true;simp only at h;rw[h];rfl
theorem swo (B n:Nat)(w:World):SWO (ltOf (cfR (B:=B) (n:=n) (w:=w))) where
 irrefl x:=by simp[ltOf,cfR,cmpL_self]
 trans x y z h1 h2:=by
  exact zq83 (cmpL_trans _ _ _ (x.2.2.trans y.2.2.symm) (y.2.2.trans z.2.2.symm) (zq136 h1) (zq136 h2))
 ntrans x y z h1 h2:=by
  exact zq67 (cmpL_ntrans _ _ _ (x.2.2.trans y.2.2.symm) (y.2.2.trans z.2.2.symm) (of_decide_eq_false h1) (of_decide_eq_false h2))
theorem row_ne {B g:Nat}{w:World}{cur:Array Value}(hg:w.heap[g]?=some (.cells cur 24 (0,0))){u:Value}{r:List Nat}(h1:RowOk 2 B w u r):SlI (fun k=>k≠g) w u (ints r):=by
 have h3:=h1.sl;obtain⟨⟨gu,c,rfl⟩,h4⟩:=h1;rcases h4.2 with⟨h5,_⟩|⟨g',cap,cur',h5,_,h6,_⟩
 ·cases h5
 ·cases h5;obtain⟨ao,c',e1,e2,e3,e0,e4⟩:=h3;refine⟨ao,c',e1,e2,e3,e0,fun i x hx=>?_⟩;obtain⟨b,o,f1,f2,f3,f4⟩:=e4 i x hx;refine⟨b,o,f1,?_,f3,f4⟩;subst f1;have e5:gu=b:=by
   have:=zq38 Value.ownBlock e1;simpa[Value.ownBlock]using this
  rintro rfl;rw[e5,hg]at h6;simp at h6
theorem cmpReads (B n:Nat)(w:World)(hn:n≤1000)(g size:Nat)(cur:Array Value)(hg:w.heap[g]?=some (.cells cur 24 (0,0)))(ax:Rw B n w):
  letI:Inhabited (Rw B n w):=⟨ax⟩
  CmpReads Tryz.prog 72 #[] (encR (B:=B) (n:=n) (w:=w)) cfR g 0 size w:=by
 letI:Inhabited (Rw B n w):=⟨ax⟩
 intro m os dk hs x y;have hk:=keep_srt (w:=w) (enc:=encR (B:=B) (n:=n) (w:=w)) (g:=g) (n:=m) (os:=os) dk;have hr:∀z:Rw B n w,SlI (fun _=>True) (sortWorld (encR (B:=B) (n:=n) (w:=w)) w g 0 m dk os) z.1.1 (ints z.1.2):=fun z=>by
  exact SlI.mono (SlI.keep (S:=fun k=>k≠g) (row_ne hg z.2.1) hk) (fun _ _=>trivial)
 refine(CmpI.compare_any _ _ _ _ _ (hr x) (hr y) (x.2.2.trans y.2.2.symm)).mono ?_;rintro e w' ⟨rfl,rfl⟩;exact⟨rfl,0,rfl⟩
def SortR (B:Nat)(v:Value)(F:List (List Nat))(w:World)(e:Ending)(w':World):Prop:=
 e= .returned (.tuple #[])∧∃F',F'.Perm F∧Asc F'∧Own2 24 2 B w' v F'∧Keep (fun k=>some k≠v.ownBlock) w w'∧Below (min B w.heap.size) w w'
theorem sort_any (B n:Nat)(hn:n≤1000)(w:World)(v:Value)(F:List (List Nat))(hF:Own2 24 2 B w v F)(hbig:F.length≤1000000000)(hl:∀r∈F,r.length=n):
  Calls Tryz.prog 140 #[v,.func (.func 72) #[] #[]] w (SortR B v F w):=by
 obtain⟨us,h1,h2,h4⟩:=hF;rcases h1.2 with⟨rfl,h5⟩|⟨g,cap,cur,rfl,hB,hg,hc1,hc2,hc3,hc4⟩
 ·obtain rfl:F=[]:=zq21 h5;have hc:=AnyF.slices_SortFunc_none ({ Tryz.srt3 with }:SlLaysF0.n6 _ _) none 0 (.func (.func 72) #[] #[]) w;refine hc.mono ?_;rintro e w' ⟨rfl,rfl⟩;exact⟨rfl,[],List.Perm.refl _,List.Pairwise.nil,Own2.nil _ _ _ _,Keep.refl _ _,zq3 _ _⟩
 ·cases F with
  |nil=>
   have hc:=AnyF.slices_SortFunc_none ({ Tryz.srt3 with }:SlLaysF0.n6 _ _) (some ⟨g,0,none⟩) cap (.func (.func 72) #[] #[]) w;refine hc.mono ?_;rintro e w' ⟨rfl,rfl⟩;exact⟨rfl,[],List.Perm.refl _,List.Pairwise.nil,⟨us,h1,h2,h4⟩,Keep.refl _ _,zq3 _ _⟩
  |cons r0 F0=>
   generalize hFe:r0::F0=F at *;have hpos:0<F.length:=by rw[←hFe];simp
   have hget:∀i:Fin F.length,∃u,us[i.1]?=some u∧RowOk 2 B w u F[i.1]∧(F[i.1]).length=n:=fun i=>by
    obtain⟨u,hu⟩:∃u,us[i.1]?=some u:=⟨_,zq0 (by rw[h2];exact i.2)⟩;exact⟨u,hu,h4 i.1 _ u (zq0 i.2) hu,hl _ (zq76 i.2)⟩
   let dd:Fin F.length→Rw B n w:=fun i=>⟨(us[i.1]'(by rw[h2];exact i.2),F[i.1]),by
    obtain⟨u,hu,h5,h6⟩:=hget i;obtain⟨hi,e⟩:=zq2.1 hu;rw[e];exact⟨h5,h6⟩⟩
   letI:Inhabited (Rw B n w):=⟨dd ⟨0,hpos⟩⟩
   let d:Array (Rw B n w):=Array.ofFn dd
   have hds:d.size=F.length:=by simp[d]
   have hdu:d.toList.map encR=us:=by
    apply zq133
    ·simp[d,h2]
    ·intro i q1 q2;simp[d,dd,encR]
   have hdF:d.toList.map (fun x=>x.1.2)=F:=by
    apply zq133
    ·simp[d]
    ·intro i q1 q2;simp[d,dd]
   have hH:Holds (encR (B:=B) (n:=n) (w:=w)) w g 0 d:=holds_srt hg (by rw[hds,hdu,←hc4,zq100]);have hgl:g<w.heap.size:=(zq10.1 hg).1;have eg:∀args w,(callFunc 72 args).run Tryz.prog w= .ok (.enter 72 args) w:=enters_of Tryz.func72 (by kernel_rfl) rfl;have hc:=Any.slices_SortFunc Tryz.srt3 (encR (B:=B) (n:=n) (w:=w)) (enc_one B n w) cfR (swo B n w) 72 #[] g 0 cap d w eg (cmpReads B n w hn g d.size cur hg (dd ⟨0,hpos⟩)).lays hH hgl (by rw[hds];omega);rw[hds]at hc;refine hc.mono ?_;rintro e w' ⟨rfl,d',m,os,⟨p1,p2,p3⟩,hs,rfl⟩;have hd's:d'.size=F.length:=by rw[p1,hds]
   have hperm:d'.toList.Perm d.toList:=by
    have e1:d'.extract 0 F.length=d':=by rw[←hd's];exact Array.extract_size
    have e2:d.extract 0 F.length=d:=by rw[←hds];exact Array.extract_size
    rwa[e1,e2]at p3
   have hk:=keep_srt (w:=w) (enc:=encR (B:=B) (n:=n) (w:=w)) (g:=g) (n:=m) (os:=os) d';have hlen':(d'.toList.map fun x=>x.1.2).length=F.length:=by simp[hd's]
   refine⟨rfl,d'.toList.map (fun x=>x.1.2),?_,?_,⟨d'.toList.map encR,?_,by simp,fun i r u hr hu=>?_⟩,hk.mono (fun k h e=>h (by rw[e];rfl)),⟨rfl,rfl,rfl,hk.size,fun k hk'=>hk.block k (by omega) (by omega)⟩⟩
   ·exact(hperm.map _).trans (by rw[hdF])
   ·refine List.pairwise_iff_getElem.2 fun i j hi hj hij=>?_;have hi':i<d'.size:=by simpa using hi
    have hj':j<d'.size:=by simpa using hj
    have:=hs i j (zq4 _) hij (by omega);rw[getElem!_pos d' j hj',getElem!_pos d' i hi']at this;simp only[zq107,Array.getElem_toList];exact of_decide_eq_false this
   ·rw[hlen'];refine⟨by simp[hd's],.inr ⟨g,cap,_,rfl,hB,heap_srt d' hg,hc1,hc2,by simp[putCells,hc3],?_⟩⟩;rw[zq100,←hd's];exact take_srt _ cur d' (by rw[hd's,hc3];omega)
   ·simp only[zq20,zq46]at hr hu;obtain⟨x,hx,rfl⟩:=hr;obtain⟨y,hy,rfl⟩:=hu;rw[hx]at hy;cases hy;have h5:=x.2.1;refine⟨h5.1,?_⟩;have h6:=h5.2;refine⟨h6.1,?_⟩;rcases h6.2 with h7|⟨g',cap',cur',e1,e2,e3,e4⟩
    ·exact .inl h7
    ·refine .inr ⟨g',cap',cur',e1,e2,?_,e4⟩;have hne:g'≠g:=by
      rintro rfl;rw[hg]at e3;simp at e3
     rw[hk.block g' hne (zq10.1 e3).1];exact e3
end Go.Proofs.YtlmlamcoeegkbaaGreat.Srt3
