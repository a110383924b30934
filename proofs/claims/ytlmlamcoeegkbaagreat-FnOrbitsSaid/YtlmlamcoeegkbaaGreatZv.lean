import Derived.Test.YtlmlamcoeegkbaaGreatZ0
import Derived.Test.YtlmlamcoeegkbaaGreatZu
import Derived.Test.YtlmlamcoeegkbaaGreatZt
import Derived.Test.YtlmlamcoeegkbaaGreatZc
import Derived.Test.YtlmlamcoeegkbaaGreatZm
import Derived.Lib.AppendZeros
import Derived.Maps.RangeWalk
import Derived.Maps.OwnOps
import Derived.Deep.RegionHeld3
import Derived.Test.YtlmlamcoeegkbaaGreatZf
/-
  Lemmas for the law FnOrbits, in short spelling.
-/
open Go.Lib (hid)
set_option linter.unusedVariables false
set_option linter.unusedSimpArgs false
set_option maxRecDepth 100000
set_option maxHeartbeats 40000000
namespace Go.Proofs.YtlmlamcoeegkbaaGreat.ImplY
open Go.RowKit Go.Proofs.YtlmlamcoeegkbaaGreat Tow Grps NumT ImplN ImplP ImplQ ImplR ImplS ImplT ImplU ImplW ImplX Grow Srt
theorem SlG.strong {α:Type}{E E':World→Value→α→Prop}{S:Nat→Prop}{w:World}{v:Value}{l:List α}(h:SlG E S w v l)(hE:∀u x,E w u x→E' w u x):SlG E' (fun k=>k<w.heap.size) w v l:=by
 obtain⟨ao,c,h1,h2,h3,h0,h4⟩:=h;refine⟨ao,c,h1,h2,h3,h0,fun i x hx=>?_⟩;obtain⟨b,o,e1,e2,e3,u,e4,e5⟩:=h4 i x hx;exact⟨b,o,e1,e3,e3,u,e4,hE _ _ e5⟩
theorem SlI.strong {S:Nat→Prop}{w:World}{v:Value}{l:List Int}(h:SlI S w v l):SlI (fun k=>k<w.heap.size) w v l:=SlG.strong h (fun _ _ e=>e)
theorem Sl2.strong {S:Nat→Prop}{w:World}{v:Value}{l:List (List Int)}(h:Sl2 S w v l):Sl2 (fun k=>k<w.heap.size) w v l:=SlG.strong h (fun _ _ e=>SlI.strong e)
theorem Sl3.strong {S:Nat→Prop}{w:World}{v:Value}{l:List (List (List Int))}(h:Sl3 S w v l):Sl3 (fun k=>k<w.heap.size) w v l:=SlG.strong h (fun _ _ e=>Sl2.strong e)
theorem PtrP.strong {S:Nat→Prop}{w:World}{b o:Nat}{P:Pres}(h:PtrP S w b o P):PtrP (fun k=>k<w.heap.size) w b o P:=by
 obtain⟨h1,h2,vO,vP,vC,c1,c2,c3,hv⟩:=h;exact⟨h2,h2,vO,vP,vC,c1,c2,c3,⟨SlI.strong hv.os,Sl2.strong hv.ps,Sl3.strong hv.cs⟩⟩
def IsoRes (P Q:Pres)(w:World)(e:Ending)(w':World):Prop:=
 ∃(v:Value) (k:Int),e= .returned (.tuple #[v,.int .i64 k])∧Below w.heap.size w w'∧
  ((v= .slice none 0 0∧k=1∧¬(Grp P∧Grp Q))∨
   ∃T U,P=ofTw T∧Q=ofTw U∧Grp P∧Grp Q∧
   ((v= .slice none 0 0∧k=3∧(27<sz T∨27<sz U))∨(v= .slice none 0 0∧k=0∧sz T≤27∧sz U≤27∧sz T≠sz U)∨
    (k=0∧sz T=sz U∧sz U≤27∧∃F,F.Perm (grow U T T.length [])∧Asc F∧Own2 91 3 w.heap.size w' v F)))
theorem msk_one (Q:Tw):Msk Q [] [] 1:=⟨by omega,fun c=>by
 simp only[inS];cases c with
 |zero=>simp
 |succ c=>simp[Nat.testBit_succ]⟩
theorem grow_rows {Q T:Tw}:∀(k:Nat) (im:List Nat),∀r∈grow Q T k im,r.length=k+im.length
 |0,im,r,h=>by simp only[grow,zq54]at h;rw[h];simp
 |k+1,im,r,h=>by
  rw[grow,List.mem_flatMap]at h;obtain⟨x,_,h⟩:=h;split at h
  ·rw[grow_rows k _ r h];simp;omega
  ·simp at h
theorem mkN (n:Nat)(hn:n≤6)(w:World):(Instr.makeSlice 91 (.int .i64 (n:Int)) (.int .i64 (n:Int))).run Tryz.prog w= .ok (.slice (some ⟨w.heap.size,0,none⟩) n n) (w.alloc (.cells (madeCells #[.int .i64 0] n) 3)):=
 run_make_row' (P:=Tryz.prog) 91 3 (.int .i64 0) 8 Tryz.underlying91 infoN rfl .i64 .i64 n (by omega) (by omega) w
structure Ini (w W:World)(bs bp op bg gi n:Nat)(U:Tw):Prop where
 bel:Below w.heap.size w W
 a1:w.heap.size≤bs
 a2:w.heap.size≤bg
 a3:w.heap.size≤gi
 b1:bs<W.heap.size
 b2:bg<W.heap.size
 b3:gi<W.heap.size
 c1:bs≠gi
 c2:bg≠bs
 c3:bg≠gi
 row:W.heap[bs]?=some (.cells #[.pointer (some ⟨bp,op,none⟩),.pointer (some ⟨bg,0,none⟩),.slice (some ⟨gi,0,none⟩) n n,.bool false,.slice none 0 0] 105)
 img:W.heap[gi]?=some (.cells (madeCells #[.int .i64 0] n) 3)
 tab:∃v,W.cell? ⟨bg,0,none⟩=some v∧Sl2 (fun k=>k≠bs∧k≠gi∧k<W.heap.size) W v ((tabl U (sz U)).map ints)
theorem SlG.strong2 {α:Type}{E E':World→Value→α→Prop}{S:Nat→Prop}{w:World}{v:Value}{l:List α}(h:SlG E S w v l)(hE:∀u x,E w u x→E' w u x):SlG E' (fun k=>S k∧k<w.heap.size) w v l:=by
 obtain⟨ao,c,h1,h2,h3,h0,h4⟩:=h;refine⟨ao,c,h1,h2,h3,h0,fun i x hx=>?_⟩;obtain⟨b,o,e1,e2,e3,u,e4,e5⟩:=h4 i x hx;exact⟨b,o,e1,⟨e2,e3⟩,e3,u,e4,hE _ _ e5⟩
theorem Sl2.strong2 {S:Nat→Prop}{w:World}{v:Value}{l:List (List Int)}(h:Sl2 S w v l):Sl2 (fun k=>S k∧k<w.heap.size) w v l:=SlG.strong2 h (fun _ _ e=>SlG.strong2 e (fun _ _ e=>e))
theorem ini_tab {w7 W:World}{B bs gi:Nat}{v:Value}{U:Tw}(h:Own2 91 3 B w7 v (tabl U (sz U)))(hk:Keep (fun _=>True) w7 W)(hn:∀k,B≤k→k<w7.heap.size→k≠bs∧k≠gi):
  Sl2 (fun k=>k≠bs∧k≠gi∧k<W.heap.size) W v ((tabl U (sz U)).map ints):=
 Sl2.mono ((Sl2.strong2 h.sl).keep (hk.mono (fun _ _=>trivial))) (fun k hk'=>⟨(hn k hk'.1 hk'.2).1,(hn k hk'.1 hk'.2).2,zq7 hk'.2 hk.size⟩)
theorem new_at (w:World)(o:Obj)(k:Nat)(h:k=w.heap.size):(w.alloc o).heap[k]?=some o:=by subst h;exact zq17 _ _
theorem ini_a {w w6 w7:World}{bp op n B:Nat}{v:Value}{U:Tw}(hb:Below w.heap.size w w7)(h:Own2 91 3 B w7 v (tabl U (sz U))):
  Ini w (((w7.alloc (.cells #[v] 103)).alloc (.cells (madeCells #[.int .i64 0] n) 3)).alloc (.cells #[.pointer (some ⟨bp,op,none⟩),.pointer (some ⟨w7.heap.size,0,none⟩),.slice (some ⟨w7.heap.size+1,0,none⟩) n n,.bool false,.slice none 0 0] 105)) (w7.heap.size+1+1) bp op w7.heap.size (w7.heap.size+1) n U:=by
 have hs:=hb.size;refine⟨((hb.alloc hs _).alloc (by simp;omega) _).alloc (by simp;omega) _,by omega,by omega,by omega,by simp,by simp;omega,by simp,by omega,by omega,by omega,new_at _ _ _ (by simp),(zq91 _ _ (by simp)).trans (new_at _ _ _ (by simp)),v,?_,ini_tab h (((zqK.alloc _).alloc _).alloc _) (fun k _ hk=>by omega)⟩;exact(zq15 _ _ _ #[v] 103 (0,0) ((zq91 _ _ (by simp;omega)).trans ((zq91 _ _ (by simp)).trans (new_at _ _ _ (by simp))))).trans rfl
theorem ini_b {w w6 w7:World}{bp op n B:Nat}{v:Value}{U:Tw}(hb:Below w.heap.size w w7)(h:Own2 91 3 B w7 v (tabl U (sz U))):
  Ini w (((w7.alloc (.cells (madeCells #[.int .i64 0] n) 3)).alloc (.cells #[v] 103)).alloc (.cells #[.pointer (some ⟨bp,op,none⟩),.pointer (some ⟨w7.heap.size+1,0,none⟩),.slice (some ⟨w7.heap.size,0,none⟩) n n,.bool false,.slice none 0 0] 105)) (w7.heap.size+1+1) bp op (w7.heap.size+1) w7.heap.size n U:=by
 have hs:=hb.size;refine⟨((hb.alloc hs _).alloc (by simp;omega) _).alloc (by simp;omega) _,by omega,by omega,by omega,by simp,by simp,by simp;omega,by omega,by omega,by omega,new_at _ _ _ (by simp),(zq91 _ _ (by simp;omega)).trans ((zq91 _ _ (by simp)).trans (new_at _ _ _ (by simp))),v,?_,ini_tab h (((zqK.alloc _).alloc _).alloc _) (fun k _ hk=>by omega)⟩;exact(zq15 _ _ _ #[v] 103 (0,0) ((zq91 _ _ (by simp)).trans (new_at _ _ _ (by simp)))).trans rfl
theorem ini_c {w w6 w7:World}{bp op n:Nat}{v:Value}{U:Tw}(hb6:Below w.heap.size w w6)(hb7:Below (w6.heap.size+1) (w6.alloc (.cells (madeCells #[.int .i64 0] n) 3)).drew w7)(h:Own2 91 3 (w6.heap.size+1) w7 v (tabl U (sz U))):
  Ini w ((w7.alloc (.cells #[v] 103)).alloc (.cells #[.pointer (some ⟨bp,op,none⟩),.pointer (some ⟨w7.heap.size,0,none⟩),.slice (some ⟨w6.heap.size,0,none⟩) n n,.bool false,.slice none 0 0] 105)) (w7.heap.size+1) bp op w7.heap.size w6.heap.size n U:=by
 have hs6:=hb6.size;have hs7:=hb7.size;simp at hs7;have hb:Below w.heap.size w w7:=((hb6.alloc hs6 _).drew).trans (hb7.mono (by omega));have hs:=hb.size;have hg:w7.heap[w6.heap.size]?=some (.cells (madeCells #[.int .i64 0] n) 3):=by
  rw[hb7.block _ (by omega)];exact new_at w6 _ _ rfl
 refine⟨(hb.alloc hs _).alloc (by simp;omega) _,by omega,by omega,by omega,by simp,by simp;omega,by simp;omega,by omega,by omega,by omega,new_at _ _ _ (by simp),?_,v,?_,ini_tab h ((zqK.alloc _).alloc _) (fun k hk hk'=>by omega)⟩
 ·have hk:Keep (fun _=>True) w7 ((w7.alloc (.cells #[v] 103)).alloc (.cells #[.pointer (some ⟨bp,op,none⟩),.pointer (some ⟨w7.heap.size,0,none⟩),.slice (some ⟨w6.heap.size,0,none⟩) n n,.bool false,.slice none 0 0] 105)):=(zqK.alloc _).alloc _;rw[hk.block _ trivial (by omega)];exact hg
 ·exact(zq15 _ _ _ #[v] 103 (0,0) ((zq91 _ _ (by simp)).trans (new_at _ _ _ (by simp)))).trans rfl
theorem Ini.iso {w W:World}{bs bp op bg gi:Nat}{T U:Tw}(h:Ini w W bs bp op bg gi T.length U)(hP:PtrP (fun k=>k<w.heap.size) w bp op (ofTw T))(h6:T.length≤6):
  Iso W bs bp op bg gi T.length W.heap.size T U false (List.replicate T.length 0) [] (.slice none 0 0):=by
 have hs:=h.bel.size;have h1:=h.a1;have h3:=h.a3;obtain⟨v,hv,ht⟩:=h.tab;refine⟨h.b1,h.b3,h.c1,zq1 _,h.row,?_,⟨⟨h.b2,h.c2,h.c3⟩,h.b2,v,hv,ht.mono (fun k hk=>⟨hk.2.2,hk.1,hk.2.1⟩)⟩,by simp,?_,Own2.nil _ _ _ _⟩
 ·exact(hP.keep ⟨hs,fun k hk _=>h.bel.block k hk⟩).mono (fun k hk=>⟨by omega,by omega,by omega⟩)
 ·refine⟨by simp[vals,ints],.inr ⟨gi,T.length,_,rfl,zq4 _,h.img,zq1 _,by unfold maxLen;omega,by simp[madeCells],?_⟩⟩;rw[zq108];simp[vals,ints]
theorem isomorphisms_any (w:World)(bp op bq oq:Nat)(P Q:Pres)(hP:PtrP Any w bp op P)(hQ:PtrP Any w bq oq Q):
  Calls Tryz.prog 32 #[.pointer (some ⟨bp,op,none⟩),.pointer (some ⟨bq,oq,none⟩)] w (IsoRes P Q w):=by
 have HP:=hid hP;have HQ:=hid hQ;obtain⟨_,hpl,vO,vP,vC,p0,p1,p2,hVP⟩:=hP;obtain⟨_,hql,uO,uP,uC,q0,q1,q2,hVQ⟩:=hQ;have HVP:=hid hVP;have HVQ:=hid hVQ;have HG:=hid (fun W a b c P h=>ImplI.group_any W a b c P h);have HN1:Hid (¬(Grp P∧Grp Q)→∀w',Below w.heap.size w w'→IsoRes P Q w (.returned (.tuple #[.slice none 0 0,.int .i64 1])) w'):=hid fun h w' hb=>⟨_,_,rfl,hb,.inl ⟨rfl,rfl,h⟩⟩;clear hVP hVQ;go_enter Tryz.func32,Tryz.ntmps32;go_wp2_with fail;refine(HG.out _ _ _ _ _ HVP.out).mono ?_;rintro e w1 ⟨r,rfl,hr,hb1⟩;have HB1:=hid hb1;by_cases hGP:Grp P
 ·obtain rfl:r=true:=hr.2 hGP;have HGP:=hid hGP;have k1:=ks_mk (Keep.of_below hb1);have r0:=(k1.1 bq oq hql).trans q0;have r1:=(k1.1 bq (oq+1) hql).trans q1;have r2:=(k1.1 bq (oq+2) hql).trans q2;have HVQ1:=hid (HVQ.out.keep (Keep.of_below hb1));clear hr hb1 hGP k1;go_wp2_with fail;refine(HG.out _ _ _ _ _ HVQ1.out).mono ?_;rintro e w2 ⟨r,rfl,hr,hb2⟩;have HB2:=hid (HB1.out.trans (hb2.mono HB1.out.size));by_cases hGQ:Grp Q
  ·obtain rfl:r=true:=hr.2 hGQ;have HGQ:=hid hGQ;clear hr hb2 r0 r1 r2 p0 p1 p2 q0 q1 q2 HVQ1;obtain⟨U,hU,hsU,rfl,hValU,hgU⟩:=hGQ;obtain⟨T,hT,hs,rfl,hVal,hgd⟩:=HGP.out;have hzT:=valid_sz hVal;have hzU:=valid_sz hValU;have HPW:=hid (fun W (h:Below w.heap.size w W)=>HP.out.keep (S:=Any) (Keep.of_below h));have HQW:=hid (fun W (h:Below w.heap.size w W)=>HQ.out.keep (S:=Any) (Keep.of_below h));have HOP:=hid (fun W (h:Below w.heap.size w W)=>order_any T hT hs.1 hzT W bp op (HPW.out W h));have HOQ:=hid (fun W (h:Below w.heap.size w W)=>order_any U hU hsU.1 hzU W bq oq (HQW.out W h));have HTM:=hid (fun W (h:Below w.heap.size w W)=>table_any U hU hsU hgU hzU W bq oq (HQW.out W h));have hT6:=hs.1;have HT:=hid hT;have HS:=hid hs;have HU:=hid hU;have HSU:=hid hsU;clear hT hs hU hsU hVal hValU hgU hgd;have HEND:Hid (∀v k w',Below w.heap.size w w'→((v= .slice none 0 0∧k=3∧(27<sz T∨27<sz U))∨(v= .slice none 0 0∧k=0∧sz T≤27∧sz U≤27∧sz T≠sz U)∨
     (k=0∧sz T=sz U∧sz U≤27∧∃F,F.Perm (grow U T T.length [])∧Asc F∧Own2 91 3 w.heap.size w' v F))→IsoRes (ofTw T) (ofTw U) w (.returned (.tuple #[v,.int .i64 k])) w'):=
    hid fun v k w' hb h=>⟨v,k,rfl,hb,.inr ⟨T,U,rfl,rfl,HGP.out,HGQ.out,h⟩⟩
   go_wp2_with fail;refine(HOP.out _ HB2.out).mono ?_;rintro e w3 ⟨rfl,hb3⟩;have HB3:=hid (HB2.out.trans (hb3.mono HB2.out.size));clear hb3;by_cases h27:27<sz T
   ·have hd:decide ((sz T:Int)>27)=true:=by simp;omega
    have HR:=hid (HEND.out (.slice none 0 0) 3 w3 HB3.out (.inl ⟨rfl,rfl,.inl h27⟩));clear HPW HQW HOP HOQ HTM HG h27;go_wp2_with fail;exact zq12 (v:=.tuple #[.slice none 0 0,.int .i64 3]) (by simp[results,Tryz.results32,go_sem]) rfl HR.out
   ·have hd:decide ((sz T:Int)>27)=false:=by simp;omega
    go_wp2_with fail;refine(HOQ.out _ HB3.out).mono ?_;rintro e w4 ⟨rfl,hb4⟩;have HB4:=hid (HB3.out.trans (hb4.mono HB3.out.size));clear hb4;by_cases h27U:27<sz U
    ·have hd2:decide ((sz U:Int)>27)=true:=by simp;omega
     have HR:=hid (HEND.out (.slice none 0 0) 3 w4 HB4.out (.inl ⟨rfl,rfl,.inr h27U⟩));clear HPW HQW HOP HOQ HTM HG h27 h27U;go_wp2_with fail;exact zq12 (v:=.tuple #[.slice none 0 0,.int .i64 3]) (by simp[results,Tryz.results32,go_sem]) rfl HR.out
    ·have hd2:decide ((sz U:Int)>27)=false:=by simp;omega
     go_wp2_with fail;refine(HOP.out _ HB4.out).mono ?_;rintro e w5 ⟨rfl,hb5⟩;have HB5:=hid (HB4.out.trans (hb5.mono HB4.out.size));clear hb5;go_wp2_with fail;refine(HOQ.out _ HB5.out).mono ?_;rintro e w6 ⟨rfl,hb6⟩;have HB6:=hid (HB5.out.trans (hb6.mono HB5.out.size));clear hb6;by_cases hne:sz T=sz U
     ·have hd3:((sz T:Int) !=(sz U:Int))=false:=by simp[hne]
      have HPW0:=hid (PtrP.strong (HPW.out w zqB));obtain⟨_,hpl6,vO,vP,vC,p0,p1,p2,hVP⟩:=HPW.out _ HB6.out;obtain⟨aO,cO,aP,cP,aC,cC,rfl,rfl,rfl,hO1,hP1,hC1⟩:=hVP.open;clear hVP p1 p2 h27 hd hd2;have hmk:∀W:World,(Instr.makeSlice 91 (.int .i64 (T.length:Int)) (.int .i64 (T.length:Int))).run Tryz.prog W= .ok (.slice (some ⟨W.heap.size,0,none⟩) T.length T.length) (W.alloc (.cells (madeCells #[.int .i64 0] T.length) 3)):=fun W=>mkN T.length (by omega) W;go_upto_region 7 with fail;clear HG HN1 HB2 HB3 HB4 HB5;go_cut [6] (fun sv W=>∃bs bg gi,sv= .pointer (some ⟨bs,0,none⟩)∧Ini w W bs bp op bg gi T.length U);case rest=>
       obtain⟨bs,bg,gi,rfl,hI⟩:=hcut;have HI:=hid hI;obtain⟨_,hplc,vO',vP',vC',p0',_,_,hVP'⟩:=HPW.out _ hI.bel;obtain⟨aO',cO',aP',cP',aC',cC',rfl,rfl,rfl,_,_,_⟩:=hVP'.open;have HISO:=hid (hI.iso (HPW0.out) hT6);have HCH:=hid (fun hiso=>choose_any w.heap.size T U HT.out HS.out HU.out (by omega) bs bp op bg gi T.length wc.heap.size false ⟨hI.a1,hI.a3⟩ T.length zqN wc (List.replicate T.length 0) [] (.slice none 0 0) 1 hiso
        (fun y hy=>by rw[(zq82.1 hy).2];exact sz_pos HU.out) (by rw[zq104];simpa using msk_one U) (by have h6:27^T.length≤27^6:=zq110 (by omega) hT6;simp;omega) (fun h=>by simp at h))
       have HB8:=hid hI.bel;clear hVP' hI p0;go_wp2_with fail;refine(HCH.out HISO.out).mono ?_;rintro e w8 ⟨rfl,ims',vF',hI8,_,_,hch8⟩;have hbs8:bs<w8.heap.size:=zq7 HI.out.b1 hI8.hB;have hF8:Own2 91 3 wc.heap.size w8 vF' (grow U T T.length []):=by
        have h:=hI8.fnd;rwa[cutB_false,List.nil_append,show(List.replicate T.length 0).drop T.length=[] by simp]at h
       have q4:=hI8.cells.2.2.2.2;have hne4:some bs≠vF'.ownBlock:=fun e=>by
        obtain⟨us,hu,_⟩:=hF8;have:=(zq8 hu bs e.symm).1;have:=HI.out.b1;omega
       have HF8:=hid hF8;have HB9:=hid (HB8.out.trans hch8.1);have hB8:=hI8.hB;clear hI8 hch8 hF8 p0';go_wp2_with fail;refine(sort_any wc.heap.size T.length (by omega) w8 vF' _ HF8.out (by have h6:27^T.length≤27^6:=zq110 (by omega) hT6;have:=grow_length U T (by omega) T.length [];omega) (fun r hr=>by have:=grow_rows _ _ r hr;simpa using this)).mono ?_;rintro e w9 ⟨rfl,F',hperm,hasc,hown,hkeep,hbel⟩;have q49:=(hkeep.cell (b:=bs) (o:=4) hne4 hbs8).trans q4;have HR:=hid (HEND.out vF' 0 w9 (HB9.out.trans (hbel.mono (by have:=HB8.out.size;omega))) (.inr (.inr ⟨rfl,hne,by omega,F',hperm,hasc,hown.mono HB8.out.size⟩)));clear hperm hasc hown hkeep hbel q4 hne4;go_wp2_with fail;exact zq12 (v:=.tuple #[vF',.int .i64 0]) (by simp[results,Tryz.results32,go_sem]) rfl HR.out
      go_region_law
       (first|(go_simp;go_at_call 65;refine(HTM.out _ (by first|exact HB6.out|exact(HB6.out).drew)).mono ?_;rintro e w7 ⟨v7,rfl,hr7,hb7⟩;obtain⟨a7,c7,rfl,_,_⟩:=hr7.form;have k7:=ks_mk (Keep.of_below hb7);have p7:=(k7.1 bp op hpl6).trans p0;have hpl7:bp<w7.heap.size:=zq7 hpl6 hb7.size)|(go_simp;go_at_call 65;refine(HTM.out _ (by first|exact((HB6.out).alloc (by have:=HB6.out.size;omega) _).drew|exact(HB6.out).alloc (by have:=HB6.out.size;omega) _)).mono ?_;rintro e w7 ⟨v7,rfl,hr7,hb7⟩;obtain⟨a7,c7,rfl,_,_⟩:=hr7.form))
      all_goals (go_wp2_with fail;go_meet)
      all_goals first
       |exact⟨_,_,_,rfl,ini_a (w6:=w6) ((HB6.out.drew).trans (hb7.mono HB6.out.size)) hr7⟩
       |exact⟨_,_,_,rfl,ini_b (w6:=w6) ((HB6.out.drew).trans (hb7.mono HB6.out.size)) hr7⟩
       |exact⟨_,_,_,rfl,ini_c HB6.out (by simpa using hb7) (by simpa using hr7)⟩
     ·have hd3:((sz T:Int) !=(sz U:Int))=true:=by simp;omega
      have HR:=hid (HEND.out (.slice none 0 0) 0 w6 HB6.out (.inr (.inl ⟨rfl,rfl,by omega,by omega,hne⟩)));clear HPW HQW HOP HOQ HTM HG h27 h27U hne;go_wp2_with fail;exact zq12 (v:=.tuple #[.slice none 0 0,.int .i64 0]) (by simp[results,Tryz.results32,go_sem]) rfl HR.out
  ·obtain rfl:r=false:=by
    cases r with
    |false=>rfl
    |true=>exact absurd (hr.1 rfl) hGQ
   have HR:=hid (HN1.out (fun h=>hGQ h.2) w2 HB2.out);clear hr hb2 hGQ r0 r1 r2;go_wp2_with fail;exact zq12 (v:=.tuple #[.slice none 0 0,.int .i64 1]) (by simp[results,Tryz.results32,go_sem]) rfl HR.out
 ·obtain rfl:r=false:=by
   cases r with
   |false=>rfl
   |true=>exact absurd (hr.1 rfl) hGP
  have HR:=hid (HN1.out (fun h=>hGP h.1) w1 HB1.out);clear hr hb1 hGP;go_wp2_with fail;exact zq12 (v:=.tuple #[.slice none 0 0,.int .i64 1]) (by simp[results,Tryz.results32,go_sem]) rfl HR.out
end Go.Proofs.YtlmlamcoeegkbaaGreat.ImplY
namespace Go.Proofs.YtlmlamcoeegkbaaGreat.ImplZ
open Go.RowKit Go.Proofs.YtlmlamcoeegkbaaGreat Tow Grps NumT ImplN ImplW Grow Srt ImplY
def CntV (P:Pres)(n k:Int):Prop:=
 (n=0∧k=1∧¬Grp P)∨∃T,P=ofTw T∧Grp P∧((n=0∧k=3∧27<sz T)∨(k=0∧sz T≤27∧n=((grow T T T.length []).length:Int)))
def CntR (P:Pres)(w:World)(e:Ending)(w':World):Prop:=∃n k:Int,e= .returned (.tuple #[.int .i64 n,.int .i64 k])∧CntV P n k∧Below w.heap.size w w'
theorem iso_form {P Q:Pres}{w w':World}{e:Ending}(h:IsoRes P Q w e w'):∃a n c k,e= .returned (.tuple #[.slice a n c,.int .i64 k])∧n≤1000000000∧Below w.heap.size w w'∧(P=Q→CntV P (n:Int) k):=by
 obtain⟨v,k,rfl,hb,h⟩:=h;rcases h with⟨rfl,rfl,h⟩|⟨T,U,hT,hU,gP,gQ,h⟩
 ·exact⟨none,0,0,1,rfl,by omega,hb,fun e=>.inl ⟨rfl,rfl,fun hp=>h ⟨hp,e▸hp⟩⟩⟩
 ·rcases h with⟨rfl,rfl,h⟩|⟨rfl,rfl,h1,h2,h3⟩|⟨rfl,h1,h2,F,hperm,_,ho⟩
  ·refine⟨none,0,0,3,rfl,by omega,hb,fun e=>.inr ⟨T,hT,gP,.inl ⟨rfl,rfl,?_⟩⟩⟩;obtain rfl:T=U:=ofTw_inj (hT.symm.trans (e.trans hU));omega
  ·refine⟨none,0,0,0,rfl,by omega,hb,fun e=>?_⟩;obtain rfl:T=U:=ofTw_inj (hT.symm.trans (e.trans hU));exact absurd rfl h3
  ·obtain⟨a,c,rfl,_,_⟩:=ho.form;have hl:=hperm.length_eq;have hg:=grow_length U T h2 T.length [];have h6:27^T.length≤27^6:=zq110 (by omega) (by
    obtain⟨T',_,hs,e,_⟩:=gP;obtain rfl:T=T':=ofTw_inj (hT.symm.trans e);exact hs.1)
   refine⟨a,F.length,c,0,rfl,by omega,hb,fun e=>.inr ⟨T,hT,gP,.inr ⟨rfl,by omega,?_⟩⟩⟩;obtain rfl:T=U:=ofTw_inj (hT.symm.trans (e.trans hU));rw[hl]
theorem count_any (w:World)(vO vP vC:Value)(P:Pres)(hP:ValP Any w vO vP vC P):
  Calls Tryz.prog 16 #[.agg #[vO,vP,vC]] w (CntR P w):=by
 have HP:=hid hP;clear hP;have HB0:Hid (Below w.heap.size w (w.alloc (.cells #[vO,vP,vC] 28))):=hid (zqB.alloc (by simp) _);have HC:=hid (isomorphisms_any (w.alloc (.cells #[vO,vP,vC] 28)) w.heap.size 0 w.heap.size 0 P P (ImplI.ptr_of_box HP.out zqB) (ImplI.ptr_of_box HP.out zqB));go_enter Tryz.func16,Tryz.ntmps16;go_wp2_with fail;refine HC.out.mono ?_;rintro e w1 h;obtain⟨a,n,c,k,rfl,hn,hb,hv⟩:=iso_form h;have HR:=hid (show CntR P w (.returned (.tuple #[.int .i64 (n:Int),.int .i64 k])) w1 from⟨_,_,rfl,hv rfl,HB0.out.trans (hb.mono (by simp))⟩);clear h hb hv;go_wp2_with fail;exact zq12 (v:=.tuple #[.int .i64 (n:Int),.int .i64 k]) (by simp[results,Tryz.results16,go_sem]) rfl HR.out
end Go.Proofs.YtlmlamcoeegkbaaGreat.ImplZ
namespace Go.Proofs.YtlmlamcoeegkbaaGreat.SfD
open Go.RowKit Go.Proofs.YtlmlamcoeegkbaaGreat Tow NumT SpecB SfC
open Go.Proofs.YtlmlamcoeegkbaaGreat.Cmp (cmpN)
theorem nan_any (x:Nat)(w:World):Calls Tryz.prog 178 #[.int .i64 (x:Int)] w fun e w'=>e= .returned (.bool false)∧w=w':=by
 go_enter Tryz.func178,Tryz.ntmps178;go_wp2_with fail;go_ret;exact⟨by simp,rfl⟩
theorem cmp_any (x y:Nat)(w:World):Calls Tryz.prog 129 #[.int .i64 (x:Int),.int .i64 (y:Int)] w fun e w'=>e= .returned (.int .i64 (cmpN x y))∧w=w':=by
 rcases zq123 x y with h|h|h
 ·have h1:decide ((x:Int)<(y:Int))=true:=by simp;omega
  have HC:=hid (show cmpN x y= -1 by simp[cmpN,h]);go_enter Tryz.func129,Tryz.ntmps129;go_wp2_with (go_at_call 178;refine(nan_any _ _).mono ?_;rintro e w' ⟨rfl,rfl⟩);go_ret;exact⟨by rw[HC.out];rfl,rfl⟩
 ·subst h;have h1:decide ((x:Int)<(x:Int))=false:=by simp
  have HC:=hid (show cmpN x x=0 by simp[cmpN]);go_enter Tryz.func129,Tryz.ntmps129;go_wp2_with (go_at_call 178;refine(nan_any _ _).mono ?_;rintro e w' ⟨rfl,rfl⟩);go_ret;exact⟨by rw[HC.out];rfl,rfl⟩
 ·have h1:decide ((x:Int)<(y:Int))=false:=by simp;omega
  have h2:decide ((x:Int)>(y:Int))=true:=by simp;omega
  have HC:=hid (show cmpN x y=1 by simp[cmpN,h];omega);go_enter Tryz.func129,Tryz.ntmps129;go_wp2_with (go_at_call 178;refine(nan_any _ _).mono ?_;rintro e w' ⟨rfl,rfl⟩);go_ret;exact⟨by rw[HC.out];rfl,rfl⟩
end Go.Proofs.YtlmlamcoeegkbaaGreat.SfD
namespace Go.Proofs.YtlmlamcoeegkbaaGreat.SfE
open Go.RowKit Go.Proofs.YtlmlamcoeegkbaaGreat Tow NumT SpecB SfC SfD
open Go.Proofs.YtlmlamcoeegkbaaGreat.DwB (mkE)
end Go.Proofs.YtlmlamcoeegkbaaGreat.SfE
namespace Go.Proofs.YtlmlamcoeegkbaaGreat.SfF
open Go.RowKit Go.Proofs.YtlmlamcoeegkbaaGreat Tow NumT SpecB SfC SfD
theorem flat_len {n:Nat}:∀{R:List (List Nat)},(∀r∈R,r.length=n)→R.flatten.length=R.length*n
 |[],_=>by simp
 |r::R,h=>by
  rw[List.flatten_cons,zq31,h r zq24,flat_len fun r hr=>h r (zq23 _ hr),zq58,Nat.succ_mul,zq89]
end Go.Proofs.YtlmlamcoeegkbaaGreat.SfF
namespace Go.Proofs.YtlmlamcoeegkbaaGreat.SfG
open Go Go.Maps Go.RowKit Go.Proofs.YtlmlamcoeegkbaaGreat Tow NumT SpecB Gen GenC GenD ImplP ImplQ
end Go.Proofs.YtlmlamcoeegkbaaGreat.SfG
namespace Go.Proofs.YtlmlamcoeegkbaaGreat.SfH
open Go Go.Maps Go.RowKit Go.Proofs.YtlmlamcoeegkbaaGreat Tow NumT SpecB Gen GenC GenD ImplP ImplQ ImplR DxA SfG
theorem wpList_insert_own {H:Type}{P:Program}(w:World){ops:Array Oper}{rest:List Oper}{o:Oper}{a:Act}{Q:Exit→Act→World→Prop}
  (hg:o.guard=none) (m x v:Operand) (t:TypeId) (hop:o.op=Op.insert t m x v)
  (k e:TypeId) (K:Keyed P k) (ht:P.underlying t=some (.map k e)) (R:Value→Option (DataW H×List MemPlace)) (b n:Nat) (D:DataW H)
  (hm:a.eval m= .map (some b)) (hown:w.ownsMap P k R b n D) (hn:n<maxLen) (key val:Value) (kl:Lit) (hx:a.eval x=key) (hv:a.eval v=val) (hkey:keyOf P k key=some kl)
  (d:DataW H) (ps:List MemPlace) (hval:R val=some (d,ps))
  (hK:∀w',w'.ownsMap P k R b (n+1) (D.put kl d)→w.grownBy w' (some b)→wpList P ops Q rest (a.put o.dst undef) w'):
  wpList P ops Q (o::rest) a w:=by
 refine wpList_plain hg fun K' hK'=>?_;obtain⟨w',hrun,r1,r2⟩:=hown.update K ht hn hkey hval;unfold Oper.wp;simp[execOp,hop,hm,hx,hv,hrun,Result.andThen];exact hK' _ _ (hK w' r1 r2)
end Go.Proofs.YtlmlamcoeegkbaaGreat.SfH
namespace Go.Proofs.YtlmlamcoeegkbaaGreat.CyD
open Go.Proofs.YtlmlamcoeegkbaaGreat Tow
def zeroL (x:List Nat):Bool:=x.all (· ==0)
def ordM (T:Tw):Nat→Nat→List Nat→Nat→Option Nat
 |0,_,x,k=>if zeroL x then some k else none
 |f+1,d,x,k=>if zeroL x then some k else match x[d]?,T[d]? with
  |some a,some L=>if a=0 then ordM T f (d+1) x k else ordM T f (d+1) (npow (mul T) (Tow.one T) x L.o) (k*L.o)
  |_,_=>none
end Go.Proofs.YtlmlamcoeegkbaaGreat.CyD
namespace Go.Proofs.YtlmlamcoeegkbaaGreat.CyE
open Go.RowKit Go.Proofs.YtlmlamcoeegkbaaGreat Tow Val Grps NumT CyD
open Go.Proofs.YtlmlamcoeegkbaaGreat.SpecB (Any)
theorem slg_form {α:Type}{E:World→Value→α→Prop}{S:Nat→Prop}{w:World}{v:Value}{l:List α}(h:SlG E S w v l):∃a c,v= .slice a l.length c∧l.length≤c∧c≤maxLen:=by
 obtain⟨a,c,h1,h2,h3,_⟩:=h;exact⟨a,c,h1,h2,h3⟩
theorem slg_get {α:Type}{E:World→Value→α→Prop}{S:Nat→Prop}{w:World}{a:Option Addr}{n c:Nat}{l:List α}(h:SlG E S w (.slice a n c) l){k:Nat}{x:α}(hx:l[k]?=some x):
  ∃b o u,a=some ⟨b,o,none⟩∧S b∧b<w.heap.size∧w.cell? ⟨b,o+k,none⟩=some u∧E w u x:=by
 obtain⟨ao,c',e,_,_,_,h4⟩:=h;obtain⟨rfl,_,_⟩:a=ao∧n=l.length∧c=c':=by simpa using e
 obtain⟨b,o,e1,e2,e3,u,e4,e5⟩:=h4 k x hx;exact⟨b,o,u,e1,e2,e3,e4,e5⟩
def TrueR (w:World)(e:Ending)(w':World):Prop:=e= .returned (.bool true)∧Below w.heap.size w w'
theorem isZero_any (w:World)(v:Value)(x:List Nat)(hv:SlI Any w v (ints x))(hl:x.length≤1000000):
  Calls Tryz.prog 84 #[v] w fun e w'=>e= .returned (.bool (zeroL x))∧w=w':=by
 obtain⟨aX,cX,rfl,_⟩:=hv.open;have HV:=hid hv;clear hv;go_enter Tryz.func84,Tryz.ntmps84;go_wp2_with fail;go_loop [7] (fun iv=>∃k:Nat,k≤x.length∧iv= .int .i64 (k:Int)∧Hid (∀j,j<k→x[j]?=some 0)) (fun iv=>x.length-(intOf iv).toNat);case atStart=>exact⟨0,zq4 _,rfl,hid (fun j h=>absurd h (zq33 _))⟩
 case round=>
  obtain⟨k,hk,rfl,hR⟩:=hrel;by_cases hlt:k<x.length
  ·obtain⟨a,ha⟩:∃a,x[k]?=some a:=⟨_,zq0 hlt⟩;obtain⟨b,o,rfl,_,hb,hc⟩:=HV.out.at ha;by_cases h0:a=0
   ·subst h0;have HN:=hid (show∀j,j<k+1→x[j]?=some 0 from fun j hj=>by
     rcases zq30.1 hj with h|h
     ·exact hR.out j h
     ·rw[h];exact ha)
    clear ha hR;go_wp2_with fail;go_round;case rel=>exact⟨k+1,by omega,by go_num,HN⟩
    case measure=>simp[intOf];omega
   ·have hne:((a:Int) !=0)=true:=by simp;omega
    have HE:=hid (show zeroL x=false from by
     rw[←Bool.not_eq_true];intro h;have:=List.all_eq_true.1 h a (zq5 ha);simp at this;exact h0 this)
    clear ha hR h0;go_wp2_with fail;go_ret;exact⟨by rw[HE.out];rfl,rfl⟩
  ·obtain rfl:k=x.length:=by omega
   have HE:=hid (show zeroL x=true from List.all_eq_true.2 fun a ha=>by
    obtain⟨j,hj⟩:=zq45 ha;have:=hR.out j (zq2.1 hj).1;rw[hj]at this;injection this with this;simp[this])
   clear hR;go_wp2_with fail;go_ret;exact⟨by rw[HE.out];rfl,rfl⟩
theorem grp_pr' {P:Pres}(h:Grp P):∀x∈P.os,primeB x=true:=by
 obtain⟨_,_,_,_,hv,_⟩:=h;exact hv.pr
theorem areElements_any (w:World)(b o:Nat)(P:Pres)(vl:Value)(ls:List (List Int))(hP:PtrP Any w b o P)(hl:Sl2 Any w vl ls)(hG:Grp P)(hE:∀l∈ls,TailV P.os 0 l):
  Calls Tryz.prog 40 #[.pointer (some ⟨b,o,none⟩),vl] w (TrueR w):=by
 have HP:=hid hP;obtain⟨_,hbl,vO,vP,vC,hp0,hp1,hp2,hV⟩:=hP;obtain⟨a,c,rfl,hlc,hcm⟩:=slg_form hl;unfold maxLen at hcm;have hl63:(ls.length:Int)≤9223372036854775807:=by omega
 have HL:=hid hl;have HG:=hid (ImplI.group_any w vO vP vC P hV);have HPR:=hid (grp_pr' hG);have HGP:=hid hG;have HE:=hid hE;clear hV hl hcm hG hE hlc;go_enter Tryz.func40,Tryz.ntmps40;go_wp2_with fail;refine HG.out.mono ?_;rintro e w1 ⟨r,rfl,hr,hb1⟩;have HB1:=hid hb1;obtain rfl:r=true:=hr.2 HGP.out;clear hb1 hr;go_wp2_with fail;go_loop [14] (fun iv=>∃k:Nat,k≤ls.length∧iv= .int .i64 (k:Int)) (fun iv=>ls.length-(intOf iv).toNat);case atStart=>exact⟨0,zq4 _,rfl⟩
 case round=>
  obtain⟨k,hk,rfl⟩:=hrel;by_cases hlt:k<ls.length
  ·obtain⟨l,hl⟩:∃l,ls[k]?=some l:=⟨_,zq0 hlt⟩;obtain⟨b2,o2,u,rfl,_,hb2,hc,hu⟩:=slg_get HL.out hl;have hcr:=((Keep.of_below (S:=Any) HB1.out).cell (b:=b2) (o:=o2+k) trivial hb2).trans hc;have HEC:=hid (ImplV.isExponents_any w1 b o P u l (HP.out.keep (Keep.of_below HB1.out)) (SlI.keep hu (Keep.of_below HB1.out)) HPR.out);have HLM:=hid (HE.out l (zq5 hl));clear hl hc hu;go_wp2_with fail;refine HEC.out.mono ?_;rintro e w' ⟨r,rfl,hr,rfl⟩;obtain rfl:r=true:=hr.2 HLM.out;clear hr HEC;go_wp2_with fail;go_round;case rel=>exact⟨k+1,by omega,by go_num⟩
   case measure=>simp[intOf];omega
  ·obtain rfl:k=ls.length:=by omega
   have HRR:=hid (show TrueR w (.returned (.bool true)) w1 from⟨rfl,HB1.out⟩);go_wp2_with fail;go_ret;exact HRR.out
end Go.Proofs.YtlmlamcoeegkbaaGreat.CyE
namespace Go.Proofs.YtlmlamcoeegkbaaGreat.CyF
open Go.RowKit Go.Proofs.YtlmlamcoeegkbaaGreat Tow Val Grps NumT CyD CyE
open Go.Proofs.YtlmlamcoeegkbaaGreat.SpecB (Any)
theorem row3' {w:World}{g:Nat}{a b c:Value}{t:TypeId}(h:w.heap[g]?=some (.cells #[a,b,c] t (0,0))):
  w.cell? ⟨g,0,none⟩=some a∧w.cell? ⟨g,1,none⟩=some b∧w.cell? ⟨g,2,none⟩=some c:=
 ⟨(zq15 _ _ _ _ _ _ h).trans rfl,(zq15 _ _ _ _ _ _ h).trans rfl,(zq15 _ _ _ _ _ _ h).trans rfl⟩
theorem pow7 {k d o:Nat}(h:k≤7^d)(ho:o≤7):k*o≤7^(d+1):=by rw[zq112];exact Nat.mul_le_mul h ho
theorem pow7b {k d:Nat}(h:k≤7^d)(hd:d≤6):k≤117649:=zq11 h (zq11 (zq110 (by omega) hd) (by decide))
theorem order_any (T:Tw)(hT:Wf T)(hs:Small T)(hg:Tow.Good T)(w:World)(b o:Nat)(vx:Value)(x:List Nat)(n:Nat)(hP:PtrP Any w b o (ofTw T))(hx:SlI Any w vx (ints x))(hE:El T x)(hn:ordM T T.length 0 x 1=some n):
  Calls Tryz.prog 47 #[.pointer (some ⟨b,o,none⟩),vx] w fun e w'=>e= .returned (.int .i64 (n:Int))∧Below w.heap.size w w':=by
 have HP:=hid hP;have HX:=hid hx;have HE:=hid hE;have HN:=hid hn;have HSM:=hid hs;have HG:=hid (grp hT hg);have HPW:=hid (fun W va y K hK hp ha hy=>ImplE.power_any T hT hs 0 (zq4 _) hg W b o va y K hK hp ha hy);have hs6:=hs.1;have hxl:=El_length hE;have HZ:=hid (fun W v y (h:SlI Any W v (ints y)) (hl:y.length≤1000000)=>isZero_any W v y h hl);obtain⟨aX,cX,rfl,_⟩:=hx.open;rw[hxl]at HX ⊢;clear hP hx hE hn hT hs hg;go_enter Tryz.func47,Tryz.ntmps47;go_wp2_with fail;go_loopg [5,6,7] T.length (fun gk kv dv xv wr=>∃(y:List Nat) (k d:Nat) (a:Option Addr) (c:Nat),kv= .int .i64 (k:Int)∧dv= .int .i64 (d:Int)∧xv= .slice a T.length c∧d+gk=T.length∧Hid (k≤7^d)∧Hid (SlI Any wr (.slice a T.length c) (ints y))∧Hid (El T y)∧Hid (ordM T gk d y k=some n)∧Hid (Below w.heap.size w wr));case atStart=>exact⟨x,1,0,aX,cX,rfl,rfl,rfl,by omega,hid (by simp),HX,HE,HN,hid zqB⟩
 case round=>
  obtain⟨y,k,d,a,c,rfl,rfl,rfl,hd,hk,hY,hYE,hO,hB⟩:=hrel;have hyl:=El_length hYE.out;have HZC:=hid (HZ.out wr _ y hY.out (by omega));cases hz:zeroL y with
  |true=>
   rw[hz]at HZC;have HR:=hid (show k=n from by
    have h:=hO.out;cases gk with
    |zero=>rw[ordM,zq57 hz]at h;injection h
    |succ f=>rw[ordM,zq57 hz]at h;injection h)
   have HB:=hid hB.out;clear hz hO hY hYE hB hk hd hyl;go_wp2_with fail;refine HZC.out.mono ?_;rintro e w1 ⟨rfl,rfl⟩;go_wp2_with fail;go_ret;exact⟨by rw[HR.out];rfl,HB.out⟩
  |false=>
   rw[hz]at HZC;have hgk:gk≠0:=fun h=>by
    have h1:=hO.out;rw[h,ordM,hz]at h1;simp at h1
   obtain⟨f,rfl⟩:∃f,gk=f+1:=⟨gk-1,by omega⟩;have hdl:d<T.length:=by omega
   obtain⟨av,ha⟩:∃av,y[d]?=some av:=⟨_,zq0 (by omega)⟩;obtain⟨L,hL⟩:∃L,T[d]?=some L:=⟨_,zq0 hdl⟩;have hO2:=hO.out;rw[ordM,hz,ha,hL]at hO2;simp only[Bool.false_eq_true,if_false]at hO2;obtain⟨bY,oY,rfl,_,hbY,hcY⟩:=SlI.at hY.out ha;have hLo7:L.o≤7:=HSM.out.2 L (zq5 hL);have HPr:=hid (HP.out.keep (Keep.of_below hB.out));obtain⟨-, hPb,vO,vP,vC,p0,p1,p2,hv⟩:=HPr.out;obtain⟨aO,cO,aP,cP,aC,cC,rfl,rfl,rfl,-, -, -⟩:=hv.open;obtain⟨bO,oO,rfl,-, hbO,hcO⟩:=hv.ord hL;have hdi:(d:Int)<(T.length:Int):=by omega
   have hdi0:(0:Int)≤(d:Int):=by omega
   by_cases ha0:av=0
   ·subst ha0;rw[zq57 rfl]at hO2;have HO2:=hid hO2;have HK:=hid (show k≤7^(d+1) from zq11 hk.out (zq110 (by omega) (by omega)));have hne:(((0:Nat):Int) !=0)=false:=by simp
    clear ha hL hO hO2 hv p1 p2 hz hk hyl;go_wp2_with fail;refine HZC.out.mono ?_;rintro e w1 ⟨rfl,rfl⟩;go_wp2_with fail;go_roundg f;case measure=>omega
    case rel=>exact⟨y,k,d+1,_,c,rfl,by go_num,rfl,by omega,HK,hY,hYE,HO2,hB⟩
   ·rw[zq37 ha0]at hO2;have HO2:=hid hO2;have HK:=hid (show k*L.o≤7^(d+1) from pow7 hk.out hLo7);have hne:((av:Int) !=0)=true:=by simp;omega
    have hwm:IntKind.i64.wrap ((k:Int)*(L.o:Int))=(k:Int)*(L.o:Int):=by
     have h1:=pow7b HK.out (by omega);rw[←Int.natCast_mul];exact zq6 _ (by omega)
    have HYE2:=hid (HG.out.npow hYE.out L.o);have HPC:=hid (HPW.out wr (.slice (some ⟨bY,oY,none⟩) T.length c) y L.o (by omega) HPr.out hY.out hYE.out);clear ha hL hO hO2 hv p1 p2 hz hk hyl ha0;go_wp2_with fail;refine HZC.out.mono ?_;rintro e w1 ⟨rfl,rfl⟩;go_wp2_with fail;refine HPC.out.mono ?_;rintro e w2 ⟨g,c2,rfl,ho,hb⟩;have hl2:(ints (pad 0 (npow (mul (T.drop 0)) (Tow.one (T.drop 0)) y L.o))).length=T.length:=by rw[ints_length];exact El_length HYE2.out
    rw[hl2]at ho ⊢;have HS2:=hid (show SlI Any w2 (.slice (some ⟨g,0,none⟩) T.length c2) (ints (npow (mul T) (Tow.one T) y L.o)) from ho.sl.mono (fun _ _=>trivial));have HB2:=hid (hB.out.trans (hb.mono hB.out.size));obtain⟨-, hPb,vO,vP,vC,q0,q1,q2,hv⟩:=HPr.out.keep (Keep.of_below (S:=Any) hb);have hcO2:=((Keep.of_below (S:=Any) hb).cell (b:=bO) (o:=oO+d) trivial hbO).trans hcO;have p02:=((Keep.of_below (S:=Any) hb).cell (b:=b) (o:=o) trivial (by assumption)).trans p0;have hbO2:=zq7 hbO hb.size;clear ho hb HPC HZC hl2 q0 q1 q2 hv hcO p0;go_wp2_with fail;go_roundg f;case measure=>omega
    case rel=>exact⟨_,k*L.o,d+1,_,c2,by rw[Int.natCast_mul],by go_num,rfl,by omega,HK,HS2,HYE2,HO2,HB2⟩
theorem sl2_one' {w:World}{g:Nat}{vx:Value}{l:List Int}(h:w.cell? ⟨g,0,none⟩=some vx)(hg:g<w.heap.size)(hx:SlI Any w vx l):Sl2 Any w (.slice (some ⟨g,0,none⟩) 1 1) [l]:=by
 refine⟨some ⟨g,0,none⟩,1,rfl,zq1 _,by unfold maxLen;omega,by simp,fun i r hr=>?_⟩
 match i,hr with
 |0,hr=>simp at hr;subst hr;exact⟨g,0,rfl,trivial,hg,vx,h,hx⟩
theorem El_tail' {T:Tw}{x:List Nat}(h:El T x):TailV (ofTw T).os 0 (ints x):=by
 refine⟨by rw[ints_length,ofTw_os,El_length h],fun j y q hy hq=>?_⟩;rw[ints_get,zq46]at hy;obtain⟨a,ha,rfl⟩:=hy;obtain⟨L,hL,hlt⟩:=El_lt h ha;rw[ofTw_os_get T j L hL]at hq;cases hq;exact⟨by simp,by simp;omega,fun h=>absurd h (zq33 _)⟩
theorem elementOrder_any (T:Tw)(hT:Wf T)(hs:Small T)(hg:Tow.Good T)(hG:Grp (ofTw T))(w:World)(vO vP vC vx:Value)(x:List Nat)(n:Nat)(hP:ValP Any w vO vP vC (ofTw T))(hx:SlI Any w vx (ints x))(hE:El T x)(hn:ordM T T.length 0 x 1=some n):
  Calls Tryz.prog 17 #[.agg #[vO,vP,vC],vx] w fun e w'=>e= .returned (.tuple #[.int .i64 (n:Int),.int .i64 0])∧Below w.heap.size w w':=by
 obtain⟨aX,cX,rfl,_,_⟩:=slg_form hx;obtain⟨W0,hW0⟩:∃W0,W0=w.alloc (.cells #[vO,vP,vC] 28):=⟨_,rfl⟩;have hl0:w.heap.size<W0.heap.size:=by rw[hW0];simp
 have hb0:Below w.heap.size w W0:=by rw[hW0];exact zqB.alloc zqN _
 obtain⟨e0,e1,e2⟩:=row3' (show W0.heap[w.heap.size]?=some (.cells #[vO,vP,vC] 28 (0,0)) by rw[hW0];exact zq17 _ _);have HPT:=hid (show PtrP Any W0 w.heap.size 0 (ofTw T) from⟨trivial,hl0,_,_,_,e0,e1,e2,hP.keep (Keep.of_below hb0)⟩);have HX:=hid (hx.keep (Keep.of_below hb0));obtain⟨W1,hW1⟩:∃W1,W1=W0.alloc (.cells #[.slice aX (ints x).length cX] 24):=⟨_,rfl⟩;have hb1:Below W0.heap.size W0 W1:=by rw[hW1];exact zqB.alloc zqN _
 have HPT1:=hid (HPT.out.keep (Keep.of_below hb1));have HX1:=hid (HX.out.keep (Keep.of_below hb1));have HB1:=hid (hb0.trans (hb1.mono hb0.size));have HAE:=hid (areElements_any W1 w.heap.size 0 (ofTw T) (.slice (some ⟨W0.heap.size,0,none⟩) 1 1) [ints x] HPT1.out (sl2_one' (by rw[hW1];exact zq15 _ _ _ #[.slice aX (ints x).length cX] _ (0,0) (zq17 _ _)) (by rw[hW1];simp) HX1.out) hG (fun l hl=>by rw[zq54.1 hl];exact El_tail' hE));have HOO:=hid (fun W h1 h2=>order_any T hT hs hg W w.heap.size 0 (.slice aX (ints x).length cX) x n h1 h2 hE hn);clear e0 e1 e2 hP hx hb1 hb0 hT hs hg hG hE hn;go_enter Tryz.func17,Tryz.ntmps17;go_upto_region 1 with fail;rw[←hW0];clear hW0;go_wp2_with fail;rw[←hW1];clear hW1;refine HAE.out.mono ?_;rintro e w2 ⟨rfl,hb2⟩;have HB2:=hid (HB1.out.trans (hb2.mono HB1.out.size));have HOC:=hid (HOO.out w2 (HPT1.out.keep (Keep.of_below hb2)) (HX1.out.keep (Keep.of_below hb2)));clear hb2 HAE HOO;go_wp2_with fail;refine HOC.out.mono ?_;rintro e w3 ⟨rfl,hb3⟩;have HR:=hid (show Below w.heap.size w w3 from HB2.out.trans (hb3.mono HB2.out.size));clear hb3 HOC;go_wp2_with fail;exact zq12 (v:=.tuple #[.int .i64 (n:Int),.int .i64 0]) (by simp[results,Tryz.results17,go_sem]) rfl ⟨rfl,HR.out⟩
end Go.Proofs.YtlmlamcoeegkbaaGreat.CyF
namespace Go.Proofs.YtlmlamcoeegkbaaGreat.OuP
open Go.Proofs.YtlmlamcoeegkbaaGreat Tow Gen GenC GenM NumT GenD CcA CcB CcC
open Go.Proofs.YtlmlamcoeegkbaaGreat.SfB (cnj cnj_hom cnj_El cnj_one cnj_inj)
section
variable {T:Tw} (hT:Wf T) (hg:Tow.Good T)
def RO (T:Tw)(x y:List Nat):Prop:=∃c,Emb T T c∧phi T c x=y
include hT hg
theorem phi_El {c:List (List Nat)}(h:Emb T T c)(x:List Nat):El T (phi T c x):=(grp hT hg).ev h.el x
theorem phi_map {u cs:List (List Nat)}(hu:Emb T T u)(hc:Emb T T cs)(x:List Nat):phi T (cs.map (phi T u)) x=phi T u (phi T cs x):=by
 have G:=grp hT hg;exact(ev_map G (phi T u) (ev_one hT hg u _) (fun a b ha hb=>G.hom hT hu.el hu.rel ha hb) hc.el x).symm
theorem RO.refl {x:List Nat}(hx:El T x):RO T x x:=⟨gens T,emb_id hT hg,ev_gens hT hg hx⟩
theorem RO.trans {x y z:List Nat}(h:RO T x y)(h':RO T y z):RO T x z:=by
 obtain⟨c,hc,rfl⟩:=h;obtain⟨d,hd,rfl⟩:=h';exact⟨_,comp hT hg hT hg hd hc,phi_map hT hg hd hc x⟩
theorem emb_inv {c:List (List Nat)}(h:Emb T T c):∃d,Emb T T d∧∀x,El T x→phi T c (phi T d x)=x:=by
 obtain⟨d,hd,e⟩:=factor hT hg hT hg h (emb_id hT hg) (fun z hz=>emb_onto hT hg hT h zqN (gens_El hT z hz));refine⟨d,hd,fun x hx=>?_⟩;rw[←phi_map hT hg h hd,←e];exact ev_gens hT hg hx
theorem RO.symm {x y:List Nat}(hx:El T x)(h:RO T x y):RO T y x:=by
 obtain⟨c,hc,rfl⟩:=h;obtain⟨d,hd,e⟩:=emb_inv hT hg hc;exact⟨d,hd,hc.inj _ _ (phi_El hT hg hd _) hx (e _ (phi_El hT hg hc x))⟩
theorem emb_cnj {g:List Nat}(hG:El T g):Emb T T ((gens T).map fun z=>cnj T z g)∧∀x,El T x→phi T ((gens T).map fun z=>cnj T z g) x=cnj T x g:=by
 have G:=grp hT hg;have he:cnj T (Tow.one T) g=Tow.one T:=cnj_one hT hg hG;have hf:∀a b,El T a→El T b→cnj T (mul T a b) g=mul T (cnj T a g) (cnj T b g):=fun a b ha hb=>cnj_hom hT hg hG ha hb;have hi:∀a b,El T a→El T b→cnj T a g=cnj T b g→a=b:=fun a b ha hb h=>cnj_inj hT hg hG ha hb h;have key:∀x,El T x→phi T ((gens T).map fun z=>cnj T z g) x=cnj T x g:=fun x hx=>by
  have h:=ev_map G (fun z=>cnj T z g) he hf (gens_El hT) x;rw[ev_gens hT hg hx]at h;exact h.symm
 refine⟨⟨fun c hc=>?_,(rel_map G (fun z=>cnj T z g) he hf hi T (gens T) (gens_El hT)).2 (rel_gens hT hg),fun x y hx hy e=>?_⟩,key⟩
 ·obtain⟨z,hz,rfl⟩:=zq35.1 hc;exact cnj_El hT hg hG (gens_El hT z hz)
 ·exact hi x y hx hy (by rw[←key x hx,←key y hy];exact e)
theorem RO.conj {x y g:List Nat}(h:RO T x y)(hG:El T g):RO T x (cnj T y g):=by
 obtain⟨c,hc,rfl⟩:=h;obtain⟨h1,h2⟩:=emb_cnj hT hg hG;exact RO.trans hT hg ⟨c,hc,rfl⟩ ⟨_,h1,h2 _ (phi_El hT hg hc x)⟩
theorem phi_pow {c:List (List Nat)}(h:Emb T T c){x:List Nat}(hx:El T x)(j:Nat):phi T c (npow (mul T) (Tow.one T) x j)=npow (mul T) (Tow.one T) (phi T c x) j:=by
 have G:=grp hT hg;exact npow_map G (phi T c) (ev_one hT hg c _) (fun a b ha hb=>G.hom hT h.el h.rel ha hb) hx j
theorem RO.pow {x y:List Nat}(hx:El T x)(h:RO T x y)(j:Nat):npow (mul T) (Tow.one T) x j=Tow.one T↔npow (mul T) (Tow.one T) y j=Tow.one T:=by
 obtain⟨c,hc,rfl⟩:=h;have G:=grp hT hg;have h1:phi T c (Tow.one T)=Tow.one T:=ev_one hT hg c _;rw[←phi_pow hT hg hc hx];constructor
 ·intro e;rw[e,h1]
 ·intro e;exact hc.inj _ _ (G.npow hx j) G.me (e.trans h1.symm)
theorem zeroL_iff {x:List Nat}(hx:El T x):CyD.zeroL x=true↔x=Tow.one T:=by
 have F:=fil hT hg;constructor
 ·intro h;refine F.ze hx fun j hj=>?_;have hl:j<x.length:=by rw[El_length hx];exact hj
  have:=List.all_eq_true.1 h _ (zq76 hl);simp only[fF,zq9,zq0 hl,zq131];simpa using this
 ·rintro rfl;simp[CyD.zeroL,Tow.one]
theorem ord_spec (hp:Prm T):∀(f d:Nat) (x:List Nat) (k:Nat),d+f=T.length→A (El T) fF d x→∃m,CyD.ordM T f d x k=some (k*m)∧0<m∧∀j,npow (mul T) (Tow.one T) x j=Tow.one T↔m∣j:=by
 have F:=fil hT hg;have h1:∀(f d:Nat) (x:List Nat) (k:Nat),x=Tow.one T→El T x→∃m,CyD.ordM T f d x k=some (k*m)∧0<m∧∀j,npow (mul T) (Tow.one T) x j=Tow.one T↔m∣j:=fun f d x k e hx=>by
  have hz:CyD.zeroL x=true:=(zeroL_iff hT hg hx).2 e;refine⟨1,?_,by omega,fun j=>⟨fun _=>Nat.one_dvd j,fun _=>by rw[e];exact npow_e F.G j⟩⟩;cases f with
  |zero=>rw[CyD.ordM,zq57 hz,zq100]
  |succ f=>rw[CyD.ordM,zq57 hz,zq100]
 intro f
 induction f with
 |zero=>
  intro d x k hd hx;exact h1 0 d x k (F.ze hx.1 fun j hj=>hx.2 j (by omega)) hx.1
 |succ f ih=>
  intro d x k hd hx;by_cases hz:CyD.zeroL x=true
  ·exact h1 (f+1) d x k ((zeroL_iff hT hg hx.1).1 hz) hx.1
  ·have hdn:d<T.length:=by omega
   have hxl:d<x.length:=by rw[El_length hx.1];exact hdn
   have hxd:x[d]?=some (fF d x):=by simp[fF,zq9,zq0 hxl]
   have hLd:T[d]?=some T[d]:=zq0 hdn;have ho:oF T d=T[d].o:=oF_at hLd;rw[CyD.ordM,zq37 hz,hxd,hLd];simp only;by_cases h0:fF d x=0
   ·rw[zq57 h0];exact ih (d+1) x k (by omega) (A_succ.2 ⟨hx,h0⟩)
   ·rw[zq37 h0];have hpow:∀j,fF d (npow (mul T) (Tow.one T) x j)=j*fF d x%oF T d:=fun j=>F.f_npow hdn hx j;have hA:=F.A_sub (zq44 hdn);have hx':A (El T) fF (d+1) (npow (mul T) (Tow.one T) x T[d].o):=A_succ.2 ⟨hA.npow hx _,by rw[hpow,ho];exact Nat.mul_mod_right _ _⟩;obtain⟨m,h2,h3,h4⟩:=ih (d+1) _ (k*T[d].o) (by omega) hx';have hop:0<T[d].o:=by have:=hp T[d] (zq76 hdn);omega
    refine⟨T[d].o*m,by rw[h2,Nat.mul_assoc],Nat.mul_pos hop h3,fun j=>⟨fun hj=>?_,?_⟩⟩
    ·have h5:=hpow j;rw[hj,F.fe d hdn,ho]at h5;have hlt:fF d x<T[d].o:=by rw[←ho];exact F.lt hdn hx.1
     have hdv:T[d].o∣j:=by
      obtain⟨a,b,hab⟩:=inv_small (hp T[d] (zq76 hdn)) (by omega) hlt;have h6:T[d].o∣j*fF d x:=Nat.dvd_of_mod_eq_zero h5.symm;have h7:T[d].o∣j*(fF d x*a):=by rw[←Nat.mul_assoc];exact Nat.dvd_trans h6 (Nat.dvd_mul_right _ _)
      rw[hab,Nat.mul_add,zq100]at h7;exact(Nat.dvd_add_left (Nat.dvd_trans (Nat.dvd_mul_right _ b) (Nat.dvd_mul_left _ j))).1 h7
     obtain⟨i,rfl⟩:=hdv;rw[←npow_mul F.G hx.1]at hj;obtain⟨q,rfl⟩:=(h4 i).1 hj;exact⟨q,by rw[Nat.mul_assoc]⟩
    ·rintro⟨q,rfl⟩;rw[Nat.mul_assoc,←npow_mul F.G hx.1];exact(h4 _).2 (Nat.dvd_mul_right _ _)
theorem ord_any (hp:Prm T){x:List Nat}(hx:El T x):∃n,CyD.ordM T T.length 0 x 1=some n∧0<n∧∀j,npow (mul T) (Tow.one T) x j=Tow.one T↔n∣j:=by
 obtain⟨m,h1,h2,h3⟩:=ord_spec hT hg hp T.length 0 x 1 (by omega) ⟨hx,fun j hj=>absurd hj (zq33 _)⟩;exact⟨m,by rw[h1,Nat.one_mul],h2,h3⟩
theorem ord_same {x y:List Nat}{n k:Nat}(hx:El T x)(h:RO T x y)(hn:∀j,npow (mul T) (Tow.one T) x j=Tow.one T↔n∣j)(hk:∀j,npow (mul T) (Tow.one T) y j=Tow.one T↔k∣j):k=n:=
 Nat.dvd_antisymm ((hk n).1 ((RO.pow hT hg hx h n).1 ((hn n).2 (Nat.dvd_refl n)))) ((hn k).1 ((RO.pow hT hg hx h k).2 ((hk k).2 (Nat.dvd_refl k))))
theorem orbit_dvd (hp:Prm T){x:List Nat}(hx:El T x){O:List Nat}(hO:O.Nodup)(hm:∀t,t∈O↔t<sz T∧RO T x (at_ T t)):O.length∣(growV T T T.length []).length:=by
 classical
 have hiff:∀c,c∈growV T T T.length []↔Emb T T c:=fun c=>growV_iff hT hg hT hg hp c
 let fib:Nat→List (List (List Nat)):=fun t=>(growV T T T.length []).filter fun c=>decide (phi T c x=at_ T t)
 have hfm:∀t c,c∈fib t↔Emb T T c∧phi T c x=at_ T t:=fun t c=>by
  show c∈List.filter _ _↔_;rw[zq77,hiff,zq78]
 have hnd:∀t,(fib t).Nodup:=fun t=>(growV_nodup _ _).filter _
 let S:=(growV T T T.length []).filter fun c=>decide (phi T c x=x)
 have hS:∀c,c∈S↔Emb T T c∧phi T c x=x:=fun c=>by
  show c∈List.filter _ _↔_;rw[zq77,hiff,zq78]
 have hlen:∀t∈O,(fib t).length=S.length:=fun t ht=>by
  obtain⟨h,hh,e⟩:=((hm t).1 ht).2;have hp2:(fib t).Perm (S.map fun c=>c.map (phi T h)):=by
   refine(List.perm_ext_iff_of_nodup (hnd t) (nodup_map (P:=fun c=>Emb T T c) (fun a b ha hb hab=>?_) (fun a ha=>((hS a).1 ha).1) ((growV_nodup _ _).filter _))).2 fun d=>?_
   ·exact map_inj (P:=El T) (fun a b ha hb h'=>hh.inj a b ha hb h') a b ha.el hb.el hab
   ·rw[hfm,zq35];constructor
    ·rintro⟨hd,hdx⟩;obtain⟨c,hc,rfl⟩:=factor hT hg hT hg hh hd (fun z hz=>emb_onto hT hg hT hh zqN (hd.el z hz));refine⟨c,(hS c).2 ⟨hc,?_⟩,rfl⟩;rw[phi_map hT hg hh hc]at hdx;exact hh.inj _ _ (phi_El hT hg hc x) hx (hdx.trans e.symm)
    ·rintro⟨c,hc,rfl⟩;obtain⟨hc,hcx⟩:=(hS c).1 hc;exact⟨comp hT hg hT hg hh hc,by rw[phi_map hT hg hh hc,hcx,e]⟩
  rw[hp2.length_eq,zq18]
 have hperm:(growV T T T.length []).Perm (O.flatMap fib):=by
  refine(List.perm_ext_iff_of_nodup (growV_nodup _ _) (List.pairwise_flatMap.2 ⟨fun t _=>hnd t,?_⟩)).2 fun c=>?_
  ·refine zq139 ?_ hO;intro a b ha hb hne u hu v hv e;subst e;exact hne (at_inj ((hm a).1 ha).1 ((hm b).1 hb).1 (((hfm a u).1 hu).2.symm.trans ((hfm b u).1 hv).2))
  ·rw[hiff,List.mem_flatMap];constructor
   ·intro hc;have hE:=phi_El hT hg hc x;refine⟨num T (phi T c x),(hm _).2 ⟨num_lt hE hT,c,hc,(at_num hT hE).symm⟩,(hfm _ _).2 ⟨hc,(at_num hT hE).symm⟩⟩
   ·rintro⟨t,_,hc⟩;exact((hfm t c).1 hc).1
 rw[hperm.length_eq,flat_len O hlen];exact Nat.dvd_mul_right _ _
end
end Go.Proofs.YtlmlamcoeegkbaaGreat.OuP
