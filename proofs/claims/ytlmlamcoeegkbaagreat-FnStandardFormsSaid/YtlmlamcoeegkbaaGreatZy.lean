import Derived.Test.YtlmlamcoeegkbaaGreatZ0
import Derived.Test.YtlmlamcoeegkbaaGreatZv
import Derived.Test.YtlmlamcoeegkbaaGreatZt
import Derived.Test.YtlmlamcoeegkbaaGreatZx
import Derived.Deep.Upon
/-
  Lemmas for the law FnStandardForms, in short spelling.
-/
open Go.Lib (hid)
set_option linter.unusedVariables false
set_option linter.unusedSimpArgs false
set_option maxRecDepth 100000
set_option maxHeartbeats 40000000
namespace Go.Proofs.YtlmlamcoeegkbaaGreat.aK
open Go.RowKit Go.Proofs.YtlmlamcoeegkbaaGreat AJ Cg CV MU IM JD Ox RP ay mP MS ABW Grow Srt
theorem Bl.strong {α:Type}{E E':World→Value→α→Prop}{S:Nat→Prop}{w:World}{v:Value}{l:List α}(h:Bl E S w v l)(hE:∀u x,E w u x→E' w u x):Bl E' (fun k=>k<w.heap.size) w v l:=by
 obtain⟨ao,c,h1,h2,h3,h0,h4⟩:=h;refine⟨ao,c,h1,h2,h3,h0,fun i x hx=>?_⟩;obtain⟨b,o,e1,e2,e3,u,e4,e5⟩:=h4 i x hx;exact⟨b,o,e1,e3,e3,u,e4,hE _ _ e5⟩
theorem AL.strong {S:Nat→Prop}{w:World}{v:Value}{l:List Int}(h:AL S w v l):AL (fun k=>k<w.heap.size) w v l:=Bl.strong h (fun _ _ e=>e)
theorem AV.strong {S:Nat→Prop}{w:World}{v:Value}{l:List (List Int)}(h:AV S w v l):AV (fun k=>k<w.heap.size) w v l:=Bl.strong h (fun _ _ e=>AL.strong e)
theorem Fu.strong {S:Nat→Prop}{w:World}{v:Value}{l:List (List (List Int))}(h:Fu S w v l):Fu (fun k=>k<w.heap.size) w v l:=Bl.strong h (fun _ _ e=>AV.strong e)
theorem Cn.strong {S:Nat→Prop}{w:World}{b o:Nat}{P:Bq}(h:Cn S w b o P):Cn (fun k=>k<w.heap.size) w b o P:=by
 obtain⟨h1,h2,vO,vP,vC,c1,c2,c3,hv⟩:=h;exact⟨h2,h2,vO,vP,vC,c1,c2,c3,⟨AL.strong hv.os,AV.strong hv.ps,Fu.strong hv.cs⟩⟩
def Zh (P Q:Bq)(w:World)(e:Ending)(w':World):Prop:=
 ∃(v:Value) (k:Int),e= .returned (.tuple #[v,.int .i64 k])∧Below w.heap.size w w'∧
  ((v= .slice none 0 0∧k=1∧¬(CQ P∧CQ Q))∨
   ∃T U,P=AX T∧Q=AX U∧CQ P∧CQ Q∧
   ((v= .slice none 0 0∧k=3∧(27<sz T∨27<sz U))∨(v= .slice none 0 0∧k=0∧sz T≤27∧sz U≤27∧sz T≠sz U)∨
    (k=0∧sz T=sz U∧sz U≤27∧∃F,F.Perm (grow U T T.length [])∧Asc F∧Own2 91 3 w.heap.size w' v F)))
theorem AHJ (Q:Tw):vX Q [] [] 1:=⟨by omega,fun c=>by
 simp only[G7];cases c with
 |zero=>simp
 |succ c=>simp[Nat.testBit_succ]⟩
theorem yU {Q T:Tw}:∀(k:Nat) (im:List Nat),∀r∈grow Q T k im,r.length=k+im.length
 |0,im,r,h=>by simp only[grow,Gi]at h;rw[h];simp
 |k+1,im,r,h=>by
  rw[grow,List.mem_flatMap]at h;obtain⟨x,_,h⟩:=h;split at h
  ·rw[yU k _ r h];simp;omega
  ·simp at h
theorem mkN (n:Nat)(hn:n≤6)(w:World):(Instr.makeSlice 91 (.int .i64 (n:Int)) (.int .i64 (n:Int))).run Tryz.prog w= .ok (.slice (some ⟨w.heap.size,0,none⟩) n n) (w.alloc (.cells (madeCells #[.int .i64 0] n) 3)):=
 run_make_row' (P:=Tryz.prog) 91 3 (.int .i64 0) 8 Tryz.underlying91 aZ rfl .i64 .i64 n (by omega) (by omega) w
structure VY (w W:World)(bs bp op bg gi n:Nat)(U:Tw):Prop where
 R4:Below w.heap.size w W
 a1:w.heap.size≤bs
 a2:w.heap.size≤bg
 a3:w.heap.size≤gi
 b1:bs<W.heap.size
 b2:bg<W.heap.size
 b3:gi<W.heap.size
 c1:bs≠gi
 c2:bg≠bs
 c3:bg≠gi
 row:W.heap[bs]?=some (.cells #[.pointer (some ⟨bp,op,none⟩),.pointer (some ⟨bg,0,none⟩),.slice (some ⟨gi,0,none⟩) n n,.bool false,.slice none 0 0] 105)
 img:W.heap[gi]?=some (.cells (madeCells #[.int .i64 0] n) 3)
 tab:∃v,W.cell? ⟨bg,0,none⟩=some v∧AV (fun k=>k≠bs∧k≠gi∧k<W.heap.size) W v ((Hy U (sz U)).map ints)
theorem Bl.Vy {α:Type}{E E':World→Value→α→Prop}{S:Nat→Prop}{w:World}{v:Value}{l:List α}(h:Bl E S w v l)(hE:∀u x,E w u x→E' w u x):Bl E' (fun k=>S k∧k<w.heap.size) w v l:=by
 obtain⟨ao,c,h1,h2,h3,h0,h4⟩:=h;refine⟨ao,c,h1,h2,h3,h0,fun i x hx=>?_⟩;obtain⟨b,o,e1,e2,e3,u,e4,e5⟩:=h4 i x hx;exact⟨b,o,e1,⟨e2,e3⟩,e3,u,e4,hE _ _ e5⟩
theorem AV.Vy {S:Nat→Prop}{w:World}{v:Value}{l:List (List Int)}(h:AV S w v l):AV (fun k=>S k∧k<w.heap.size) w v l:=Bl.Vy h (fun _ _ e=>Bl.Vy e (fun _ _ e=>e))
theorem lG {w7 W:World}{B bs gi:Nat}{v:Value}{U:Tw}(h:Own2 91 3 B w7 v (Hy U (sz U)))(hk:AA (fun _=>True) w7 W)(hn:∀k,B≤k→k<w7.heap.size→k≠bs∧k≠gi):
  AV (fun k=>k≠bs∧k≠gi∧k<W.heap.size) W v ((Hy U (sz U)).map ints):=
 AV.mono ((AV.Vy h.sl).keep (hk.mono (fun _ _=>trivial))) (fun k hk'=>⟨(hn k hk'.1 hk'.2).1,(hn k hk'.1 hk'.2).2,Ad hk'.2 hk.size⟩)
theorem Oj (w:World)(o:Obj)(k:Nat)(h:k=w.heap.size):(w.alloc o).heap[k]?=some o:=by subst h;exact Av _ _
theorem AIL {w w6 w7:World}{bp op n B:Nat}{v:Value}{U:Tw}(hb:Below w.heap.size w w7)(h:Own2 91 3 B w7 v (Hy U (sz U))):
  VY w (((w7.alloc (.cells #[v] 103)).alloc (.cells (madeCells #[.int .i64 0] n) 3)).alloc (.cells #[.pointer (some ⟨bp,op,none⟩),.pointer (some ⟨w7.heap.size,0,none⟩),.slice (some ⟨w7.heap.size+1,0,none⟩) n n,.bool false,.slice none 0 0] 105)) (w7.heap.size+1+1) bp op w7.heap.size (w7.heap.size+1) n U:=by
 have hs:=hb.size;refine⟨((hb.alloc hs _).alloc (by simp;omega) _).alloc (by simp;omega) _,by omega,by omega,by omega,by simp,by simp;omega,by simp,by omega,by omega,by omega,Oj _ _ _ (by simp),(LK _ _ (by simp)).trans (Oj _ _ _ (by simp)),v,?_,lG h (((AB.alloc _).alloc _).alloc _) (fun k _ hk=>by omega)⟩;exact(Aq _ _ _ #[v] 103 (0,0) ((LK _ _ (by simp;omega)).trans ((LK _ _ (by simp)).trans (Oj _ _ _ (by simp))))).trans rfl
theorem AIM {w w6 w7:World}{bp op n B:Nat}{v:Value}{U:Tw}(hb:Below w.heap.size w w7)(h:Own2 91 3 B w7 v (Hy U (sz U))):
  VY w (((w7.alloc (.cells (madeCells #[.int .i64 0] n) 3)).alloc (.cells #[v] 103)).alloc (.cells #[.pointer (some ⟨bp,op,none⟩),.pointer (some ⟨w7.heap.size+1,0,none⟩),.slice (some ⟨w7.heap.size,0,none⟩) n n,.bool false,.slice none 0 0] 105)) (w7.heap.size+1+1) bp op (w7.heap.size+1) w7.heap.size n U:=by
 have hs:=hb.size;refine⟨((hb.alloc hs _).alloc (by simp;omega) _).alloc (by simp;omega) _,by omega,by omega,by omega,by simp,by simp,by simp;omega,by omega,by omega,by omega,Oj _ _ _ (by simp),(LK _ _ (by simp;omega)).trans ((LK _ _ (by simp)).trans (Oj _ _ _ (by simp))),v,?_,lG h (((AB.alloc _).alloc _).alloc _) (fun k _ hk=>by omega)⟩;exact(Aq _ _ _ #[v] 103 (0,0) ((LK _ _ (by simp)).trans (Oj _ _ _ (by simp)))).trans rfl
theorem AIN {w w6 w7:World}{bp op n:Nat}{v:Value}{U:Tw}(hb6:Below w.heap.size w w6)(Bd:Below (w6.heap.size+1) (w6.alloc (.cells (madeCells #[.int .i64 0] n) 3)).drew w7)(h:Own2 91 3 (w6.heap.size+1) w7 v (Hy U (sz U))):
  VY w ((w7.alloc (.cells #[v] 103)).alloc (.cells #[.pointer (some ⟨bp,op,none⟩),.pointer (some ⟨w7.heap.size,0,none⟩),.slice (some ⟨w6.heap.size,0,none⟩) n n,.bool false,.slice none 0 0] 105)) (w7.heap.size+1) bp op w7.heap.size w6.heap.size n U:=by
 have hs6:=hb6.size;have hs7:=Bd.size;simp at hs7;have hb:Below w.heap.size w w7:=((hb6.alloc hs6 _).drew).trans (Bd.mono (by omega));have hs:=hb.size;have hg:w7.heap[w6.heap.size]?=some (.cells (madeCells #[.int .i64 0] n) 3):=by
  rw[Bd.block _ (by omega)];exact Oj w6 _ _ rfl
 refine⟨(hb.alloc hs _).alloc (by simp;omega) _,by omega,by omega,by omega,by simp,by simp;omega,by simp;omega,by omega,by omega,by omega,Oj _ _ _ (by simp),?_,v,?_,lG h ((AB.alloc _).alloc _) (fun k hk hk'=>by omega)⟩
 ·have hk:AA (fun _=>True) w7 ((w7.alloc (.cells #[v] 103)).alloc (.cells #[.pointer (some ⟨bp,op,none⟩),.pointer (some ⟨w7.heap.size,0,none⟩),.slice (some ⟨w6.heap.size,0,none⟩) n n,.bool false,.slice none 0 0] 105)):=(AB.alloc _).alloc _;rw[hk.block _ trivial (by omega)];exact hg
 ·exact(Aq _ _ _ #[v] 103 (0,0) ((LK _ _ (by simp)).trans (Oj _ _ _ (by simp)))).trans rfl
theorem VY.iso {w W:World}{bs bp op bg gi:Nat}{T U:Tw}(h:VY w W bs bp op bg gi T.length U)(hP:Cn (fun k=>k<w.heap.size) w bp op (AX T))(h6:T.length≤6):
  II W bs bp op bg gi T.length W.heap.size T U false (List.replicate T.length 0) [] (.slice none 0 0):=by
 have hs:=h.R4.size;have h1:=h.a1;have h3:=h.a3;obtain⟨v,hv,ht⟩:=h.tab;refine⟨h.b1,h.b3,h.c1,Ap _,h.row,?_,⟨⟨h.b2,h.c2,h.c3⟩,h.b2,v,hv,ht.mono (fun k hk=>⟨hk.2.2,hk.1,hk.2.1⟩)⟩,by simp,?_,Own2.nil _ _ _ _⟩
 ·exact(hP.keep ⟨hs,fun k hk _=>h.R4.block k hk⟩).mono (fun k hk=>⟨by omega,by omega,by omega⟩)
 ·refine⟨by simp[vals,ints],.inr ⟨gi,T.length,_,rfl,AU _,h.img,Ap _,by unfold maxLen;omega,by simp[madeCells],?_⟩⟩;rw[Ni];simp[vals,ints]
theorem ADn (w:World)(bp op bq oq:Nat)(P Q:Bq)(hP:Cn Any w bp op P)(hQ:Cn Any w bq oq Q):
  Calls Tryz.prog 32 #[.pointer (some ⟨bp,op,none⟩),.pointer (some ⟨bq,oq,none⟩)] w (Zh P Q w):=by
 have HP:=hid hP;have HQ:=hid hQ;obtain⟨_,hpl,vO,vP,vC,p0,p1,p2,Y6⟩:=hP;obtain⟨_,Ki,uO,uP,uC,q0,q1,q2,hVQ⟩:=hQ;have Xi:=hid Y6;have HVQ:=hid hVQ;have HG:=hid (fun W a b c P h=>mE.Pn W a b c P h);have wN:Hid (¬(CQ P∧CQ Q)→∀w',Below w.heap.size w w'→Zh P Q w (.returned (.tuple #[.slice none 0 0,.int .i64 1])) w'):=hid fun h w' hb=>⟨_,_,rfl,hb,.inl ⟨rfl,rfl,h⟩⟩;clear Y6 hVQ;go_enter Tryz.func32,Tryz.ntmps32;go_wp2_with fail;refine(HG.out _ _ _ _ _ Xi.out).mono ?_;rintro e w1 ⟨r,rfl,hr,hb1⟩;have HB1:=hid hb1;by_cases Ke:CQ P
 ·obtain rfl:r=true:=hr.2 Ke;have JL:=hid Ke;have k1:=Aj (AA.of_below hb1);have r0:=(k1.1 bq oq Ki).trans q0;have r1:=(k1.1 bq (oq+1) Ki).trans q1;have r2:=(k1.1 bq (oq+2) Ki).trans q2;have ADW:=hid (HVQ.out.keep (AA.of_below hb1));clear hr hb1 Ke k1;go_wp2_with fail;refine(HG.out _ _ _ _ _ ADW.out).mono ?_;rintro e w2 ⟨r,rfl,hr,hb2⟩;have HB2:=hid (HB1.out.trans (hb2.mono HB1.out.size));by_cases KC:CQ Q
  ·obtain rfl:r=true:=hr.2 KC;have Li:=hid KC;clear hr hb2 r0 r1 r2 p0 p1 p2 q0 q1 q2 ADW;obtain⟨U,hU,QU,rfl,ABX,OE⟩:=KC;obtain⟨T,hT,hs,rfl,ADX,hgd⟩:=JL.out;have hzT:=j5 ADX;have hzU:=j5 ABX;have Cy:=hid (fun W (h:Below w.heap.size w W)=>HP.out.keep (S:=Any) (AA.of_below h));have Jj:=hid (fun W (h:Below w.heap.size w W)=>HQ.out.keep (S:=Any) (AA.of_below h));have OJ:=hid (fun W (h:Below w.heap.size w W)=>I5 T hT hs.1 hzT W bp op (Cy.out W h));have Mt:=hid (fun W (h:Below w.heap.size w W)=>I5 U hU QU.1 hzU W bq oq (Jj.out W h));have Qv:=hid (fun W (h:Below w.heap.size w W)=>yM U hU QU OE hzU W bq oq (Jj.out W h));have R9:=hs.1;have HT:=hid hT;have HS:=hid hs;have HU:=hid hU;have PR:=hid QU;clear hT hs hU QU ADX ABX OE hgd;have Rt:Hid (∀v k w',Below w.heap.size w w'→((v= .slice none 0 0∧k=3∧(27<sz T∨27<sz U))∨(v= .slice none 0 0∧k=0∧sz T≤27∧sz U≤27∧sz T≠sz U)∨
     (k=0∧sz T=sz U∧sz U≤27∧∃F,F.Perm (grow U T T.length [])∧Asc F∧Own2 91 3 w.heap.size w' v F))→Zh (AX T) (AX U) w (.returned (.tuple #[v,.int .i64 k])) w'):=
    hid fun v k w' hb h=>⟨v,k,rfl,hb,.inr ⟨T,U,rfl,rfl,JL.out,Li.out,h⟩⟩
   go_wp2_with fail;refine(OJ.out _ HB2.out).mono ?_;rintro e w3 ⟨rfl,hb3⟩;have HB3:=hid (HB2.out.trans (hb3.mono HB2.out.size));clear hb3;by_cases h27:27<sz T
   ·have hd:decide ((sz T:Int)>27)=true:=by simp;omega
    have HR:=hid (Rt.out (.slice none 0 0) 3 w3 HB3.out (.inl ⟨rfl,rfl,.inl h27⟩));clear Cy Jj OJ Mt Qv HG h27;go_wp2_with fail;exact Am (v:=.tuple #[.slice none 0 0,.int .i64 3]) (by simp[results,Tryz.results32,go_sem]) rfl HR.out
   ·have hd:decide ((sz T:Int)>27)=false:=by simp;omega
    go_wp2_with fail;refine(Mt.out _ HB3.out).mono ?_;rintro e w4 ⟨rfl,hb4⟩;have CB:=hid (HB3.out.trans (hb4.mono HB3.out.size));clear hb4;by_cases qE:27<sz U
    ·have hd2:decide ((sz U:Int)>27)=true:=by simp;omega
     have HR:=hid (Rt.out (.slice none 0 0) 3 w4 CB.out (.inl ⟨rfl,rfl,.inr qE⟩));clear Cy Jj OJ Mt Qv HG h27 qE;go_wp2_with fail;exact Am (v:=.tuple #[.slice none 0 0,.int .i64 3]) (by simp[results,Tryz.results32,go_sem]) rfl HR.out
    ·have hd2:decide ((sz U:Int)>27)=false:=by simp;omega
     go_wp2_with fail;refine(OJ.out _ CB.out).mono ?_;rintro e w5 ⟨rfl,hb5⟩;have AZ:=hid (CB.out.trans (hb5.mono CB.out.size));clear hb5;go_wp2_with fail;refine(Mt.out _ AZ.out).mono ?_;rintro e w6 ⟨rfl,hb6⟩;have Ao:=hid (AZ.out.trans (hb6.mono AZ.out.size));clear hb6;by_cases hne:sz T=sz U
     ·have hd3:((sz T:Int) !=(sz U:Int))=false:=by simp[hne]
      have AKd:=hid (Cn.strong (Cy.out w AR));obtain⟨_,pK,vO,vP,vC,p0,p1,p2,Y6⟩:=Cy.out _ Ao.out;obtain⟨aO,cO,aP,cP,aC,cC,rfl,rfl,rfl,Er,hP1,FP⟩:=Y6.open;clear Y6 p1 p2 h27 hd hd2;have hmk:∀W:World,(Instr.makeSlice 91 (.int .i64 (T.length:Int)) (.int .i64 (T.length:Int))).run Tryz.prog W= .ok (.slice (some ⟨W.heap.size,0,none⟩) T.length T.length) (W.alloc (.cells (madeCells #[.int .i64 0] T.length) 3)):=fun W=>mkN T.length (by omega) W;go_upto_region 7 with fail;clear HG wN HB2 HB3 CB AZ;go_cut [6] (fun sv W=>∃bs bg gi,sv= .pointer (some ⟨bs,0,none⟩)∧VY w W bs bp op bg gi T.length U);case rest=>
       obtain⟨bs,bg,gi,rfl,hI⟩:=hcut;have HI:=hid hI;obtain⟨_,AMY,vO',Y4,Y5,p0',_,_,ADY⟩:=Cy.out _ hI.R4;obtain⟨aO',cO',aP',cP',aC',cC',rfl,rfl,rfl,_,_,_⟩:=ADY.open;have AKe:=hid (hI.iso (AKd.out) R9);have SE:=hid (fun AKf=>AEe w.heap.size T U HT.out HS.out HU.out (by omega) bs bp op bg gi T.length wc.heap.size false ⟨hI.a1,hI.a3⟩ T.length AQ wc (List.replicate T.length 0) [] (.slice none 0 0) 1 AKf
        (fun y hy=>by rw[(IQ.1 hy).2];exact F8 HU.out) (by rw[MP];simpa using AHJ U) (by have h6:27^T.length≤27^6:=Tv (by omega) R9;simp;omega) (fun h=>by simp at h))
       have Cr:=hid hI.R4;clear ADY hI p0;go_wp2_with fail;refine(SE.out AKe.out).mono ?_;rintro e w8 ⟨rfl,E5,JV,KZ,_,_,ADZ⟩;have AKg:bs<w8.heap.size:=Ad HI.out.b1 KZ.hB;have wO:Own2 91 3 wc.heap.size w8 JV (grow U T T.length []):=by
        have h:=KZ.Yv;rwa[AEa,List.nil_append,show(List.replicate T.length 0).drop T.length=[] by simp]at h
       have q4:=KZ.cells.2.2.2.2;have Wz:some bs≠JV.ownBlock:=fun e=>by
        obtain⟨us,hu,_⟩:=wO;have:=(BH hu bs e.symm).1;have:=HI.out.b1;omega
       have HF8:=hid wO;have MB:=hid (Cr.out.trans ADZ.1);have Kj:=KZ.hB;clear KZ ADZ wO p0';go_wp2_with fail;refine(AF9 wc.heap.size T.length (by omega) w8 JV _ HF8.out (by have h6:27^T.length≤27^6:=Tv (by omega) R9;have:=jR U T (by omega) T.length [];omega) (fun r hr=>by have:=yU _ _ r hr;simpa using this)).mono ?_;rintro e w9 ⟨rfl,F',hperm,hasc,hown,hkeep,hbel⟩;have q49:=(hkeep.cell (b:=bs) (o:=4) Wz AKg).trans q4;have HR:=hid (Rt.out JV 0 w9 (MB.out.trans (hbel.mono (by have:=Cr.out.size;omega))) (.inr (.inr ⟨rfl,hne,by omega,F',hperm,hasc,hown.mono Cr.out.size⟩)));clear hperm hasc hown hkeep hbel q4 Wz;go_wp2_with fail;exact Am (v:=.tuple #[JV,.int .i64 0]) (by simp[results,Tryz.results32,go_sem]) rfl HR.out
      go_region_law
       (first|(go_simp;go_at_call 65;refine(Qv.out _ (by first|exact Ao.out|exact(Ao.out).drew)).mono ?_;rintro e w7 ⟨v7,rfl,Jm,Bd⟩;obtain⟨a7,c7,rfl,_,_⟩:=Jm.form;have k7:=Aj (AA.of_below Bd);have p7:=(k7.1 bp op pK).trans p0;have ACg:bp<w7.heap.size:=Ad pK Bd.size)|(go_simp;go_at_call 65;refine(Qv.out _ (by first|exact((Ao.out).alloc (by have:=Ao.out.size;omega) _).drew|exact(Ao.out).alloc (by have:=Ao.out.size;omega) _)).mono ?_;rintro e w7 ⟨v7,rfl,Jm,Bd⟩;obtain⟨a7,c7,rfl,_,_⟩:=Jm.form))
      all_goals (go_wp2_with fail;go_meet)
      all_goals first
       |exact⟨_,_,_,rfl,AIL (w6:=w6) ((Ao.out.drew).trans (Bd.mono Ao.out.size)) Jm⟩
       |exact⟨_,_,_,rfl,AIM (w6:=w6) ((Ao.out.drew).trans (Bd.mono Ao.out.size)) Jm⟩
       |exact⟨_,_,_,rfl,AIN Ao.out (by simpa using Bd) (by simpa using Jm)⟩
     ·have hd3:((sz T:Int) !=(sz U:Int))=true:=by simp;omega
      have HR:=hid (Rt.out (.slice none 0 0) 0 w6 Ao.out (.inr (.inl ⟨rfl,rfl,by omega,by omega,hne⟩)));clear Cy Jj OJ Mt Qv HG h27 qE hne;go_wp2_with fail;exact Am (v:=.tuple #[.slice none 0 0,.int .i64 0]) (by simp[results,Tryz.results32,go_sem]) rfl HR.out
  ·obtain rfl:r=false:=by
    cases r with
    |false=>rfl
    |true=>exact absurd (hr.1 rfl) KC
   have HR:=hid (wN.out (fun h=>KC h.2) w2 HB2.out);clear hr hb2 KC r0 r1 r2;go_wp2_with fail;exact Am (v:=.tuple #[.slice none 0 0,.int .i64 1]) (by simp[results,Tryz.results32,go_sem]) rfl HR.out
 ·obtain rfl:r=false:=by
   cases r with
   |false=>rfl
   |true=>exact absurd (hr.1 rfl) Ke
  have HR:=hid (wN.out (fun h=>Ke h.1) w1 HB1.out);clear hr hb1 Ke;go_wp2_with fail;exact Am (v:=.tuple #[.slice none 0 0,.int .i64 1]) (by simp[results,Tryz.results32,go_sem]) rfl HR.out
end Go.Proofs.YtlmlamcoeegkbaaGreat.aK
namespace Go.Proofs.YtlmlamcoeegkbaaGreat.SfN
open Go Go.RowKit Go.Proofs.YtlmlamcoeegkbaaGreat AJ CV OL jK
open Go.Proofs.YtlmlamcoeegkbaaGreat.DL (Any)
theorem AHn:(Tryz.prog.info? 111).map (fun i=>(i.zero,i.size,i.bytes))=some (some (.slice none 0 0),1,24):=by kernel_rfl
theorem zf:∀x y:List Nat,Bb x y= -1∨Bb x y=0∨Bb x y=1
 |[],[]=>.inr (.inl rfl)
 |[],_::_=>.inl rfl
 |_::_,[]=>.inr (.inr rfl)
 |a::x,b::y=>by
  rw[Bb];split
  ·exact .inl rfl
  ·split
   ·exact .inr (.inr rfl)
   ·exact zf x y
theorem AHK (W:World)(aT:Option Addr)(cT:Nat):Src Tryz.prog 1 111 (.slice aT 0 cT) 0 [] W:=by
 refine⟨.inl ⟨_,Tryz.underlying111⟩,fun w'=>rfl,?_,?_,rfl,by simp⟩
 ·cases aT<;>first|rfl|(simp[Builtin.firstCells];rfl)
 ·cases aT<;>first|rfl|(simp[Builtin.firstCells];rfl)
theorem yV (W:World)(B gl k cT x:Nat)(aT:Option Addr)(t:List Nat)(hl:W.ownsRow B 3 1 (.slice (some ⟨gl,0,none⟩) 1 1) 1 [.int .i64 (x:Int)])(ht:AL Any W (.slice aT k cT) (ints t))(hk:t.length=k)(Da:k≤6)(hB:B≤W.heap.size):
  ∃g c W',(∀ty,(Builtin.append_ #[111,111] ty #[.slice (some ⟨gl,0,none⟩) 1 1,.slice aT k cT]).run Tryz.prog W= .ok (.slice (some ⟨g,0,none⟩) (k+1) c) W')∧W'.ownsRow B 3 1 (.slice (some ⟨g,0,none⟩) (k+1) c) (k+1) (vals (ints (x::t)))∧W.grownBy W' (some gl):=by
 obtain⟨i0,hi,hz0,hz1,hz2⟩:=CO aZ;by_cases h0:k=0
 ·subst h0;obtain rfl:t=[]:=EY hk;refine⟨gl,1,W,fun ty=>run_append_nothing W 111 111 ty 3 i0 Tryz.underlying111 hi (some ⟨gl,0,none⟩) 1 1 AQ _ (by rw[hz1];exact AHK W aT cT),hl,⟨rfl,rfl,rfl,Ap _,fun _ _ _=>rfl⟩⟩
 ·obtain⟨bT,oT,rfl,-, -, -⟩:=AL.at ht (j:=0) (q:=t[0]'(by omega)) (AP _);have hh:∀ty,∃v' w',(Builtin.append_ #[111,111] ty #[.slice (some ⟨gl,0,none⟩) 1 1,.slice (some ⟨bT,oT,none⟩) k cT]).run Tryz.prog W= .ok v' w'∧w'.ownsRow B 3 1 v' (1+k) ([.int .i64 (x:Int)]++vals (ints t))∧W.grownBy w' (some gl):=fun ty=>by
   obtain⟨v',w',h1,h2,h3,_⟩:=run_append_own (P:=Tryz.prog) W B 111 ty 3 i0 (.int .i64 0) 1 8 Tryz.underlying111 hi hz0 hz1 hz2 rfl (by decide) (.slice (some ⟨gl,0,none⟩) 1 1) 1 [.int .i64 (x:Int)] hl ⟨bT,oT,none⟩ k cT (vals (ints t)) (by simp[vals,ints,hk]) (AL.src ht AB) (NZ _) (by unfold maxLen;omega) (by omega) hB;exact⟨v',w',h1,h2,h3⟩
  obtain⟨v',w',h1,h2,h3⟩:=hh 0;rw[GU]at h2;have h4:∃g c,v'= .slice (some ⟨g,0,none⟩) (k+1) c:=by
   rcases h2.2 with⟨_,hn⟩|⟨g,cap,cur,e,_⟩
   ·omega
   ·exact⟨g,cap,e⟩
  obtain⟨g,c,rfl⟩:=h4;exact⟨g,c,w',fun ty=>h1,by simpa[vals,ints]using h2,h3⟩
end Go.Proofs.YtlmlamcoeegkbaaGreat.SfN
