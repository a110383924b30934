import Derived.Test.YtgjadpmbnejaoaaGreatZh
/-
  Lemmas for the law FnAutomorphisms, in short spelling.
-/
set_option linter.unusedVariables false
set_option linter.unusedSimpArgs false
set_option maxRecDepth 100000
set_option maxHeartbeats 40000000
namespace Go.Proofs.YtgjadpmbnejaoaaGreat
namespace KM
open RowKit AJ Bv Bl Ch Cr Bj JN EH Ku Lx
theorem Tu (w:World)(o:Obj)(g i:Nat)(u:Value)(h:g<w.heap.size):(w.alloc o).setCell ⟨g,i,none⟩ u=(w.setCell ⟨g,i,none⟩ u).alloc o:=by
 unfold World.setCell World.alloc;simp only[World.mk.injEq,and_true,true_and];apply Array.ext
 .simp
 .intro k C D;simp only[Array.getElem_modify,Array.getElem_push];by_cases B:k<w.heap.size
  .by_cases hg:g=k<;>simp[B,hg,Array.size_modify]
  .have hg:g≠k:=by omega
   simp[B,hg,Array.size_modify]
theorem iq (n:Int)(h:n<=1)(w:World)(g:Nat):Calls Tryz.prog 68 #[.pointer (some ⟨g,0,none⟩),.int .i64 n] w λe w'=>e= .returned (.int .i64 0)/\w'=w:=by
 go_enter Tryz.func68,Tryz.ntmps68;go_wp2_with fail;go_ret;exact⟨rfl,rfl⟩
def dI (b g:Nat)(a:Option Addr)(len cap:Nat)(w:World)(e:Ending)(w':World):Prop:=∃(N:Nat) (J F I:Option Addr) (D B C:Nat),N<=b/\e= .returned (.agg #[.slice J N D,.slice F N B,.slice I N C])/\PT w.heap.size w' N (.slice J N D) (.slice F N B) (.slice I N C)/\Bl.Src w' g a len cap/\w.grownBy w' (some g)
theorem Xx {w w':World}{r:Option Nat}(h:Below w.heap.size w w'):w.grownBy w' r:=⟨h.os,h.tape,h.output,h.size,λk B _=>h.block k B⟩
theorem LV {w w':World}{S:Nat->Prop}{g:Nat}{a:Option Addr}{len cap:Nat}(h:Bl.Src w g a len cap)(C:Keep S w w')(I:S g):Bl.Src w' g a len cap:=by
 obtain⟨k,s,B,D,J,F⟩:=h;exact⟨k,s,(C.block g I (Bt.1 B).1).trans B,D,J,F⟩
theorem PO {w w':World}{r:Option Nat}(h:w.drew.grownBy w' r):w.grownBy w' r:=⟨h.os,h.tape,h.output,h.size,h.block⟩
theorem Ty.gr {B g:Nat}{w w':World}(h:w.grownBy w' (some g))(hg:g<B):Ty B w w':=Ty.keep (S:=λk=>B<=k) (Keep.grown h λk C e=>by injection e with e;omega) λ_ h=>h
theorem LF {B N gp i g:Nat}{w w':World}(h:Slot B N w gp i)(hg:w.grownBy w' (some g))(J:g<B):Slot B N w' gp i:=by
 obtain⟨Q,L,D,F,u0,O,I,K⟩:=h;have C:=(hg.block gp D (λe=>by injection e with e;omega)).trans O;exact⟨BP w' gp i F _ C,L,Ah D hg.size,F,u0,C,I,(Ty.gr hg J).one _ _ K⟩
theorem GD {B n C g:Nat}{w w':World}{I D F:Value}(h:PX B n w C I D F)(hg:w.grownBy w' (some g))(J:g<B):PX B n w' C I D F:=
 ⟨(hg.block C h.lt (λe=>by injection e with e;have:=h.2.1;omega)).trans h.1,h.2.1,h.2.2.ty (Ty.gr hg J)⟩
theorem ZX {gp g:Nat}{wr w':World}(h:Keep (λk=>k≠gp/\k≠g) wr w'):(∀b o,b<wr.heap.size->¬b=gp->¬b=g->w'.cell? ⟨b,o,none⟩=wr.cell? ⟨b,o,none⟩)/\Keep (λk=>k≠gp/\k≠g) wr w':=⟨λb o D B C=>h.cell ⟨B,C⟩ D,h⟩
theorem QG {gp g:Nat}{w w':World}(h:w.grownBy w' (some g)):Keep (λk=>k≠gp/\k≠g) w w':=Keep.grown h λk B e=>B.2 (by injection e)
theorem U4 {B:Nat}(w:World)(x y z:Int)(C:B<=w.heap.size):R1 B (w.alloc (.cells #[.int .i64 x,.int .i64 y,.int .i64 z] 2)) 3 (.slice (some ⟨w.heap.size,0,none⟩) 3 3):=
 ⟨[x,y,z],rfl,KW w _ [x,y,z] C (by simp[maxLen]) rfl⟩
theorem ZY {w w6:World}{g gp i:Nat}{o:Obj}{u:Value}(h:w.grownBy w6 (some g))(C:Keep (λk=>k≠gp) w6 ((w6.alloc o).setCell ⟨gp,i,none⟩ u))(hg:w.heap.size<=gp):w.grownBy ((w6.alloc o).setCell ⟨gp,i,none⟩ u) (some g):=
 ⟨h.os,h.tape,h.output,Ae h.size C.size,λk B D=>(C.block k (by omega) (Ah B h.size)).trans (h.block k B D)⟩
theorem Yq {b N g R len cap F C D:Nat}{a J K I:Option Addr}{w wr:World}(V:N<=b)(Q:PX (w.heap.size+1) N wr R (.slice J N F) (.slice K N C) (.slice I N D))(S:Bl.Src wr g a len cap)(hg:g<w.heap.size)(B:w.grownBy wr (some g))(W:w.heap.size+1<=wr.heap.size):
  dI b g a len cap w (.returned (.agg #[.slice J N F,.slice K N C,.slice I N D])) (((wr.setCell ⟨w.heap.size,0,none⟩ (.slice J N F)).setCell ⟨w.heap.size,1,none⟩ (.slice K N C)).setCell ⟨w.heap.size,2,none⟩ (.slice I N D)):=by
 have L:Keep (λk=>k≠w.heap.size) wr (((wr.setCell ⟨w.heap.size,0,none⟩ (.slice J N F)).setCell ⟨w.heap.size,1,none⟩ (.slice K N C)).setCell ⟨w.heap.size,2,none⟩ (.slice I N D)):=
  (((Keep.refl _ wr).setCell (by simp) _).setCell (by simp) _).setCell (by simp) _
 refine⟨N,J,K,I,F,C,D,V,rfl,?_,LV S L (by omega),?_⟩
 .exact((Q.2.2.ty (Ty.keep L λk h=>by omega))).mono (by omega)
 .refine⟨B.os,B.tape,B.output,by simpa using B.size,λk O U=>?_⟩;exact(L.block k (by omega) (Ah O B.size)).trans (B.block k O U)
theorem mJ (q:Nat)(hq:2<=q/\q<=7)(w:World)(g:Nat)(a:Option Addr)(len cap:Nat)(hS:Bl.Src w g a len cap)(hR:Rd w g a len):
  Calls Tryz.prog 181 #[.pointer (some ⟨g,0,none⟩),.int .i64 (q:Int)] w (dI 12 g a len cap w):=by
 have HQ:=AB hq;have HS:=AB hS;have HR:=AB hR;have c8:=Bl.Src.lt hS;clear hq hS hR;go_enter Tryz.func181,Tryz.ntmps181;go_upto_region 1 with fail;obtain⟨V,a9⟩:∃V,V=w.alloc CV:=⟨_,rfl⟩;rw[<-a9];have K1:=AB (show V.heap[w.heap.size]?=some CV by rw[a9];exact Aj _ _);have d7:=AB (show Below w.heap.size w V by rw[a9];exact AY.alloc AV _);have a6:=AB (show V.heap.size=w.heap.size+1 by rw[a9];simp);clear a9;have HL:=AB (show AP Any (V.alloc (.cells #[.int .i64 (q:Int),.int .i64 (q:Int),.int .i64 (q:Int)] 2)) (.slice (some ⟨V.heap.size,0,none⟩) 3 3) [(q:Int),(q:Int),(q:Int)] from
  Gw (KW (B:=0) V _ [(q:Int),(q:Int),(q:Int)] (AX _) (by simp[maxLen]) rfl) rfl)
 go_wp2_with fail;refine(Px 3 (by omega) _ rfl _ _ HL.AA).mono ?_;rintro e w6 ⟨h,d,x2,Z,x3,Y,rfl,d0,c0⟩;go_upto_region 2 with fail;obtain⟨Q,c3⟩:∃Q,w6.heap.size=Q:=⟨_,rfl⟩;obtain⟨R,b9⟩:∃R,R=w6.alloc (.cells #[.slice h 3 d,.slice x2 3 Z,.slice x3 3 Y] 28):=⟨_,rfl⟩;have b6:=AB (show PX (w.heap.size+1) 3 R Q (.slice h 3 d) (.slice x2 3 Z) (.slice x3 3 Y) by rw[b9,<-c3];exact Iq d0 (by have:=a6.AA;simp;omega) (by have:=a6.AA;have:=c0.size;simp at this;omega));have b8:=AB (show Below (w.heap.size+1) V R by rw[b9];exact(((BB _ V).alloc (by have:=a6.AA;omega) _).trans (c0.mono (by have:=a6.AA;simp;omega))).alloc (by have:=a6.AA;have:=c0.size;simp at this;omega) _);rw[<-b9,c3];clear b9 c3 d0 c0 HL;have d4:=AB (d7.AA.trans (b8.AA.mono (by omega)));have KB:=AB (Dj b8.AA (by omega) K1.AA);have b5:=AB (show w.heap.size+1<=R.heap.size by have:=b8.AA.size;have:=a6.AA;omega);clear d7 b8 K1 a6;obtain⟨⟨p0,p1,p2⟩,-⟩:=Aa b6.AA.1;obtain⟨gc,gr,yr,rfl,e6,e8,F⟩:=b6.AA.OV (i:=0) (j:=0) (by omega) (by omega);have e4:=F.1;obtain⟨us,e7⟩:=F.cell;have d1:=F.2.2.1;have b7:=AB F;clear F;go_upto_region 3 with fail;have B2:Below R.heap.size R (R.alloc (.cells #[.int .i64 0,.int .i64 1,.int .i64 1] 2)):=AY.alloc AV _;obtain⟨wr,N⟩:∃wr,wr=(R.alloc (.cells #[.int .i64 0,.int .i64 1,.int .i64 1] 2)).setCell ⟨gr,0,none⟩ (.slice (some ⟨R.heap.size,0,none⟩) 3 3):=⟨_,rfl⟩;have C:=AB (show PX (w.heap.size+1) 3 wr Q (.slice h 3 d) (.slice x2 3 Z) (.slice (some ⟨gc,0,none⟩) 3 Y) by
  rw[N];exact(b7.AA.below B2).put (b6.AA.below B2) (U4 R 0 1 1 b5.AA))
 have c1:=AB (show Below w.heap.size w wr by rw[N];exact(d4.AA.trans (B2.mono (by have:=b5.AA;omega))).setCell (p:=⟨gr,0,none⟩) (by have:=b7.AA.2.1;simp;omega) _);have L:=AB (show wr.heap[w.heap.size]?=some CV by
  rw[N,JA _ ⟨gr,0,none⟩ _ _ (by have:=b7.AA.2.1;simp;omega),Dv _ _ _ (by have:=b5.AA;omega)];exact KB.AA)
 rw[Tu _ _ _ _ _ d1]at N;rw[<-N];have J:=AB (LV HS.AA (AO (S:=Any) c1.AA) trivial);have U:=AB (HR.AA.keep (AO c1.AA));have e9:w.heap.size+1<=wr.heap.size:=by rw[N];have:=b5.AA;simp;omega
 clear N B2 e4 e7 d1 b7 b6 p0 p1 p2 e6 e8 KB d4;have K:=AB (Xx (r:=some g) c1.AA);have I:=AB (show w.heap.size+1<=wr.heap.size from e9);clear c1;have e3:=AB (Qw 2 (by omega) (by omega) wr g a len cap J.AA U.AA);go_wp2_with fail;refine e3.AA.mono ?_;rintro e w7 ⟨r,rfl,hr,d6,a7⟩;have d2:=AB (GD C.AA a7 (by omega));have c2:=AB (Jd K.AA a7);have d8:=AB d6;have d9:=AB (show w.heap.size+1<=w7.heap.size from Ae I.AA a7.size);have c9:=AB ((a7.block _ (by have:=I.AA;omega) (λe=>by injection e with e;omega)).trans L.AA);have d5:=AB (HR.AA.grown c2.AA);clear C K J I L U a7 d6 e3;have C:=d2;have K:=c2;have J:=d8;have I:=d9;have L:=c9;have U:=d5;clear d2 c2 d8 d9 c9 d5;by_cases f3:r=0
 .subst f3;go_wp2_with fail;obtain⟨wr,N⟩:∃wr,w7=wr:=⟨_,rfl⟩;rw[N]at C K J I L U ⊢;clear N;obtain⟨⟨p0,p1,p2⟩,-⟩:=Aa C.AA.1;have a8:=C.AA.1;have b2:=C.AA.lt;have a0:some Q≠some g:=λe=>by injection e with e;have:=C.AA.2.1;omega
  obtain⟨gp,rfl,F⟩:=C.AA.Ki (i:=0) (by omega);have O:g<w.heap.size+1:=by omega
  have c7:¬Q=g:=λe=>a0 (by rw[e]);have c6:=Lb F C.AA;have b1:¬gp=g:=by have:=F.2.1;omega
  have b3:=AB (λ(W:World) (hk:Keep Any wr W)=>Qw q HQ.AA.1 (by have:=HQ.AA.2;omega) W g a len cap (LV J.AA hk trivial) (Rd.keep U.AA (hk.mono λ_ _=>trivial)));go_upto_region 4 with fail;go_region_held3 (λw'=>(∀b o,b<wr.heap.size->¬b=gp->¬b=g->w'.cell? ⟨b,o,none⟩=wr.cell? ⟨b,o,none⟩)/\Keep (λk=>k≠gp/\k≠g) wr w')
   (first|exact ZX (by repeat(first|exact Ab|exact AL|exact QG ‹_›|refine Keep.drew ?_|refine Keep.alloc ?_ _|refine Keep.setCell ?_ (by simp) _|refine Keep.trans ?_ (QG ‹_›))))
   (first|(go_at_call 68;refine(b3.AA _ (by repeat(first|exact Ab|exact AL|refine Keep.drew ?_|refine AR ?_ ‹_›))).mono ?_;rintro e w6 ⟨r,rfl,hr,b4,u⟩;have D:wr.grownBy w6 (some g):=(by first|exact u|exact PO u);have x0:=(Aa ((D.block Q b2 a0).trans a8)).1.2.1;have f6:=(LF F D O).1;obtain⟨u6,s6⟩:=(LF F D O).cell;have b0:=(LF F D O).2.2.1)|fail)
  rename_i c5;clear c5;have a5:=AB (show PX (w.heap.size+1) 3 ((w6.alloc (.cells #[.int .i64 0,.int .i64 0,.int .i64 (r:Int)] 2)).setCell ⟨gp,0,none⟩ (.slice (some ⟨w6.heap.size,0,none⟩) 3 3)) Q (.slice h 3 d) (.slice (some ⟨gp,0,none⟩) 3 Z) (.slice (some ⟨gc,0,none⟩) 3 Y) from
   ((LF F D O).below (AY.alloc AV _)).put ((GD C.AA D O).below (AY.alloc AV _)) (U4 w6 0 0 (r:Int) (by have:=I.AA;have:=D.size;omega)))
  have X:Keep (λk=>k≠gp) w6 ((w6.alloc (.cells #[.int .i64 0,.int .i64 0,.int .i64 (r:Int)] 2)).setCell ⟨gp,0,none⟩ (.slice (some ⟨w6.heap.size,0,none⟩) 3 3)):=(AL.alloc _).setCell (by simp) _;have a3:=AB (LV b4 X (λe=>b1 e.symm));have l:=AB (show w.grownBy ((w6.alloc (.cells #[.int .i64 0,.int .i64 0,.int .i64 (r:Int)] 2)).setCell ⟨gp,0,none⟩ (.slice (some ⟨w6.heap.size,0,none⟩) 3 3)) (some g) from
   ZY (Jd K.AA D) X (by have:=F.2.1;omega))
  have a2:=AB (show w.heap.size+1<=((w6.alloc (.cells #[.int .i64 0,.int .i64 0,.int .i64 (r:Int)] 2)).setCell ⟨gp,0,none⟩ (.slice (some ⟨w6.heap.size,0,none⟩) 3 3)).heap.size from by have:=I.AA;have:=D.size;simp at this ⊢; omega);have a4:=AB (show((w6.alloc (.cells #[.int .i64 0,.int .i64 0,.int .i64 (r:Int)] 2)).setCell ⟨gp,0,none⟩ (.slice (some ⟨w6.heap.size,0,none⟩) 3 3)).heap[w.heap.size]?=some CV from
   (X.block _ (by have:=F.2.1;omega) (by have:=I.AA;have:=D.size;omega)).trans ((D.block _ (by have:=I.AA;first|omega|(simp;omega)) (λe=>by injection e with e;omega)).trans L.AA))
  have a1:=AB (HR.AA.grown l.AA);obtain⟨w8,s⟩:∃w8,(w6.alloc (.cells #[.int .i64 0,.int .i64 0,.int .i64 (r:Int)] 2)).setCell ⟨gp,0,none⟩ (.slice (some ⟨w6.heap.size,0,none⟩) 3 3)=w8:=⟨_,rfl⟩;rw[s]at a5 a3 l a2 a4 a1;rw[Tu _ _ _ _ _ b0]at s;rw[s];clear s X C J K I L U F D u b4 x0 f6 s6 b0 b3 p0 p1 p2 a8 b2 a0 c7 b1 c6 O;have C:=a5;have J:=a3;have K:=l;have I:=a2;have L:=a4;have U:=a1;clear a5 a3 l a2 a4 a1;obtain⟨wr,N⟩:∃wr,w8=wr:=⟨_,rfl⟩;rw[N]at C K J I L U ⊢;clear N;obtain⟨⟨p0,p1,p2⟩,-⟩:=Aa C.AA.1;have a8:=C.AA.1;have b2:=C.AA.lt;have a0:some Q≠some g:=λe=>by injection e with e;have:=C.AA.2.1;omega
  obtain⟨e5,d3,F⟩:=C.AA.Ki (i:=1) (by omega);obtain rfl:gp=e5:=by simpa using d3
  clear d3;have O:g<w.heap.size+1:=by omega
  have c7:¬Q=g:=λe=>a0 (by rw[e]);have c6:=Lb F C.AA;have b1:¬gp=g:=by have:=F.2.1;omega
  have b3:=AB (λ(W:World) (hk:Keep Any wr W)=>Qw q HQ.AA.1 (by have:=HQ.AA.2;omega) W g a len cap (LV J.AA hk trivial) (Rd.keep U.AA (hk.mono λ_ _=>trivial)));go_upto_region 5 with fail;go_region_held3 (λw'=>(∀b o,b<wr.heap.size->¬b=gp->¬b=g->w'.cell? ⟨b,o,none⟩=wr.cell? ⟨b,o,none⟩)/\Keep (λk=>k≠gp/\k≠g) wr w')
   (first|exact ZX (by repeat(first|exact Ab|exact AL|exact QG ‹_›|refine Keep.drew ?_|refine Keep.alloc ?_ _|refine Keep.setCell ?_ (by simp) _|refine Keep.trans ?_ (QG ‹_›))))
   (first|(go_at_call 68;refine(b3.AA _ (by repeat(first|exact Ab|exact AL|refine Keep.drew ?_|refine AR ?_ ‹_›))).mono ?_;rintro e w6 ⟨r,rfl,hr,b4,u⟩;have D:wr.grownBy w6 (some g):=(by first|exact u|exact PO u);have x0:=(Aa ((D.block Q b2 a0).trans a8)).1.2.1;have f6:=(LF F D O).1;obtain⟨u6,s6⟩:=(LF F D O).cell;have b0:=(LF F D O).2.2.1)|fail)
  rename_i c5;clear c5;have a5:=AB (show PX (w.heap.size+1) 3 ((w6.alloc (.cells #[.int .i64 0,.int .i64 0,.int .i64 (r:Int)] 2)).setCell ⟨gp,1,none⟩ (.slice (some ⟨w6.heap.size,0,none⟩) 3 3)) Q (.slice h 3 d) (.slice (some ⟨gp,0,none⟩) 3 Z) (.slice (some ⟨gc,0,none⟩) 3 Y) from
   ((LF F D O).below (AY.alloc AV _)).put ((GD C.AA D O).below (AY.alloc AV _)) (U4 w6 0 0 (r:Int) (by have:=I.AA;have:=D.size;omega)))
  have X:Keep (λk=>k≠gp) w6 ((w6.alloc (.cells #[.int .i64 0,.int .i64 0,.int .i64 (r:Int)] 2)).setCell ⟨gp,1,none⟩ (.slice (some ⟨w6.heap.size,0,none⟩) 3 3)):=(AL.alloc _).setCell (by simp) _;have a3:=AB (LV b4 X (λe=>b1 e.symm));have l:=AB (show w.grownBy ((w6.alloc (.cells #[.int .i64 0,.int .i64 0,.int .i64 (r:Int)] 2)).setCell ⟨gp,1,none⟩ (.slice (some ⟨w6.heap.size,0,none⟩) 3 3)) (some g) from
   ZY (Jd K.AA D) X (by have:=F.2.1;omega))
  have a2:=AB (show w.heap.size+1<=((w6.alloc (.cells #[.int .i64 0,.int .i64 0,.int .i64 (r:Int)] 2)).setCell ⟨gp,1,none⟩ (.slice (some ⟨w6.heap.size,0,none⟩) 3 3)).heap.size from by have:=I.AA;have:=D.size;simp at this ⊢; omega);have a4:=AB (show((w6.alloc (.cells #[.int .i64 0,.int .i64 0,.int .i64 (r:Int)] 2)).setCell ⟨gp,1,none⟩ (.slice (some ⟨w6.heap.size,0,none⟩) 3 3)).heap[w.heap.size]?=some CV from
   (X.block _ (by have:=F.2.1;omega) (by have:=I.AA;have:=D.size;omega)).trans ((D.block _ (by have:=I.AA;first|omega|(simp;omega)) (λe=>by injection e with e;omega)).trans L.AA))
  have a1:=AB (HR.AA.grown l.AA);obtain⟨w8,s⟩:∃w8,(w6.alloc (.cells #[.int .i64 0,.int .i64 0,.int .i64 (r:Int)] 2)).setCell ⟨gp,1,none⟩ (.slice (some ⟨w6.heap.size,0,none⟩) 3 3)=w8:=⟨_,rfl⟩;rw[s]at a5 a3 l a2 a4 a1;rw[Tu _ _ _ _ _ b0]at s;rw[s];clear s X C J K I L U F D u b4 x0 f6 s6 b0 b3 p0 p1 p2 a8 b2 a0 c7 b1 c6 O;have C:=a5;have J:=a3;have K:=l;have I:=a2;have L:=a4;have U:=a1;clear a5 a3 l a2 a4 a1;obtain⟨⟨e0,e1,e2⟩,-⟩:=Aa C.AA.1;obtain⟨⟨f0,f1,f2⟩,q0,q1,q2⟩:=Aa L.AA;have c4:=AB (Yq (b:=12) (by omega) C.AA J.AA c8 K.AA I.AA);clear C J K I;go_wp2_with fail;obtain⟨⟨z0,z1,z2⟩,-⟩:=Aa (Bi (x:=.slice h 3 d) (y:=.slice (some ⟨gp,0,none⟩) 3 Z) (z:=.slice (some ⟨gc,0,none⟩) 3 Y) L.AA);exact Au (v:=.agg #[.slice h 3 d,.slice (some ⟨gp,0,none⟩) 3 Z,.slice (some ⟨gc,0,none⟩) 3 Y]) (by simp[results,Tryz.results181,go_sem,z0,z1,z2]) rfl c4.AA
 .have f4:((r:Int)==0)=false:=by simp;omega
  obtain⟨⟨e0,e1,e2⟩,-⟩:=Aa C.AA.1;obtain⟨⟨f0,f1,f2⟩,q0,q1,q2⟩:=Aa L.AA;have c4:=AB (Yq (b:=12) (by omega) C.AA J.AA c8 K.AA I.AA);clear C J K I;go_wp2_with fail;obtain⟨⟨z0,z1,z2⟩,-⟩:=Aa (Bi (x:=.slice h 3 d) (y:=.slice x2 3 Z) (z:=.slice (some ⟨gc,0,none⟩) 3 Y) L.AA);exact Au (v:=.agg #[.slice h 3 d,.slice x2 3 Z,.slice (some ⟨gc,0,none⟩) 3 Y]) (by simp[results,Tryz.results181,go_sem,z0,z1,z2]) rfl c4.AA
end KM
namespace Ih
open RowKit AJ Bv Bl Ch Cr Bj EH Lx Vs TD KM KN
open Ow(Ty.box Ty.JF)
def Sr (g:Nat)(a:Option Addr)(len cap:Nat)(w W:World):Prop:=Bl.Src W g a len cap/\Rd W g a len/\w.grownBy W (some g)
theorem Sr.drew {g len cap:Nat}{a:Option Addr}{w W:World}(h:Sr g a len cap w W):Sr g a len cap w W.drew:=⟨h.1,h.2.1,Ju h.2.2⟩
theorem Sr.next {g len cap:Nat}{a:Option Addr}{w W B:World}(h:Sr g a len cap w W)(C:Bl.Src B g a len cap)(hg:W.grownBy B (some g)):Sr g a len cap w B:=⟨C,h.2.1.grown hg,Jd h.2.2 hg⟩
theorem Sr.tr {g len cap:Nat}{a:Option Addr}{w W C:World}(h:Sr g a len cap w W)(B:Sr g a len cap W C):Sr g a len cap w C:=⟨B.1,B.2.1,Jd h.2.2 B.2.2⟩
theorem Sr.lt {g len cap:Nat}{a:Option Addr}{w W:World}(h:Sr g a len cap w W):g<W.heap.size:=h.1.lt
theorem Sr.below {g len cap:Nat}{a:Option Addr}{w W C:World}(h:Sr g a len cap w W)(B:Below W.heap.size W C):Sr g a len cap w C:=
 h.next (LV h.1 (AO (S:=Any) B) trivial) (Xx B)
theorem Sr.alloc {g len cap:Nat}{a:Option Addr}{w W:World}(h:Sr g a len cap w W)(o:Obj):Sr g a len cap w (W.alloc o):=h.below (AY.alloc AV _)
theorem Sr.ha {g len cap:Nat}{a:Option Addr}{w W:World}(h:Sr g a len cap w W)(q o:Nat)(C:0<len)(e:a=some ⟨q,o,none⟩):q<W.heap.size:=by
 obtain⟨D,F,z,B,I,K,J⟩:=h.2.1 0 C;rw[e]at B;injection B with B;injection B with B;omega
theorem Sr.own {g len cap:Nat}{a:Option Addr}{r:Option Nat}{w W F:World}(h:Sr g a len cap w W)(I:Sr g a len cap w w)(B:W.grownBy F r)(O:∀k,r=some k->w.heap.size<=k):Sr g a len cap w F:=by
 have C:Keep (λk=>k<w.heap.size) W F:=Keep.grown B λk C e=>by have:=O k e.symm;omega
 refine⟨LV h.1 C I.lt,λk N=>?_,⟨B.os.trans h.2.2.os,B.tape.trans h.2.2.tape,B.output.trans h.2.2.output,Ae h.2.2.size B.size,λj D Q=>(C.block j D (Ah D h.2.2.size)).trans (h.2.2.block j D Q)⟩⟩;obtain⟨q,o,z,J,R,K,S,L⟩:=h.2.1 k N;exact⟨q,o,z,J,R,Ah K B.size,(C.cell (I.ha q o (by omega) J) K).trans S,L⟩
theorem Sr.set {g len cap b i:Nat}{a:Option Addr}{w W:World}(h:Sr g a len cap w W)(B:Sr g a len cap w w)(C:w.heap.size<=b)(u:Value):Sr g a len cap w (W.setCell ⟨b,i,none⟩ u):=
 h.own B (Pt (g:=b) (Ez W _) u) λk e=>by injection e with e;omega
theorem Sr.NC {g len cap b:Nat}{a:Option Addr}{w W:World}(h:Sr g a len cap w W)(B:Sr g a len cap w w)(C:w.heap.size<=b)(x y z:Value):Sr g a len cap w (((W.setCell ⟨b,0,none⟩ x).setCell ⟨b,1,none⟩ y).setCell ⟨b,2,none⟩ z):=
 ((h.set B C x).set B C y).set B C z
def wZ (x:Int)(g:Nat)(a:Option Addr)(len cap:Nat)(W:World)(e:Ending)(B:World):Prop:=∃r:Nat,e= .returned (.int .i64 (r:Int))/\((2<=x/\(r:Int)<x)\/(x<2/\r=0))/\Sr g a len cap W B
theorem GX (x:Int)(g:Nat)(a:Option Addr)(len cap:Nat)(w W:World)(h:Sr g a len cap w W):
  Calls Tryz.prog 68 #[.pointer (some ⟨g,0,none⟩),.int .i64 x] W (wZ x g a len cap W):=by
 by_cases B:2<=x
 .obtain⟨n,rfl⟩:∃n:Nat,x=n:=⟨x.toNat,by omega⟩;refine(Bl.ZP n (by omega) W g a len cap h.1 h.2.1).mono ?_;rintro e D ⟨r,rfl,F,C,hg⟩;exact⟨r,rfl,.inl ⟨B,by omega⟩,C,h.2.1.grown hg,hg⟩
 .refine(iq x (by omega) W g).mono ?_;rintro e D ⟨rfl,rfl⟩;exact⟨0,rfl,.inr ⟨by omega,rfl⟩,h.1,h.2.1,Ez _ _⟩
def wh (L:List Int)(g:Nat)(a:Option Addr)(len cap:Nat)(W:World)(e:Ending)(B:World):Prop:=∃x:Int,x∈L/\e= .returned (.int .i64 x)/\Sr g a len cap W B
theorem OD (L:List Int)(m:Nat)(J:L.length=m)(I:2<=m)(C:m<=12)(g:Nat)(a:Option Addr)(len cap:Nat)(w W:World)(h:Sr g a len cap w W):
  Calls Tryz.prog 127 #[.pointer (some ⟨g,0,none⟩),.slice (some ⟨W.heap.size,0,none⟩) m m] (W.alloc (.cells (L.map (Value.int .i64)).toArray 2)) (wh L g a len cap (W.alloc (.cells (L.map (Value.int .i64)).toArray 2))):=by
 subst J;have B:=h.alloc (.cells (L.map (Value.int .i64)).toArray 2);refine(Xl L _ rfl I C _ W.heap.size g a len cap (ZQ h.lt (by omega)) B.1 B.2.1).mono ?_;rintro e K ⟨x,D,rfl,F,hg⟩;exact⟨x,D,rfl,F,B.2.1.grown hg,hg⟩
def EW (b:Nat)(w:World)(e:Ending)(w':World):Prop:=∃(N:Nat) (J F I:Option Addr) (D B C:Nat),N<=b/\e= .returned (.agg #[.slice J N D,.slice F N B,.slice I N C])/\PT w.heap.size w' N (.slice J N D) (.slice F N B) (.slice I N C)/\Below w.heap.size w w'
theorem IU.un {N b:Nat}{w w':World}{e:Ending}(h:IU N w e w')(D:N<=b):EW b w e w':=by
 obtain⟨L,R,K,rfl,B,C⟩:=h;obtain⟨Q,J,S,F,O,I,rfl,rfl,rfl⟩:=B.form;exact⟨N,_,_,_,_,_,_,D,rfl,B,C⟩
theorem Mw.un {b:Nat}{w w':World}{e:Ending}(h:Mw b w e w'):EW b w e w':=by
 obtain⟨N,B,h⟩:=h;exact IU.un h B
theorem Ri (L:List Int)(m:Nat)(C:L.length=m)(D:m<=12)(w:World):Calls Tryz.prog 125 #[.slice (some ⟨w.heap.size,0,none⟩) m m] (w.alloc (.cells (L.map (Value.int .i64)).toArray 2)) (EW 12 (w.alloc (.cells (L.map (Value.int .i64)).toArray 2))):=by
 subst C;refine(Qx L _ _ (EH.Gw (KW (B:=0) w _ L (AX _) (by unfold maxLen;omega) (by simp[vals])) rfl) (by omega)).mono ?_;exact λe w' h=>IU.un h D
theorem Yr (k:Nat)(hk:k<10)(w:World):Calls Tryz.prog 183 #[.int .i64 (k:Int)] w (EW 12 w):=by
 obtain⟨B,h⟩:∃B,B=w.alloc CV:=⟨_,rfl⟩;obtain⟨K,l⟩:∃K,w.heap.size=K:=⟨_,rfl⟩;have a3:=AB (show Below w.heap.size w B by rw[h];exact AY.alloc AV _);have a2:=AB (show B.heap.size=K+1 by rw[h,<-l];simp);have V:=AB (λ(W:World) (D:Below B.heap.size B W)=>show W.heap[K]?=some CV/\K<W.heap.size from
  ⟨(D.block K (by rw[a2.AA];omega)).trans (by rw[h,<-l];exact Aj _ _),by have:=D.size;rw[a2.AA]at this;omega⟩)
 have HG:=AB l;have HF:=AB (λ(W:World) (D:Below B.heap.size B W) (N:Nat) (u:N<=12) (R L J:Option Addr) (Q O I:Nat) (hP:PT B.heap.size W N (.slice R N Q) (.slice L N O) (.slice J N I))=>show EW 12 w (.returned (.agg #[.slice R N Q,.slice L N O,.slice J N I])) (((W.setCell ⟨K,0,none⟩ (.slice R N Q)).setCell ⟨K,1,none⟩ (.slice L N O)).setCell ⟨K,2,none⟩ (.slice J N I)) from
  ⟨N,_,_,_,_,_,_,u,rfl,(hP.ty (Ty.JF (V.AA W D).1)).mono a3.AA.size,Py (a3.AA.trans (D.mono a3.AA.size)) (Nat.le_of_eq HG.AA) _ _ _⟩)
 have a7:=AB (λ(W:World)=>show Calls Tryz.prog 125 #[.slice (some ⟨W.heap.size,0,none⟩) 1 1] (W.alloc (.cells #[.int .i64 2] 2)) (EW 12 (W.alloc (.cells #[.int .i64 2] 2))) from Ri [2] 1 rfl (by omega) W);have hk:k=0\/k=1\/k=2\/k=3\/k=4\/k=5\/k=6\/k=7\/k=8\/k=9:=by omega
 have HW:=AB (And.intro h l);clear h l;rcases hk with rfl|rfl|rfl|rfl|rfl|rfl|rfl|rfl|rfl|rfl;all_goals
  go_enter Tryz.func183,Tryz.ntmps183;go_upto_region 1 with fail;rw[<-HW.AA.1,HW.AA.2];go_upto_region 3 with(go_at_call 234;refine(vG _ (by decide) _).mono ?_;rintro e d ⟨N,R,L,J,Q,O,I,c,u,rfl,i,D⟩);have HN:=AB u;have p:=AB (show Below B.heap.size B d from((BB _ B).alloc AV _).trans (D.mono (by simp)));have F:=AB (show PX B.heap.size N (d.alloc (.cells #[.slice R N Q,.slice L N O,.slice J N I] 28)) d.heap.size (.slice R N Q) (.slice L N O) (.slice J N I) from Iq (i.mono (by simp)) AV p.AA.size);have S:=AB (show Below B.heap.size B (d.alloc (.cells #[.slice R N Q,.slice L N O,.slice J N I] 28)) from p.AA.alloc p.AA.size _);clear u i D;obtain⟨U,a5⟩:∃U,U=d.alloc (.cells #[.slice R N Q,.slice L N O,.slice J N I] 28):=⟨_,rfl⟩;rw[<-a5]at F S ⊢;obtain⟨C,a4⟩:∃C,d.heap.size=C:=⟨_,rfl⟩;rw[a4]at F ⊢;clear a5 a4 p;obtain⟨⟨d0,d1,d2⟩,f0,f1,f2⟩:=Aa F.AA.1;have b4:=F.AA.lt;have b3:¬C=K:=by have h1:=a2.AA;have h2:=F.AA.2.1;omega
  by_cases r:c=0
  .have a8:(c !=0)=false:=by rw[r];rfl
   obtain⟨⟨e0,e1,e2⟩,r0,r1,r2⟩:=Aa (V.AA U S.AA).1;have a9:=(V.AA U S.AA).2;clear r;go_wp2_with fail;obtain⟨⟨z0,z1,z2⟩,-⟩:=Aa (Bi (x:=.slice R N Q) (y:=.slice L N O) (z:=.slice J N I) (V.AA U S.AA).1);exact Au (v:=.agg #[.slice R N Q,.slice L N O,.slice J N I]) (by simp[results,Tryz.results183,go_sem,z0,z1,z2]) rfl (HF.AA _ S.AA N HN.AA _ _ _ _ _ _ F.AA.2.2)
  .have a8:(c !=0)=true:=bne_iff_ne.2 r;clear r;go_upto_region 5 with(go_at_call 125;refine(a7.AA _).mono ?_;rintro e s ⟨M,Z,X,b,g,Y,a,hM,rfl,i,D⟩;have a1:=AB (show Below U.heap.size U s from((BB _ U).alloc AV _).trans (D.mono (by simp)));have b0:=AB i;have HM:=AB hM;have a0:=F.AA.below a1.AA;obtain⟨⟨u0,u1,u2⟩,r0,r1,r2⟩:=Aa a0.1;have b2:=a0.lt;clear i D hM a0);have q:=AB (show PX B.heap.size M (((s.setCell ⟨C,0,none⟩ (.slice Z M g)).setCell ⟨C,1,none⟩ (.slice X M Y)).setCell ⟨C,2,none⟩ (.slice b M a)) C (.slice Z M g) (.slice X M Y) (.slice b M a) from PX.Bi (F.AA.below a1.AA).1 F.AA.2.1 (b0.AA.mono (Ae S.AA.size (by simp))));have j:=AB (show Below B.heap.size B (((s.setCell ⟨C,0,none⟩ (.slice Z M g)).setCell ⟨C,1,none⟩ (.slice X M Y)).setCell ⟨C,2,none⟩ (.slice b M a)) from Py (S.AA.trans (a1.AA.mono S.AA.size)) F.AA.2.1 _ _ _);obtain⟨w6,a6⟩:∃w6,w6=(((s.setCell ⟨C,0,none⟩ (.slice Z M g)).setCell ⟨C,1,none⟩ (.slice X M Y)).setCell ⟨C,2,none⟩ (.slice b M a)):=⟨_,rfl⟩;rw[<-a6]at q j ⊢;clear a6 d0 d1 d2 f0 f1 f2 r0 r1 r2 u0 u1 u2;obtain⟨⟨d0,d1,d2⟩,-⟩:=Aa q.AA.1;have b1:=q.AA.lt;obtain⟨⟨e0,e1,e2⟩,r0,r1,r2⟩:=Aa (V.AA w6 j.AA).1;have a9:=(V.AA w6 j.AA).2;go_wp2_with fail;obtain⟨⟨z0,z1,z2⟩,-⟩:=Aa (Bi (x:=.slice Z M g) (y:=.slice X M Y) (z:=.slice b M a) (V.AA w6 j.AA).1);exact Au (v:=.agg #[.slice Z M g,.slice X M Y,.slice b M a]) (by simp[results,Tryz.results183,go_sem,z0,z1,z2]) rfl (HF.AA _ j.AA M HM.AA _ _ _ _ _ _ q.AA.2.2)
end Ih
namespace KL
open RowKit Lib AJ Bv Bl Ch Cr Bj EH
theorem iw {w:World}{g n:Nat}{B:Array Value}{x:Value}(hg:w.heap[g]?=some (.cells B 2 (0,0)))(J:n<B.size):w.setRow g (B.toList.take n++[x]++B.toList.drop (n+1)).toArray=w.setCell ⟨g,n,none⟩ x:=by
 have C:=(Bt.1 hg).2;unfold World.setRow World.setCell;cases w with
 |mk heap tape drawn os output=>
  congr 1;apply Array.ext
  .simp
  .intro k I K;simp only[Array.getElem_modify];split
   .rename_i F;subst F;simp only at C;rw[C];simp only[Option.isSome_none,Bool.false_eq_true,if_false,Obj.cells.injEq,and_true];apply Array.ext
    .simp;omega
    .intro j L D;simp only[List.getElem_toArray];rw[Array.getElem_setIfInBounds (by simpa using D)];split
     .rename_i e;subst e;rw[List.getElem_append_left (by simp;omega),List.getElem_append_right (by simp;omega)];simp
     .rcases CU j n with h|h
      .rw[List.getElem_append_left (by simp;omega),List.getElem_append_left (by simp;omega)];simp
      .rw[List.getElem_append_right (by simp;omega)];simp only[List.getElem_drop,Bc,Ec,List.length_singleton,Array.length_toList,Array.getElem_toList];congr 1;omega
   .rfl
theorem ZZ (w:World)(base:Nat)(ty:TypeId)(n:Nat)(v:Value)(D:List Value)(I:w.ownsRow base 2 1 v n D)(g c:Nat)(x:Int)(i:w.cell? ⟨g,0,none⟩=some (.int .i64 x))(a1:n+1<=1000000)(q:base<=w.heap.size):
  ∃L w',(Builtin.append_ #[24,24] ty #[v,.slice (some ⟨g,0,none⟩) 1 c]).run Tryz.prog w= .ok L w'/\w'.ownsRow base 2 1 L (n+1) (D++[.int .i64 x])/\w.grownBy w' v.ownBlock/\∀B,Ty B w w':=by
 obtain⟨N,hi,U,C,R⟩:=Bd Dh;have K:=Tryz.underlying24;have F:∀j u,[Value.int .i64 x][j]?=some u->w.cell? ((⟨g,0,none⟩:Addr).add j)=some u:=by
  intro j u W;cases j with
  |zero=>simp at W;subst W;simpa[Addr.add]using i
  |succ j=>simp at W
 have a:∀u∈[Value.int .i64 x],u.oneCell'=true:=by simp[Value.oneCell']
 obtain⟨L,w',Z,r,hg,_⟩:=run_append_own (P:=Tryz.prog) w base 24 ty 2 N (.int .i64 0) 1 8 K hi U C R rfl (by decide) v n D I ⟨g,0,none⟩ 1 c [.int .i64 x] rfl F a (by unfold maxLen;omega) (by omega) q;refine⟨L,w',Z,r,hg,λB=>?_⟩;have O:∀(b:Value) (V:World),(Builtin.append_ #[24,24] ty #[v,.slice (some ⟨g,0,none⟩) 1 c]).run Tryz.prog w= .ok b V->Ty B w V->Ty B w w':=λb V J p=>by
  rw[Z]at J;injection J with _ J;rw[J];exact p
 have Y:∀o,Ty B w (w.drew.alloc o):=λo=>Ty.keep (S:=Any) (((Keep.refl _ w).drew).alloc o) λ_ _=>trivial;rcases id I.2 with⟨rfl,rfl⟩|⟨gr,cap,h,rfl,a2,Q,a0,s,y,z⟩
 .exact O _ _ (run_append_nil (P:=Tryz.prog) w 24 ty 2 N (.int .i64 0) K hi U ⟨g,0,none⟩ 1 c [.int .i64 x] (by rw[C];rfl) F (by omega) (by omega) (by rw[R];omega)) (Y _)
 .by_cases d:n+1<=cap
  .have X:=run_append_room (P:=Tryz.prog) w 24 ty 2 N K hi gr n cap h Q ⟨g,0,none⟩ 1 c [.int .i64 x] (by rw[C];rfl) F a d (by rw[C];simp;omega);rw[C,GZ,List.length_singleton,iw Q (by omega)]at X;exact O _ _ X (Ty.set1 Q x)
  .have l:∀j u,D[j]?=some u->w.cell? ((⟨gr,0,none⟩:Addr).add j)=some u:=I.cells (g:=gr) rfl;exact O _ _ (run_append_grow (P:=Tryz.prog) w 24 ty 2 N (.int .i64 0) K hi U ⟨gr,0,none⟩ n cap D (by rw[C];exact I.1) l ⟨g,0,none⟩ 1 c [.int .i64 x] (by rw[C];rfl) F (by omega) (by omega) (by rw[R];exact growslice_fits (by omega) (by omega))) (Y _)
theorem WS {F:Array Oper}{rest:List Oper}{o:Oper}{a:Act}{w:World}{Q:Exit->Act->World->Prop}(O:o.guard=none)(s x:Operand)
  (Z:o.op= .call { callee:=.builtin .append,args:= #[s,x],argTypes:= #[24,24] }) (base n g c:Nat) (v:Value) (D:List Value) (y:Int) (J:a.eval s=v) (L:w.ownsRow base 2 1 v n D)
  (U:a.eval x= .slice (some ⟨g,0,none⟩) 1 c) (N:w.cell? ⟨g,0,none⟩=some (.int .i64 y)) (W:n+1<=1000000) (Y:base<=w.heap.size)
  (h:∀C w',w'.ownsRow base 2 1 C (n+1) (D++[.int .i64 y])->w.grownBy w' v.ownBlock->(∀B,Ty B w w')->wpList Tryz.prog F Q rest (a.put o.dst C) w'):wpList Tryz.prog F Q (o::rest) a w:=by
 refine wpList_plain O λK S=>?_;obtain⟨C,w',R,V,X,I⟩:=ZZ w base o.type n v D L g c y N W Y;unfold Oper.wp execOp;simp only[Z,resolve,invoke,builtin,Sem.run_bind,Sem.run_pure,Mc,Mf,FC,Jb,J,U,R];exact S _ _ (h C w' V X I)
def A1 (B:Nat)(w:World)(v:Value):Prop:=∃n,n<=100/\R1 B w n v
def A2 (B:Nat)(w:World)(k:Nat)(v:Value):Prop:=∃us:List Value,us.length=k/\w.ownsRow B 24 1 v k us/\∀(i:Nat) u,us[i]?=some u->A1 B w u
def A3 (B:Nat)(w:World)(K:List Nat)(v:Value):Prop:=∃us:List Value,us.length=K.length/\w.ownsRow B 25 1 v K.length us/\∀(i:Nat) u k,us[i]?=some u->K[i]?=some k->A2 B w k u
structure Eg (B:Nat)(w w':World):Prop where
 one:∀v,A1 B w v->A1 B w' v
 two:∀k v,A2 B w k v->A2 B w' k v
 three:∀K v,A3 B w K v->A3 B w' K v
theorem Eg.trans {B:Nat}{a b c:World}(h:Eg B a b)(g:Eg B b c):Eg B a c:=⟨λv x=>g.one v (h.one v x),λk v x=>g.two k v (h.two k v x),λk v x=>g.three k v (h.three k v x)⟩
theorem Eg.mk' {B:Nat}{w w':World}(L:∀n v,R1 B w n v->R1 B w' n v)
  (N:∀(n:Nat) (v:Value) us,w.ownsRow B 24 1 v n us->us.length=n->∃C,w'.ownsRow B 24 1 v n C/\C.length=n/\∀(i:Nat) D,C[i]?=some D->us[i]?=some D\/A1 B w' D)
  (R:∀(n:Nat) (v:Value) us,w.ownsRow B 25 1 v n us->w'.ownsRow B 25 1 v n us):Eg B w w':=by
 have J:∀v,A1 B w v->A1 B w' v:=λv ⟨n,a,b⟩=>⟨n,a,L n v b⟩;have I:∀k v,A2 B w k v->A2 B w' k v:=λk v ⟨us,a,b,c⟩=>by
  obtain⟨C,O,Q,d⟩:=N k v us b a;exact⟨C,Q,O,λi u F=>(d i u F).elim (λh=>J _ (c i u h)) id⟩
 exact⟨J,I,λK v ⟨us,a,b,c⟩=>⟨us,a,R _ v us b,λi u k F S=>I k u (c i u k F S)⟩⟩
theorem Eg.other {B b i:Nat}{w:World}{c:Value}{t:TypeId}{L:Array Value}(C:w.heap[b]?=some (.cells L t (0,0)))(F:t≠2)(I:t≠24)(K:t≠25):Eg B w (w.setCell ⟨b,i,none⟩ c):=
 Eg.mk' (λn v h=>h.other C F) (λn v us h D=>⟨us,Fz h C I.symm,D,λi u J=>.inl J⟩) λn v us h=>Fz h C K.symm
theorem Eg.set2 {B b i:Nat}{w:World}{Q:Array Value}{u:Value}(D:w.heap[b]?=some (.cells Q 24 (0,0)))(I:A1 B w u):Eg B w (w.setCell ⟨b,i,none⟩ u):=by
 obtain⟨m,O,I⟩:=I;refine Eg.mk' (λn v h=>h.other D (by decide)) (λn v us h R=>?_) λn v us h=>Fz h D (by decide);obtain⟨J,L,e2⟩:=Qj (b:=b) (i:=i) (c:=u) h;have N:J.length=n:=by have:=L.1;omega
 refine⟨J,L,N,λj x F=>?_⟩;have S:=(Ak.1 F).1;rcases e2 j _ (AU (show j<us.length by omega))with K|⟨_,rfl,C⟩
 .rw[F]at K;exact .inl (K▸AU _)
 .rw[F]at C;injection C with C;exact .inr ⟨m,O,by rw[C];exact I.other D (by decide)⟩
theorem A2.of {B:Nat}{L:List Nat}{w:World}{v:Value}(h:R2 B w L v)(K:∀n∈L,n<=100):A2 B w L.length v:=by
 obtain⟨us,D,I⟩:=h;have J:us.length=L.length:=by have:=D.1;omega
 refine⟨us,J,D,λi u F=>?_⟩;have hi:=(Ak.1 F).1;obtain⟨N,C,e2⟩:=I i _ (AU (by omega));rw[F]at C;injection C with C;exact⟨_,K _ (Ho _),C▸e2⟩
theorem A3.of {B:Nat}{M:List (List Nat)}{w:World}{v:Value}(h:R3 B w M v)(J:∀L∈M,∀n∈L,n<=100):A3 B w (M.map List.length) v:=by
 obtain⟨us,D,N⟩:=h;have K:us.length=M.length:=by have:=D.1;omega
 refine⟨us,by rw[BC];exact K,by rw[BC];exact D,λi u k F I=>?_⟩;have hi:=(Ak.1 F).1;obtain⟨O,C,e2⟩:=N i _ (AU (by omega));rw[F]at C;injection C with C;simp only[Bh,AU (show i<M.length by omega),Option.map_some,EQ]at I;rw[<-I,C];exact A2.of e2 (J _ (Ho _))
theorem A3.NC {B b i k:Nat}{K:List Nat}{w:World}{V:Array Value}{u v:Value}(R:w.heap[b]?=some (.cells V 25 (0,0)))(J:A2 B w k u)(h:A3 B w K v):∃U,A3 B (w.setCell ⟨b,i,none⟩ u) U v:=by
 have Q:∀k v,A2 B w k v->A2 B (w.setCell ⟨b,i,none⟩ u) k v:=λk v ⟨us,a,b,c⟩=>⟨us,a,Fz b R (by decide),λi u J=>by
  obtain⟨n,I,Y⟩:=c i u J;exact⟨n,I,Y.other R (by decide)⟩⟩
 obtain⟨us,a,I,c⟩:=h;obtain⟨C,N,e2⟩:=Qj (b:=b) (i:=i) (c:=u) I;have Z:C.length=K.length:=by have:=N.1;omega
 have L:∀j:Fin C.length,∃m,A2 B (w.setCell ⟨b,i,none⟩ u) m (C[j.1]'j.2):=λj=>by
  have S:j.1<us.length:=by have:=j.2;omega
  rcases e2 j.1 _ (AU S)with D|⟨_,_,F⟩
  .obtain⟨_,D⟩:=Ak.1 D;exact⟨_,by rw[D];exact Q _ _ (c j.1 _ _ (AU S) (AU (by omega)))⟩
  .obtain⟨_,F⟩:=Ak.1 F;exact⟨k,by rw[F];exact Q _ _ J⟩
 refine⟨(List.finRange C.length).map λj=>Classical.choose (L j),C,by simp,by simpa[Z]using N,λj x m X O=>?_⟩;simp only[Bh,Hg]at O;obtain⟨q,d,rfl⟩:=O;obtain⟨W,e⟩:=Ak.1 d;simp only[List.length_finRange]at W;have e2:j=q.1:=by rw[<-e];simp
 subst e2;obtain⟨_,g⟩:=Ak.1 X;rw[<-g];exact Kk (L q)
theorem A1.mono {B B':Nat}{w:World}{v:Value}(h:A1 B w v)(C:B'<=B):A1 B' w v:=by obtain⟨n,D,h⟩:=h;exact⟨n,D,h.mono C⟩
theorem A2.mono {B B' k:Nat}{w:World}{v:Value}(h:A2 B w k v)(C:B'<=B):A2 B' w k v:=by obtain⟨us,a,b,c⟩:=h;exact⟨us,a,Gp b C,λi u D=>(c i u D).mono C⟩
theorem A3.mono {B B':Nat}{K:List Nat}{w:World}{v:Value}(h:A3 B w K v)(C:B'<=B):A3 B' w K v:=by obtain⟨us,a,b,c⟩:=h;exact⟨us,a,Gp b C,λi u k D F=>(c i u k D F).mono C⟩
def PA (B:Nat)(w:World)(F C D:Value):Prop:=A1 B w F/\(∃k,A2 B w k C)/\∃K,A3 B w K D
theorem PA.ty {B:Nat}{w w':World}{I D F:Value}(h:PA B w I D F)(C:Eg B w w'):PA B w' I D F:=⟨C.one _ h.1,h.2.1.imp λk h=>C.two k _ h,h.2.2.imp λk h=>C.three k _ h⟩
theorem PA.mono {B B':Nat}{w:World}{x y z:Value}(h:PA B w x y z)(C:B'<=B):PA B' w x y z:=⟨h.1.mono C,h.2.1.imp λk h=>h.mono C,h.2.2.imp λk h=>h.mono C⟩
theorem PA.of {B n:Nat}{w:World}{J I F:Value}(C:n<=100)(h:PT B w n J I F):PA B w J I F:=
 ⟨⟨_,C,h.1⟩,⟨_,A2.of h.2.1 λm D=>by rw[(GL.1 D).2];exact C⟩,⟨_,A3.of h.2.2 λL K m D=>by
  obtain⟨i,_,rfl⟩:=BX.1 K;rw[(GL.1 D).2];exact C⟩⟩
end KL
namespace MB
open RowKit AJ Bv Bl Ch Cr Bj EH Lx Vs TD KM KN Ih KL
open Ow(Ty.box Ty.JF)
def Ij (b g:Nat)(a:Option Addr)(len cap:Nat)(w:World)(e:Ending)(w':World):Prop:=∃(N:Nat) (J F I:Option Addr) (D B C:Nat),N<=b/\e= .returned (.agg #[.slice J N D,.slice F N B,.slice I N C])/\PT w.heap.size w' N (.slice J N D) (.slice F N B) (.slice I N C)/\Sr g a len cap w w'
theorem EW.JO {b g len cap:Nat}{a:Option Addr}{w W K:World}{e:Ending}(h:Sr g a len cap w W)(Q:EW b W e K):∃(N:Nat) (I J F:Option Addr) (D B C:Nat),N<=b/\e= .returned (.agg #[.slice I N D,.slice J N B,.slice F N C])/\PT w.heap.size K N (.slice I N D) (.slice J N B) (.slice F N C)/\Sr g a len cap w K:=by
 obtain⟨N,I,J,F,D,B,C,R,rfl,L,O⟩:=Q;exact⟨N,_,_,_,_,_,_,R,rfl,L.mono h.2.2.size,h.below O⟩
theorem OE {x:Int}(h:0<=x):∃n:Nat,x=(n:Int):=⟨x.toNat,by omega⟩
theorem U5 (n m r s:Int)(B:1<=n/\n<=40)(C:1<=m/\m<=40)(w:World):Calls Tryz.prog 180 #[.int .i64 n,.int .i64 m,.int .i64 r,.int .i64 s] w (EW 12 w):=by
 obtain⟨n,rfl⟩:=OE (x:=n) (by omega);obtain⟨m,rfl⟩:=OE (x:=m) (by omega);exact(mG n m (by omega) (by omega) r s w).mono λe w' h=>Mw.un h
theorem OX (p n:Int)(m:Nat)(I:1<=p/\p<=7)(J:1<=n/\n<=40)(F:m<=4)(B:Option Addr)(C:Nat)(w:World)(D:R2 0 w (List.replicate m m) (.slice B m C)):Calls Tryz.prog 182 #[.int .i64 p,.slice B m C,.int .i64 n] w (EW 12 w):=by
 obtain⟨n,rfl⟩:=OE (x:=n) (by omega);obtain⟨p,rfl⟩:=OE (x:=p) (by omega);exact(ig p n m (by omega) (by omega) F B C w D).mono λe w' h=>Mw.un h
theorem vH (n:Int)(B:1<=n/\n<=40)(w:World):Calls Tryz.prog 179 #[.int .i64 n] w (Oh 12 w):=by
 obtain⟨n,rfl⟩:=OE (x:=n) (by omega);exact qj n (by omega) w
theorem sj (q:Int)(O:2<=q/\q<=7)(g:Nat)(a:Option Addr)(len cap:Nat)(w W:World)(h:Sr g a len cap w W):Calls Tryz.prog 181 #[.pointer (some ⟨g,0,none⟩),.int .i64 q] W (Ij 12 g a len cap W):=by
 obtain⟨q,rfl⟩:=OE (x:=q) (by omega);refine(mJ q (by omega) W g a len cap h.1 h.2.1).mono ?_;rintro e w' ⟨N,L,Q,K,J,F,I,D,rfl,B,C,hg⟩;exact⟨N,_,_,_,_,_,_,D,rfl,B,C,h.2.1.grown hg,hg⟩
theorem Jg {w:World}{n:Nat}{v:Value}(o:Obj)(h:R1 0 w n v):R1 0 (w.alloc o) n v:=(Ty.keep (S:=Any) ((Keep.refl _ w).alloc o) λ_ _=>trivial).one _ _ h
theorem Jl (w:World)(l:List Int)(m:Nat)(B:l.length=m)(h:m<=100):R1 0 (w.alloc (.cells (l.map (Value.int .i64)).toArray 2)) m (.slice (some ⟨w.heap.size,0,none⟩) m m):=by
 subst B;exact⟨l,rfl,KW w _ l (AX _) (by unfold maxLen;omega) (by simp[vals])⟩
theorem VT (w:World)(us:List Value)(m k:Nat)(C:us.length=k)(D:k<=100)(h:∀u∈us,R1 0 w m u):R2 0 (w.alloc (.cells us.toArray 24)) (List.replicate k m) (.slice (some ⟨w.heap.size,0,none⟩) k k):=by
 subst C;refine⟨us,?_,λi n hi=>?_⟩
 .have:=JD (base:=0) (e:=24) (size:=1) w us.toArray us.length (AX _) (by unfold maxLen;omega) (by simp);rw[Bp];simpa using this
 .obtain⟨B,e⟩:=Ak.1 hi;simp only[Bp,List.getElem_replicate]at B e;subst e;exact⟨_,AU B,Jg _ (h _ (Ho _))⟩
abbrev o1 (l:List Int):Obj:=.cells (l.map (Value.int .i64)).toArray 2
abbrev rv (g m:Nat):Value:=.slice (some ⟨g,0,none⟩) m m
theorem VU (w:World)(k l:List Int)(F:k.length=2)(D:l.length=2):R2 0 (((w.alloc (o1 k)).alloc (o1 l)).alloc (.cells #[rv w.heap.size 2,rv (w.heap.size+1) 2] 24)) (List.replicate 2 2) (rv (w.heap.size+1+1) 2):=by
 have C:=Jl (w.alloc (o1 k)) l 2 D (by decide);rw[World.size_alloc]at C;have h:=VT ((w.alloc (o1 k)).alloc (o1 l)) [rv w.heap.size 2,rv (w.heap.size+1) 2] 2 2 rfl (by decide) (λu B=>by
  rcases EE.1 B with rfl|B
  .exact Jg _ (Jl w k 2 F (by decide))
  .rw[ES.1 B];exact C)
 simpa using h
theorem dJ (w:World)(k l m:List Int)(J:k.length=3)(F:l.length=3)(I:m.length=3):R2 0 ((((w.alloc (o1 k)).alloc (o1 l)).alloc (o1 m)).alloc (.cells #[rv w.heap.size 3,rv (w.heap.size+1) 3,rv (w.heap.size+1+1) 3] 24)) (List.replicate 3 3) (rv (w.heap.size+1+1+1) 3):=by
 have C:=Jl (w.alloc (o1 k)) l 3 F (by decide);have D:=Jl ((w.alloc (o1 k)).alloc (o1 l)) m 3 I (by decide);simp only[World.size_alloc]at C D;have h:=VT (((w.alloc (o1 k)).alloc (o1 l)).alloc (o1 m)) [rv w.heap.size 3,rv (w.heap.size+1) 3,rv (w.heap.size+1+1) 3] 3 3 rfl (by decide) (λu B=>by
  rcases EE.1 B with rfl|B
  .exact Jg _ (Jg _ (Jl w k 3 J (by decide)))
  .rcases EE.1 B with rfl|B
   .exact Jg _ C
   .rw[ES.1 B];exact D)
 simpa using h
theorem ve (w:World)(k l m n:List Int)(L:k.length=4)(I:l.length=4)(K:m.length=4)(J:n.length=4):R2 0 (((((w.alloc (o1 k)).alloc (o1 l)).alloc (o1 m)).alloc (o1 n)).alloc (.cells #[rv w.heap.size 4,rv (w.heap.size+1) 4,rv (w.heap.size+1+1) 4,rv (w.heap.size+1+1+1) 4] 24)) (List.replicate 4 4) (rv (w.heap.size+1+1+1+1) 4):=by
 have C:=Jl (w.alloc (o1 k)) l 4 I (by decide);have F:=Jl ((w.alloc (o1 k)).alloc (o1 l)) m 4 K (by decide);have D:=Jl (((w.alloc (o1 k)).alloc (o1 l)).alloc (o1 m)) n 4 J (by decide);simp only[World.size_alloc]at C F D;have h:=VT ((((w.alloc (o1 k)).alloc (o1 l)).alloc (o1 m)).alloc (o1 n)) [rv w.heap.size 4,rv (w.heap.size+1) 4,rv (w.heap.size+1+1) 4,rv (w.heap.size+1+1+1) 4] 4 4 rfl (by decide) (λu B=>by
  rcases EE.1 B with rfl|B
  .exact Jg _ (Jg _ (Jg _ (Jl w k 4 L (by decide))))
  .rcases EE.1 B with rfl|B
   .exact Jg _ (Jg _ C)
   .rcases EE.1 B with rfl|B
    .exact Jg _ F
    .rw[ES.1 B];exact D)
 simpa using h
theorem ql (g:Nat)(a:Option Addr)(len cap:Nat)(w:World)(h:Sr g a len cap w w):Calls Tryz.prog 123 #[.pointer (some ⟨g,0,none⟩)] w (Ij 12 g a len cap w):=by
 obtain⟨s,a2⟩:∃s,s=w.alloc CV:=⟨_,rfl⟩;obtain⟨g0,a6⟩:∃g0,w.heap.size=g0:=⟨_,rfl⟩;have HH:=AB h;have a7:=AB (show s.heap.size=g0+1 by rw[a2,<-a6];simp);have c1:=AB (show s.heap[g0]?=some CV by rw[a2,<-a6];exact Aj _ _);have HS:=AB (show Sr g a len cap s s by rw[a2];exact⟨(h.alloc _).1,(h.alloc _).2.1,Ez _ _⟩);have b6:=AB (show Sr g a len cap w s by rw[a2];exact h.alloc _);have L:=AB (λ(W:World) (hS:Sr g a len cap s W)=>show W.heap[g0]?=some CV/\g0<W.heap.size from
  ⟨(hS.2.2.block g0 (by rw[a7.AA];omega) (λe=>by injection e with e;have:=HH.AA.lt;omega)).trans c1.AA,by have:=hS.2.2.size;rw[a7.AA]at this;omega⟩)
 have HF:=AB (λ(W:World) (hS:Sr g a len cap s W) (N:Nat) (O:N<=12) (K F D:Option Addr) (J I C:Nat) (hP:PT s.heap.size W N (.slice K N J) (.slice F N I) (.slice D N C))=>show Ij 12 g a len cap w (.returned (.agg #[.slice K N J,.slice F N I,.slice D N C])) (((W.setCell ⟨g0,0,none⟩ (.slice K N J)).setCell ⟨g0,1,none⟩ (.slice F N I)).setCell ⟨g0,2,none⟩ (.slice D N C)) from
  ⟨N,_,_,_,_,_,_,O,rfl,(hP.ty (Ty.JF (L.AA W hS).1)).mono (by rw[a7.AA];omega),(b6.AA.tr hS).NC HH.AA (by omega) _ _ _⟩)
 have a3:=AB (λ(x:Int) (W:World) (hS:Sr g a len cap s W)=>GX x g a len cap s W hS);clear h;go_enter Tryz.func123,Tryz.ntmps123;go_upto_region 1 with fail;rw[<-a2];clear a2 a6;go_upto_region 2 with(go_at_call 68;refine(a3.AA _ _ HS.AA).mono ?_;rintro e w2 ⟨r,rfl,hr,b2⟩;have u:=AB b2;clear b2);have c2:r=0\/r=1\/r=2\/r=3\/r=4\/r=5\/r=6\/r=7\/r=8:=by omega
 clear hr;rcases c2 with rfl|rfl|rfl|rfl|rfl|rfl|rfl|rfl|rfl
 .go_wp2_with (go_at_call 68;refine(a3.AA _ _ (u.AA.alloc _)).mono ?_;rintro e w3 ⟨r,rfl,hr,V⟩;have X:=AB ((u.AA.alloc _).tr V);have c0:r<=4:=(by omega);have b3:=AB (show R1 s.heap.size w3 0 (.slice (some ⟨w2.heap.size,0,none⟩) 0 0) from(Ty.gr V.2.2 (by have:=HS.AA.lt;omega)).one _ _ ⟨[],rfl,DL (e:=2) (size:=1) w2 #[] 0 u.AA.2.2.size (AX _) rfl⟩);clear V hr);go_loopw [3,4] (λov kv wr=>∃(j k:Nat) (b:Option Addr) (c:Nat),j+k<=4/\kv= .int .i64 (k:Int)/\ov= .slice b j c/\Hid (R1 s.heap.size wr j (.slice b j c))/\Hid (Sr g a len cap s wr)) (λ_ kv _=>(intOf kv).toNat);case atStart=>exact⟨0,r,_,_,by omega,rfl,rfl,b3,X⟩
  case round=>
   clear b3 X c0;obtain⟨j,k,b,c,c5,rfl,rfl,hR,hS⟩:=hrel;cases k with
   |succ k=>
    have b8:(0:Int)<((k+1:Nat):Int):=by omega
    have c3:0<k+1:=by omega
    go_wp2_with (first|(go_at_call 127;refine(OD [2,2,3] 3 rfl (by decide) (by decide) g a len cap s _ hS.AA).mono ?_;rintro e w3 ⟨x,hx,rfl,V⟩;have X:=AB ((hS.AA.alloc _).tr V);obtain⟨l,hl,a4⟩:=((Ty.keep (S:=Any) ((Keep.refl _ w3).alloc (.cells #[.int .i64 x] 2)) λ_ _=>trivial).one _ _ ((Ty.gr V.2.2 (by have:=HS.AA.lt;omega)).one _ _ ((Ty.keep (S:=Any) ((Keep.refl _ wr).alloc (.cells #[.int .i64 2,.int .i64 2,.int .i64 3] 2)) λ_ _=>trivial).one _ _ hR.AA)):R1 s.heap.size (w3.alloc (.cells #[.int .i64 x] 2)) j (.slice b j c));clear hx V)|(at_builtin;refine WS rfl _ _ rfl s.heap.size j w3.heap.size 1 (.slice b j c) (vals l) x rfl a4 rfl (by simp) (by omega) (Ae X.AA.2.2.size (by simp)) ?_;intro v' w4 a8 b1 _));obtain⟨b4,c4,rfl⟩:=II a8;have b7:=AB (show R1 s.heap.size w4 (j+1) (.slice b4 (j+1) c4) from⟨l++[x],by simp[hl],by simpa[vals]using a8⟩);have b9:=AB (show Sr g a len cap s w4 from(X.AA.alloc _).own HS.AA b1 (λq e=>(Aq a4 q e).1));clear a4 a8 b1 hl hR hS;go_wp2_with fail;go_roundw;case rel=>exact⟨j+1,k,b4,c4,by omega,by go_num,rfl,b7,b9⟩
    case measure=>simp[intOf]<;>omega
   |zero=>
    have b8:¬(0:Int)<((0:Nat):Int):=by omega
    obtain⟨l,hl,b5⟩:=hR.AA.sl;have HT:=AB ((Qx l _ wr (b5.mono λ_ _=>trivial) (by omega)).mono λe w' h=>IU.un (b:=12) h (by omega));clear b5 hR;go_wp2_with (go_at_call 125;refine(HT.AA).mono ?_;intro e w6 U;obtain⟨N,K,F,D,J,I,C,O,rfl,Q,R⟩:=EW.JO hS.AA U;have Y:=AB O;have B:=AB R;have p:=AB Q;obtain⟨⟨e0,e1,e2⟩,f0,f1,f2⟩:=Aa (L.AA _ B.AA).1;have a0:=(L.AA _ B.AA).2;clear U O Q R);obtain⟨⟨i,d,Z⟩,-⟩:=Aa (Bi (x:=.slice K N J) (y:=.slice F N I) (z:=.slice D N C) (L.AA _ B.AA).1);exact Au (v:=.agg #[.slice K N J,.slice F N I,.slice D N C]) (by simp[results,Tryz.results123,go_sem,i,d,Z]) rfl (HF.AA _ B.AA N Y.AA _ _ _ _ _ _ p.AA)
 .go_wp2_with (first|(go_at_call 127;refine(OD [1,4,6,8,9,12,5,7,27,25,36] 11 rfl (by decide) (by decide) g a len cap s _ u.AA).mono ?_;rintro e w3 ⟨x,hx,rfl,V⟩;have X:=AB ((u.AA.alloc _).tr V);have a1:1<=x/\x<=40:=(by simp at hx;omega);have b0:(x=2\/x=3\/x=5)\/True:=.inr trivial;clear hx V)|(go_at_call 179;refine(vH _ a1 _).mono ?_;rintro e w6 ⟨N,K,F,D,J,I,C,c,O,rfl,Q,hb⟩;have Y:=AB O;have B:=AB ((X.AA.below hb).alloc (.cells #[.slice K N J,.slice F N I,.slice D N C] 28));have p:=AB ((Q.mono X.AA.2.2.size).ty (Ty.keep (S:=Any) ((Keep.refl _ w6).alloc (.cells #[.slice K N J,.slice F N I,.slice D N C] 28)) λ_ _=>trivial));obtain⟨⟨e0,e1,e2⟩,f0,f1,f2⟩:=Aa (L.AA _ B.AA).1;have a0:=(L.AA _ B.AA).2;clear O Q hb));obtain⟨⟨i,d,Z⟩,-⟩:=Aa (Bi (x:=.slice K N J) (y:=.slice F N I) (z:=.slice D N C) (L.AA _ B.AA).1);exact Au (v:=.agg #[.slice K N J,.slice F N I,.slice D N C]) (by simp[results,Tryz.results123,go_sem,i,d,Z]) rfl (HF.AA _ B.AA N Y.AA _ _ _ _ _ _ p.AA)
 .go_wp2_with (first|(go_at_call 127;refine(OD [3,4,5,6,7,8,9,12] 8 rfl (by decide) (by decide) g a len cap s _ u.AA).mono ?_;rintro e w3 ⟨x,hx,rfl,V⟩;have X:=AB ((u.AA.alloc _).tr V);have a1:1<=x/\x<=40:=(by simp at hx;omega);have b0:(x=2\/x=3\/x=5)\/True:=.inr trivial;clear hx V)|(go_at_call 180;refine(U5 _ _ _ _ (by decide) a1 _).mono ?_;intro e w6 U;obtain⟨N,K,F,D,J,I,C,O,rfl,Q,R⟩:=EW.JO X.AA U;have Y:=AB O;have B:=AB R;have p:=AB Q;obtain⟨⟨e0,e1,e2⟩,f0,f1,f2⟩:=Aa (L.AA _ B.AA).1;have a0:=(L.AA _ B.AA).2;clear U O Q R));obtain⟨⟨i,d,Z⟩,-⟩:=Aa (Bi (x:=.slice K N J) (y:=.slice F N I) (z:=.slice D N C) (L.AA _ B.AA).1);exact Au (v:=.agg #[.slice K N J,.slice F N I,.slice D N C]) (by simp[results,Tryz.results123,go_sem,i,d,Z]) rfl (HF.AA _ B.AA N Y.AA _ _ _ _ _ _ p.AA)
 .go_wp2_with (first|(go_at_call 127;refine(OD [4,6,8,12] 4 rfl (by decide) (by decide) g a len cap s _ u.AA).mono ?_;rintro e w3 ⟨x,hx,rfl,V⟩;have X:=AB ((u.AA.alloc _).tr V);have a1:1<=x/\x<=40:=(by simp at hx;omega);have b0:(x=2\/x=3\/x=5)\/True:=.inr trivial;clear hx V)|(go_at_call 180;refine(U5 _ _ _ _ (by decide) a1 _).mono ?_;intro e w6 U;obtain⟨N,K,F,D,J,I,C,O,rfl,Q,R⟩:=EW.JO X.AA U;have Y:=AB O;have B:=AB R;have p:=AB Q;obtain⟨⟨e0,e1,e2⟩,f0,f1,f2⟩:=Aa (L.AA _ B.AA).1;have a0:=(L.AA _ B.AA).2;clear U O Q R));obtain⟨⟨i,d,Z⟩,-⟩:=Aa (Bi (x:=.slice K N J) (y:=.slice F N I) (z:=.slice D N C) (L.AA _ B.AA).1);exact Au (v:=.agg #[.slice K N J,.slice F N I,.slice D N C]) (by simp[results,Tryz.results123,go_sem,i,d,Z]) rfl (HF.AA _ B.AA N Y.AA _ _ _ _ _ _ p.AA)
 .go_upto_region 20 with(go_at_call 68;refine(a3.AA _ _ u.AA).mono ?_;rintro e w3 ⟨r,rfl,hr,V⟩;have X:=AB (u.AA.tr V);clear V);have a5:r=0\/r=1\/r=2\/r=3\/r=4\/r=5:=by omega
  clear hr;rcases a5 with rfl|rfl|rfl|rfl|rfl|rfl;all_goals
   go_wp2_with (go_at_call 180;refine(U5 _ _ _ _ (by decide) (by decide) _).mono ?_;intro e w6 U;obtain⟨N,K,F,D,J,I,C,O,rfl,Q,R⟩:=EW.JO X.AA U;have Y:=AB O;have B:=AB R;have p:=AB Q;obtain⟨⟨e0,e1,e2⟩,f0,f1,f2⟩:=Aa (L.AA _ B.AA).1;have a0:=(L.AA _ B.AA).2;clear U O Q R);obtain⟨⟨i,d,Z⟩,-⟩:=Aa (Bi (x:=.slice K N J) (y:=.slice F N I) (z:=.slice D N C) (L.AA _ B.AA).1);exact Au (v:=.agg #[.slice K N J,.slice F N I,.slice D N C]) (by simp[results,Tryz.results123,go_sem,i,d,Z]) rfl (HF.AA _ B.AA N Y.AA _ _ _ _ _ _ p.AA)
 .go_wp2_with (first|(go_at_call 127;refine(OD [2,3,2,3,5] 5 rfl (by decide) (by decide) g a len cap s _ u.AA).mono ?_;rintro e w3 ⟨x,hx,rfl,V⟩;have X:=AB ((u.AA.alloc _).tr V);have a1:2<=x/\x<=7:=(by simp at hx;omega);clear hx V)|(go_at_call 181;refine(sj _ a1 g a len cap s _ X.AA).mono ?_;rintro e w6 ⟨N,K,F,D,J,I,C,O,rfl,Q,R⟩;have Y:=AB O;have B:=AB (X.AA.tr R);have p:=AB (Q.mono X.AA.2.2.size);obtain⟨⟨e0,e1,e2⟩,f0,f1,f2⟩:=Aa (L.AA _ B.AA).1;have a0:=(L.AA _ B.AA).2;clear O Q R));obtain⟨⟨i,d,Z⟩,-⟩:=Aa (Bi (x:=.slice K N J) (y:=.slice F N I) (z:=.slice D N C) (L.AA _ B.AA).1);exact Au (v:=.agg #[.slice K N J,.slice F N I,.slice D N C]) (by simp[results,Tryz.results123,go_sem,i,d,Z]) rfl (HF.AA _ B.AA N Y.AA _ _ _ _ _ _ p.AA)
 .go_upto_region 35 with(go_at_call 68;refine(a3.AA _ _ u.AA).mono ?_;rintro e w3 ⟨r,rfl,hr,V⟩;have X:=AB (u.AA.tr V);clear V);have a5:r=0\/r=1\/r=2\/r=3\/r=4\/r=5:=by omega
  clear hr;rcases a5 with rfl|rfl|rfl|rfl|rfl|rfl
  .go_wp2_with (go_at_call 182;refine(OX 3 2 2 (by decide) (by decide) (by decide) _ _ _ (VU _ [2,0] [0,2] rfl rfl)).mono ?_;intro e w6 U;obtain⟨N,K,F,D,J,I,C,O,rfl,Q,R⟩:=EW.JO (((X.AA.alloc _).alloc _).alloc _) U;have Y:=AB O;have B:=AB R;have p:=AB Q;obtain⟨⟨e0,e1,e2⟩,f0,f1,f2⟩:=Aa (L.AA _ B.AA).1;have a0:=(L.AA _ B.AA).2;clear U O Q R);obtain⟨⟨i,d,Z⟩,-⟩:=Aa (Bi (x:=.slice K N J) (y:=.slice F N I) (z:=.slice D N C) (L.AA _ B.AA).1);exact Au (v:=.agg #[.slice K N J,.slice F N I,.slice D N C]) (by simp[results,Tryz.results123,go_sem,i,d,Z]) rfl (HF.AA _ B.AA N Y.AA _ _ _ _ _ _ p.AA)
  .go_wp2_with (go_at_call 182;refine(OX 3 4 2 (by decide) (by decide) (by decide) _ _ _ (VU _ [0,1] [2,0] rfl rfl)).mono ?_;intro e w6 U;obtain⟨N,K,F,D,J,I,C,O,rfl,Q,R⟩:=EW.JO (((X.AA.alloc _).alloc _).alloc _) U;have Y:=AB O;have B:=AB R;have p:=AB Q;obtain⟨⟨e0,e1,e2⟩,f0,f1,f2⟩:=Aa (L.AA _ B.AA).1;have a0:=(L.AA _ B.AA).2;clear U O Q R);obtain⟨⟨i,d,Z⟩,-⟩:=Aa (Bi (x:=.slice K N J) (y:=.slice F N I) (z:=.slice D N C) (L.AA _ B.AA).1);exact Au (v:=.agg #[.slice K N J,.slice F N I,.slice D N C]) (by simp[results,Tryz.results123,go_sem,i,d,Z]) rfl (HF.AA _ B.AA N Y.AA _ _ _ _ _ _ p.AA)
  .go_wp2_with (go_at_call 182;refine(OX 2 7 3 (by decide) (by decide) (by decide) _ _ _ (dJ _ [0,1,0] [0,0,1] [1,1,0] rfl rfl rfl)).mono ?_;intro e w6 U;obtain⟨N,K,F,D,J,I,C,O,rfl,Q,R⟩:=EW.JO ((((X.AA.alloc _).alloc _).alloc _).alloc _) U;have Y:=AB O;have B:=AB R;have p:=AB Q;obtain⟨⟨e0,e1,e2⟩,f0,f1,f2⟩:=Aa (L.AA _ B.AA).1;have a0:=(L.AA _ B.AA).2;clear U O Q R);obtain⟨⟨i,d,Z⟩,-⟩:=Aa (Bi (x:=.slice K N J) (y:=.slice F N I) (z:=.slice D N C) (L.AA _ B.AA).1);exact Au (v:=.agg #[.slice K N J,.slice F N I,.slice D N C]) (by simp[results,Tryz.results123,go_sem,i,d,Z]) rfl (HF.AA _ B.AA N Y.AA _ _ _ _ _ _ p.AA)
  .go_wp2_with (go_at_call 182;refine(OX 2 4 3 (by decide) (by decide) (by decide) _ _ _ (dJ _ [1,1,0] [0,1,1] [0,0,1] rfl rfl rfl)).mono ?_;intro e w6 U;obtain⟨N,K,F,D,J,I,C,O,rfl,Q,R⟩:=EW.JO ((((X.AA.alloc _).alloc _).alloc _).alloc _) U;have Y:=AB O;have B:=AB R;have p:=AB Q;obtain⟨⟨e0,e1,e2⟩,f0,f1,f2⟩:=Aa (L.AA _ B.AA).1;have a0:=(L.AA _ B.AA).2;clear U O Q R);obtain⟨⟨i,d,Z⟩,-⟩:=Aa (Bi (x:=.slice K N J) (y:=.slice F N I) (z:=.slice D N C) (L.AA _ B.AA).1);exact Au (v:=.agg #[.slice K N J,.slice F N I,.slice D N C]) (by simp[results,Tryz.results123,go_sem,i,d,Z]) rfl (HF.AA _ B.AA N Y.AA _ _ _ _ _ _ p.AA)
  .go_wp2_with (go_at_call 182;refine(OX 2 2 4 (by decide) (by decide) (by decide) _ _ _ (ve _ [0,1,0,0] [1,0,0,0] [0,0,0,1] [0,0,1,0] rfl rfl rfl rfl)).mono ?_;intro e w6 U;obtain⟨N,K,F,D,J,I,C,O,rfl,Q,R⟩:=EW.JO (((((X.AA.alloc _).alloc _).alloc _).alloc _).alloc _) U;have Y:=AB O;have B:=AB R;have p:=AB Q;obtain⟨⟨e0,e1,e2⟩,f0,f1,f2⟩:=Aa (L.AA _ B.AA).1;have a0:=(L.AA _ B.AA).2;clear U O Q R);obtain⟨⟨i,d,Z⟩,-⟩:=Aa (Bi (x:=.slice K N J) (y:=.slice F N I) (z:=.slice D N C) (L.AA _ B.AA).1);exact Au (v:=.agg #[.slice K N J,.slice F N I,.slice D N C]) (by simp[results,Tryz.results123,go_sem,i,d,Z]) rfl (HF.AA _ B.AA N Y.AA _ _ _ _ _ _ p.AA)
  .go_wp2_with (go_at_call 182;refine(OX 5 3 2 (by decide) (by decide) (by decide) _ _ _ (VU _ [0,1] [4,4] rfl rfl)).mono ?_;intro e w6 U;obtain⟨N,K,F,D,J,I,C,O,rfl,Q,R⟩:=EW.JO (((X.AA.alloc _).alloc _).alloc _) U;have Y:=AB O;have B:=AB R;have p:=AB Q;obtain⟨⟨e0,e1,e2⟩,f0,f1,f2⟩:=Aa (L.AA _ B.AA).1;have a0:=(L.AA _ B.AA).2;clear U O Q R);obtain⟨⟨i,d,Z⟩,-⟩:=Aa (Bi (x:=.slice K N J) (y:=.slice F N I) (z:=.slice D N C) (L.AA _ B.AA).1);exact Au (v:=.agg #[.slice K N J,.slice F N I,.slice D N C]) (by simp[results,Tryz.results123,go_sem,i,d,Z]) rfl (HF.AA _ B.AA N Y.AA _ _ _ _ _ _ p.AA)
 .go_wp2_with (first|(go_at_call 68;refine(a3.AA _ _ u.AA).mono ?_;rintro e w3 ⟨r,rfl,hr,V⟩;have X:=AB (u.AA.tr V);have a9:r<10:=(by omega);clear hr V)|(go_at_call 183;refine(Yr r a9 _).mono ?_;intro e w6 U;obtain⟨N,K,F,D,J,I,C,O,rfl,Q,R⟩:=EW.JO X.AA U;have Y:=AB O;have B:=AB R;have p:=AB Q;obtain⟨⟨e0,e1,e2⟩,f0,f1,f2⟩:=Aa (L.AA _ B.AA).1;have a0:=(L.AA _ B.AA).2;clear U O Q R));obtain⟨⟨i,d,Z⟩,-⟩:=Aa (Bi (x:=.slice K N J) (y:=.slice F N I) (z:=.slice D N C) (L.AA _ B.AA).1);exact Au (v:=.agg #[.slice K N J,.slice F N I,.slice D N C]) (by simp[results,Tryz.results123,go_sem,i,d,Z]) rfl (HF.AA _ B.AA N Y.AA _ _ _ _ _ _ p.AA)
 .go_wp2_with (first|(go_at_call 68;refine(a3.AA _ _ u.AA).mono ?_;rintro e w3 ⟨r,rfl,hr,V⟩;have X:=AB (u.AA.tr V);have a9:r<10:=(by omega);clear hr V)|(go_at_call 183;refine(Yr r a9 _).mono ?_;intro e w6 U;obtain⟨N,K,F,D,J,I,C,O,rfl,Q,R⟩:=EW.JO X.AA U;have Y:=AB O;have B:=AB R;have p:=AB Q;obtain⟨⟨e0,e1,e2⟩,f0,f1,f2⟩:=Aa (L.AA _ B.AA).1;have a0:=(L.AA _ B.AA).2;clear U O Q R));obtain⟨⟨i,d,Z⟩,-⟩:=Aa (Bi (x:=.slice K N J) (y:=.slice F N I) (z:=.slice D N C) (L.AA _ B.AA).1);exact Au (v:=.agg #[.slice K N J,.slice F N I,.slice D N C]) (by simp[results,Tryz.results123,go_sem,i,d,Z]) rfl (HF.AA _ B.AA N Y.AA _ _ _ _ _ _ p.AA)
end MB
end Go.Proofs.YtgjadpmbnejaoaaGreat
