import Derived.Test.YtaadbccidfdniaaGreatZ0
import Derived.Test.YtaadbccidfdniaaGreatZg
import Derived.Test.YtaadbccidfdniaaGreatZi
import Derived.Deep.AppendLies
/-
  Lemmas for the law FnCopies, in short spelling.
-/
open Go.Lib (hid)
set_option linter.unusedVariables false
set_option linter.unusedSimpArgs false
set_option maxRecDepth 100000
set_option maxHeartbeats 40000000
namespace Go.Proofs.YtaadbccidfdniaaGreat.O9
open Go.RowKit Go.Proofs.YtaadbccidfdniaaGreat AB Dp Cn Dm Df Cc NC Gl Ue Rz
theorem pM (w:World)(o:Obj)(g i:Nat)(u:Value)(h:g<w.heap.size):(w.alloc o).setCell ⟨g,i,none⟩ u=(w.setCell ⟨g,i,none⟩ u).alloc o:=by
 unfold World.setCell World.alloc;simp only[World.mk.injEq,and_true,true_and];apply Array.ext
 ·simp
 ·intro k h1 h2;simp only[Array.getElem_modify,Array.getElem_push];by_cases hk:k<w.heap.size
  ·by_cases hg:g=k<;>simp[hk,hg,Array.size_modify]
  ·have hg:g≠k:=by omega
   simp[hk,hg,Array.size_modify]
theorem AHQ (n:Int)(h:n≤1)(w:World)(g:Nat):Calls Tryz.prog 27 #[.pointer (some ⟨g,0,none⟩),.int .i64 n] w fun e w'=>e= .returned (.int .i64 0)∧w'=w:=by
 go_enter Tryz.func27,Tryz.ntmps27;go_wp2_with fail;go_ret;exact⟨rfl,rfl⟩
def AEY (b g:Nat)(a:Option Addr)(len cap:Nat)(w:World)(e:Ending)(w':World):Prop:=∃(N:Nat) (x1 x2 x3:Option Addr) (y1 y2 y3:Nat),N≤b∧e= .returned (.agg #[.slice x1 N y1,.slice x2 N y2,.slice x3 N y3])∧PT w.heap.size w' N (.slice x1 N y1) (.slice x2 N y2) (.slice x3 N y3)∧Cn.Src w' g a len cap∧w.grownBy w' (some g)
theorem ABc {w w':World}{r:Option Nat}(h:Below w.heap.size w w'):w.grownBy w' r:=⟨h.os,h.tape,h.output,h.size,fun k hk _=>h.block k hk⟩
theorem Q3 {w w':World}{S:Nat→Prop}{g:Nat}{a:Option Addr}{len cap:Nat}(h:Cn.Src w g a len cap)(hk:AA S w w')(hS:S g):Cn.Src w' g a len cap:=by
 obtain⟨k,s,h1,h2,h3,h4⟩:=h;exact⟨k,s,(hk.block g hS (Ba.1 h1).1).trans h1,h2,h3,h4⟩
theorem X0 {w w':World}{r:Option Nat}(h:w.drew.grownBy w' r):w.grownBy w' r:=⟨h.os,h.tape,h.output,h.size,h.block⟩
theorem Ty.gr {B g:Nat}{w w':World}(h:w.grownBy w' (some g))(hg:g<B):Ty B w w':=Ty.keep (S:=fun k=>B≤k) (AA.grown h fun k hk e=>by injection e with e;omega) fun _ h=>h
theorem Qx {B N gp i g:Nat}{w w':World}(h:Slot B N w gp i)(hg:w.grownBy w' (some g))(hb:g<B):Slot B N w' gp i:=by
 obtain⟨h1,h2,h3,cur,u0,h4,h5,h6⟩:=h;have hgg:=(hg.block gp h3 (fun e=>by injection e with e;omega)).trans h4;exact⟨BQ w' gp i cur _ hgg,h2,Ai h3 hg.size,cur,u0,hgg,h5,(Ty.gr hg hb).one _ _ h6⟩
theorem JO {B n gx g:Nat}{w w':World}{vO vP vC:Value}(h:PX B n w gx vO vP vC)(hg:w.grownBy w' (some g))(hb:g<B):PX B n w' gx vO vP vC:=
 ⟨(hg.block gx h.lt (fun e=>by injection e with e;have:=h.2.1;omega)).trans h.1,h.2.1,h.2.2.ty (Ty.gr hg hb)⟩
theorem ACp {gp g:Nat}{wr w':World}(h:AA (fun k=>k≠gp∧k≠g) wr w'):(∀b o,b<wr.heap.size→¬b=gp→¬b=g→w'.cell? ⟨b,o,none⟩=wr.cell? ⟨b,o,none⟩)∧AA (fun k=>k≠gp∧k≠g) wr w':=⟨fun b o hb h1 h2=>h.cell ⟨h1,h2⟩ hb,h⟩
theorem Yf {gp g:Nat}{w w':World}(h:w.grownBy w' (some g)):AA (fun k=>k≠gp∧k≠g) w w':=AA.grown h fun k hk e=>hk.2 (by injection e)
theorem rQ {B:Nat}(w:World)(x y z:Int)(hB:B≤w.heap.size):R1 B (w.alloc (.cells #[.int .i64 x,.int .i64 y,.int .i64 z] 2)) 3 (.slice (some ⟨w.heap.size,0,none⟩) 3 3):=
 ⟨[x,y,z],rfl,Q0 w _ [x,y,z] hB (by simp[maxLen]) rfl⟩
theorem ACq {w w6:World}{g gp i:Nat}{o:Obj}{u:Value}(h:w.grownBy w6 (some g))(hk:AA (fun k=>k≠gp) w6 ((w6.alloc o).setCell ⟨gp,i,none⟩ u))(hg:w.heap.size≤gp):w.grownBy ((w6.alloc o).setCell ⟨gp,i,none⟩ u) (some g):=
 ⟨h.os,h.tape,h.output,Ad h.size hk.size,fun k hk1 hk2=>(hk.block k (by omega) (Ai hk1 h.size)).trans (h.block k hk1 hk2)⟩
theorem ACF {b N g gx len cap y1 y2 y3:Nat}{a x1 x2 x3:Option Addr}{w wr:World}(hN:N≤b)(hX:PX (w.heap.size+1) N wr gx (.slice x1 N y1) (.slice x2 N y2) (.slice x3 N y3))(hs:Cn.Src wr g a len cap)(hg:g<w.heap.size)(hb:w.grownBy wr (some g))(hsz:w.heap.size+1≤wr.heap.size):
  AEY b g a len cap w (.returned (.agg #[.slice x1 N y1,.slice x2 N y2,.slice x3 N y3])) (((wr.setCell ⟨w.heap.size,0,none⟩ (.slice x1 N y1)).setCell ⟨w.heap.size,1,none⟩ (.slice x2 N y2)).setCell ⟨w.heap.size,2,none⟩ (.slice x3 N y3)):=by
 have hk:AA (fun k=>k≠w.heap.size) wr (((wr.setCell ⟨w.heap.size,0,none⟩ (.slice x1 N y1)).setCell ⟨w.heap.size,1,none⟩ (.slice x2 N y2)).setCell ⟨w.heap.size,2,none⟩ (.slice x3 N y3)):=
  (((AA.refl _ wr).setCell (by simp) _).setCell (by simp) _).setCell (by simp) _
 refine⟨N,x1,x2,x3,y1,y2,y3,hN,rfl,?_,Q3 hs hk (by omega),?_⟩
 ·exact((hX.2.2.ty (Ty.keep hk fun k h=>by omega))).mono (by omega)
 ·refine⟨hb.os,hb.tape,hb.output,by simpa using hb.size,fun k hk1 hk2=>?_⟩;exact(hk.block k (by omega) (Ai hk1 hb.size)).trans (hb.block k hk1 hk2)
theorem AIf (q:Nat)(hq:2≤q∧q≤7)(w:World)(g:Nat)(a:Option Addr)(len cap:Nat)(hS:Cn.Src w g a len cap)(hR:Rd w g a len):
  Calls Tryz.prog 102 #[.pointer (some ⟨g,0,none⟩),.int .i64 (q:Int)] w (AEY 12 g a len cap w):=by
 have HQ:=hid hq;have HS:=hid hS;have HR:=hid hR;have hgw:=Cn.Src.lt hS;clear hq hS hR;go_enter Tryz.func102,Tryz.ntmps102;go_upto_region 1 with fail;obtain⟨w1,hw1⟩:∃w1,w1=w.alloc CG:=⟨_,rfl⟩;rw[←hw1];have K1:=hid (show w1.heap[w.heap.size]?=some CG by rw[hw1];exact BA _ _);have HB1:=hid (show Below w.heap.size w w1 by rw[hw1];exact AX.alloc AR _);have BI:=hid (show w1.heap.size=w.heap.size+1 by rw[hw1];simp);clear hw1;have HL:=hid (show AL Any (w1.alloc (.cells #[.int .i64 (q:Int),.int .i64 (q:Int),.int .i64 (q:Int)] 2)) (.slice (some ⟨w1.heap.size,0,none⟩) 3 3) [(q:Int),(q:Int),(q:Int)] from
  LM (Q0 (B:=0) w1 _ [(q:Int),(q:Int),(q:Int)] (AU _) (by simp[maxLen]) rfl) rfl)
 go_wp2_with fail;refine(YK 3 (by omega) _ rfl _ _ HL.out).mono ?_;rintro e w6 ⟨x1,y1,x2,y2,x3,y3,rfl,I4,hb6⟩;go_upto_region 2 with fail;obtain⟨gx,uG⟩:∃gx,w6.heap.size=gx:=⟨_,rfl⟩;obtain⟨wb,hwb⟩:∃wb,wb=w6.alloc (.cells #[.slice x1 3 y1,.slice x2 3 y2,.slice x3 3 y3] 28):=⟨_,rfl⟩;have HX0:=hid (show PX (w.heap.size+1) 3 wb gx (.slice x1 3 y1) (.slice x2 3 y2) (.slice x3 3 y3) by rw[hwb,←uG];exact MW I4 (by have:=BI.out;simp;omega) (by have:=BI.out;have:=hb6.size;simp at this;omega));have L8:=hid (show Below (w.heap.size+1) w1 wb by rw[hwb];exact(((A7 _ w1).alloc (by have:=BI.out;omega) _).trans (hb6.mono (by have:=BI.out;simp;omega))).alloc (by have:=BI.out;have:=hb6.size;simp at this;omega) _);rw[←hwb,uG];clear hwb uG I4 hb6 HL;have HWB:=hid (HB1.out.trans (L8.out.mono (by omega)));have KB:=hid (Ea L8.out (by omega) K1.out);have PD:=hid (show w.heap.size+1≤wb.heap.size by have:=L8.out.size;have:=BI.out;omega);clear HB1 L8 K1 BI;obtain⟨⟨p0,p1,p2⟩,-⟩:=AV HX0.out.1;obtain⟨gc,gr,yr,rfl,hc1,hc2,hsl⟩:=HX0.out.Vv (i:=0) (j:=0) (by omega) (by omega);have hfs:=hsl.1;obtain⟨us,ES⟩:=hsl.cell;have AEZ:=hsl.2.2.1;have Ay:=hid hsl;clear hsl;go_upto_region 3 with fail;have B2:Below wb.heap.size wb (wb.alloc (.cells #[.int .i64 0,.int .i64 1,.int .i64 1] 2)):=AX.alloc AR _;obtain⟨wr,hwr⟩:∃wr,wr=(wb.alloc (.cells #[.int .i64 0,.int .i64 1,.int .i64 1] 2)).setCell ⟨gr,0,none⟩ (.slice (some ⟨wb.heap.size,0,none⟩) 3 3):=⟨_,rfl⟩;have HX:=hid (show PX (w.heap.size+1) 3 wr gx (.slice x1 3 y1) (.slice x2 3 y2) (.slice (some ⟨gc,0,none⟩) 3 y3) by
  rw[hwr];exact(Ay.out.below B2).put (HX0.out.below B2) (rQ wb 0 1 1 PD.out))
 have A9:=hid (show Below w.heap.size w wr by rw[hwr];exact(HWB.out.trans (B2.mono (by have:=PD.out;omega))).setCell (p:=⟨gr,0,none⟩) (by have:=Ay.out.2.1;simp;omega) _);have KR:=hid (show wr.heap[w.heap.size]?=some CG by
  rw[hwr,GR _ ⟨gr,0,none⟩ _ _ (by have:=Ay.out.2.1;simp;omega),E5 _ _ _ (by have:=PD.out;omega)];exact KB.out)
 rw[pM _ _ _ _ _ AEZ]at hwr;rw[←hwr];have I6:=hid (Q3 HS.out (AA.of_below (S:=Any) A9.out) trivial);have HRR:=hid (HR.out.keep (AA.of_below A9.out));have HSW:w.heap.size+1≤wr.heap.size:=by rw[hwr];have:=PD.out;simp;omega
 clear hwr B2 hfs ES AEZ Ay HX0 p0 p1 p2 hc1 hc2 KB HWB;have Gi:=hid (ABc (r:=some g) A9.out);have Bv:=hid (show w.heap.size+1≤wr.heap.size from HSW);clear A9;have QU:=hid (fE 2 (by omega) (by omega) wr g a len cap I6.out HRR.out);go_wp2_with fail;refine QU.out.mono ?_;rintro e w7 ⟨r,rfl,hr,XH,Fp⟩;have DX:=hid (JO HX.out Fp (by omega));have Uj:=hid (TS Gi.out Fp);have ET:=hid XH;have HZ7:=hid (show w.heap.size+1≤w7.heap.size from Ad Bv.out Fp.size);have KR7:=hid ((Fp.block _ (by have:=Bv.out;omega) (fun e=>by injection e with e;omega)).trans KR.out);have QS:=hid (HR.out.grown Uj.out);clear HX Gi I6 Bv KR HRR Fp XH QU;have HX:=DX;have Gi:=Uj;have I6:=ET;have Bv:=HZ7;have KR:=KR7;have HRR:=QS;clear DX Uj ET HZ7 KR7 QS;by_cases hr0:r=0
 ·subst hr0;go_wp2_with fail;obtain⟨wr,hwr⟩:∃wr,w7=wr:=⟨_,rfl⟩;rw[hwr]at HX Gi I6 Bv KR HRR ⊢;clear hwr;obtain⟨⟨p0,p1,p2⟩,-⟩:=AV HX.out.1;have hbx:=HX.out.1;have hgx:=HX.out.lt;have Tk:some gx≠some g:=fun e=>by injection e with e;have:=HX.out.2.1;omega
  obtain⟨gp,rfl,hsl⟩:=HX.out.Py (i:=0) (by omega);have Lg:g<w.heap.size+1:=by omega
  have uH:¬gx=g:=fun e=>Tk (by rw[e]);have DW:=RG hsl HX.out;have Y6:¬gp=g:=by have:=hsl.2.1;omega
  have FH:=hid (fun(W:World) (hk:AA Any wr W)=>fE q HQ.out.1 (by have:=HQ.out.2;omega) W g a len cap (Q3 I6.out hk trivial) (Rd.keep HRR.out (hk.mono fun _ _=>trivial)));go_upto_region 4 with fail;go_region_held3 (fun w'=>(∀b o,b<wr.heap.size→¬b=gp→¬b=g→w'.cell? ⟨b,o,none⟩=wr.cell? ⟨b,o,none⟩)∧AA (fun k=>k≠gp∧k≠g) wr w')
   (first|exact ACp (by repeat(first|exact AJ.drew|exact AA.refl _ _|exact Yf (by assumption)|refine AA.drew ?_|refine AA.alloc ?_ _|refine AA.setCell ?_ (by simp) _|refine AA.trans ?_ (Yf (by assumption)))))
   (first|(go_at_call 27;refine(FH.out _ (by repeat(first|exact AJ.drew|exact AA.refl _ _|refine AA.drew ?_|refine AA.trans ?_ (AA.of_below (by assumption))))).mono ?_;rintro e w6 ⟨r,rfl,hr,NG,Tm⟩;have CX:wr.grownBy w6 (some g):=(by first|exact Tm|exact X0 Tm);have x0:=(AV ((CX.block gx hgx Tk).trans hbx)).1.2.1;have f6:=(Qx hsl CX Lg).1;obtain⟨u6,s6⟩:=(Qx hsl CX Lg).cell;have Gj:=(Qx hsl CX Lg).2.2.1)|fail)
  rename_i hHd;clear hHd;have EP:=hid (show PX (w.heap.size+1) 3 ((w6.alloc (.cells #[.int .i64 0,.int .i64 0,.int .i64 (r:Int)] 2)).setCell ⟨gp,0,none⟩ (.slice (some ⟨w6.heap.size,0,none⟩) 3 3)) gx (.slice x1 3 y1) (.slice (some ⟨gp,0,none⟩) 3 y2) (.slice (some ⟨gc,0,none⟩) 3 y3) from
   ((Qx hsl CX Lg).below (AX.alloc AR _)).put ((JO HX.out CX Lg).below (AX.alloc AR _)) (rQ w6 0 0 (r:Int) (by have:=Bv.out;have:=CX.size;omega)))
  have MF:AA (fun k=>k≠gp) w6 ((w6.alloc (.cells #[.int .i64 0,.int .i64 0,.int .i64 (r:Int)] 2)).setCell ⟨gp,0,none⟩ (.slice (some ⟨w6.heap.size,0,none⟩) 3 3)):=(AJ.alloc _).setCell (by simp) _;have Tn:=hid (Q3 NG MF (fun e=>Y6 e.symm));have QV:=hid (show w.grownBy ((w6.alloc (.cells #[.int .i64 0,.int .i64 0,.int .i64 (r:Int)] 2)).setCell ⟨gp,0,none⟩ (.slice (some ⟨w6.heap.size,0,none⟩) 3 3)) (some g) from
   ACq (TS Gi.out CX) MF (by have:=hsl.2.1;omega))
  have Tp:=hid (show w.heap.size+1≤((w6.alloc (.cells #[.int .i64 0,.int .i64 0,.int .i64 (r:Int)] 2)).setCell ⟨gp,0,none⟩ (.slice (some ⟨w6.heap.size,0,none⟩) 3 3)).heap.size from by have:=Bv.out;have:=CX.size;simp at this ⊢; omega);have Ul:=hid (show((w6.alloc (.cells #[.int .i64 0,.int .i64 0,.int .i64 (r:Int)] 2)).setCell ⟨gp,0,none⟩ (.slice (some ⟨w6.heap.size,0,none⟩) 3 3)).heap[w.heap.size]?=some CG from
   (MF.block _ (by have:=hsl.2.1;omega) (by have:=Bv.out;have:=CX.size;omega)).trans ((CX.block _ (by have:=Bv.out;first|omega|(simp;omega)) (fun e=>by injection e with e;omega)).trans KR.out))
  have Tq:=hid (HR.out.grown QV.out);obtain⟨w8,hw8⟩:∃w8,(w6.alloc (.cells #[.int .i64 0,.int .i64 0,.int .i64 (r:Int)] 2)).setCell ⟨gp,0,none⟩ (.slice (some ⟨w6.heap.size,0,none⟩) 3 3)=w8:=⟨_,rfl⟩;rw[hw8]at EP Tn QV Tp Ul Tq;rw[pM _ _ _ _ _ Gj]at hw8;rw[hw8];clear hw8 MF HX I6 Gi Bv KR HRR hsl CX Tm NG x0 f6 s6 Gj FH p0 p1 p2 hbx hgx Tk uH Y6 DW Lg;have HX:=EP;have I6:=Tn;have Gi:=QV;have Bv:=Tp;have KR:=Ul;have HRR:=Tq;clear EP Tn QV Tp Ul Tq;obtain⟨wr,hwr⟩:∃wr,w8=wr:=⟨_,rfl⟩;rw[hwr]at HX Gi I6 Bv KR HRR ⊢;clear hwr;obtain⟨⟨p0,p1,p2⟩,-⟩:=AV HX.out.1;have hbx:=HX.out.1;have hgx:=HX.out.lt;have Tk:some gx≠some g:=fun e=>by injection e with e;have:=HX.out.2.1;omega
  obtain⟨gp',AEa,hsl⟩:=HX.out.Py (i:=1) (by omega);obtain rfl:gp=gp':=by simpa using AEa
  clear AEa;have Lg:g<w.heap.size+1:=by omega
  have uH:¬gx=g:=fun e=>Tk (by rw[e]);have DW:=RG hsl HX.out;have Y6:¬gp=g:=by have:=hsl.2.1;omega
  have FH:=hid (fun(W:World) (hk:AA Any wr W)=>fE q HQ.out.1 (by have:=HQ.out.2;omega) W g a len cap (Q3 I6.out hk trivial) (Rd.keep HRR.out (hk.mono fun _ _=>trivial)));go_upto_region 5 with fail;go_region_held3 (fun w'=>(∀b o,b<wr.heap.size→¬b=gp→¬b=g→w'.cell? ⟨b,o,none⟩=wr.cell? ⟨b,o,none⟩)∧AA (fun k=>k≠gp∧k≠g) wr w')
   (first|exact ACp (by repeat(first|exact AJ.drew|exact AA.refl _ _|exact Yf (by assumption)|refine AA.drew ?_|refine AA.alloc ?_ _|refine AA.setCell ?_ (by simp) _|refine AA.trans ?_ (Yf (by assumption)))))
   (first|(go_at_call 27;refine(FH.out _ (by repeat(first|exact AJ.drew|exact AA.refl _ _|refine AA.drew ?_|refine AA.trans ?_ (AA.of_below (by assumption))))).mono ?_;rintro e w6 ⟨r,rfl,hr,NG,Tm⟩;have CX:wr.grownBy w6 (some g):=(by first|exact Tm|exact X0 Tm);have x0:=(AV ((CX.block gx hgx Tk).trans hbx)).1.2.1;have f6:=(Qx hsl CX Lg).1;obtain⟨u6,s6⟩:=(Qx hsl CX Lg).cell;have Gj:=(Qx hsl CX Lg).2.2.1)|fail)
  rename_i hHd;clear hHd;have EP:=hid (show PX (w.heap.size+1) 3 ((w6.alloc (.cells #[.int .i64 0,.int .i64 0,.int .i64 (r:Int)] 2)).setCell ⟨gp,1,none⟩ (.slice (some ⟨w6.heap.size,0,none⟩) 3 3)) gx (.slice x1 3 y1) (.slice (some ⟨gp,0,none⟩) 3 y2) (.slice (some ⟨gc,0,none⟩) 3 y3) from
   ((Qx hsl CX Lg).below (AX.alloc AR _)).put ((JO HX.out CX Lg).below (AX.alloc AR _)) (rQ w6 0 0 (r:Int) (by have:=Bv.out;have:=CX.size;omega)))
  have MF:AA (fun k=>k≠gp) w6 ((w6.alloc (.cells #[.int .i64 0,.int .i64 0,.int .i64 (r:Int)] 2)).setCell ⟨gp,1,none⟩ (.slice (some ⟨w6.heap.size,0,none⟩) 3 3)):=(AJ.alloc _).setCell (by simp) _;have Tn:=hid (Q3 NG MF (fun e=>Y6 e.symm));have QV:=hid (show w.grownBy ((w6.alloc (.cells #[.int .i64 0,.int .i64 0,.int .i64 (r:Int)] 2)).setCell ⟨gp,1,none⟩ (.slice (some ⟨w6.heap.size,0,none⟩) 3 3)) (some g) from
   ACq (TS Gi.out CX) MF (by have:=hsl.2.1;omega))
  have Tp:=hid (show w.heap.size+1≤((w6.alloc (.cells #[.int .i64 0,.int .i64 0,.int .i64 (r:Int)] 2)).setCell ⟨gp,1,none⟩ (.slice (some ⟨w6.heap.size,0,none⟩) 3 3)).heap.size from by have:=Bv.out;have:=CX.size;simp at this ⊢; omega);have Ul:=hid (show((w6.alloc (.cells #[.int .i64 0,.int .i64 0,.int .i64 (r:Int)] 2)).setCell ⟨gp,1,none⟩ (.slice (some ⟨w6.heap.size,0,none⟩) 3 3)).heap[w.heap.size]?=some CG from
   (MF.block _ (by have:=hsl.2.1;omega) (by have:=Bv.out;have:=CX.size;omega)).trans ((CX.block _ (by have:=Bv.out;first|omega|(simp;omega)) (fun e=>by injection e with e;omega)).trans KR.out))
  have Tq:=hid (HR.out.grown QV.out);obtain⟨w8,hw8⟩:∃w8,(w6.alloc (.cells #[.int .i64 0,.int .i64 0,.int .i64 (r:Int)] 2)).setCell ⟨gp,1,none⟩ (.slice (some ⟨w6.heap.size,0,none⟩) 3 3)=w8:=⟨_,rfl⟩;rw[hw8]at EP Tn QV Tp Ul Tq;rw[pM _ _ _ _ _ Gj]at hw8;rw[hw8];clear hw8 MF HX I6 Gi Bv KR HRR hsl CX Tm NG x0 f6 s6 Gj FH p0 p1 p2 hbx hgx Tk uH Y6 DW Lg;have HX:=EP;have I6:=Tn;have Gi:=QV;have Bv:=Tp;have KR:=Ul;have HRR:=Tq;clear EP Tn QV Tp Ul Tq;obtain⟨⟨e0,e1,e2⟩,-⟩:=AV HX.out.1;obtain⟨⟨f0,f1,f2⟩,q0,q1,q2⟩:=AV KR.out;have Ii:=hid (ACF (b:=12) (by omega) HX.out I6.out hgw Gi.out Bv.out);clear HX I6 Gi Bv;go_wp2_with fail;obtain⟨⟨z0,z1,z2⟩,-⟩:=AV (BZ (x:=.slice x1 3 y1) (y:=.slice (some ⟨gp,0,none⟩) 3 y2) (z:=.slice (some ⟨gc,0,none⟩) 3 y3) KR.out);exact Aj (v:=.agg #[.slice x1 3 y1,.slice (some ⟨gp,0,none⟩) 3 y2,.slice (some ⟨gc,0,none⟩) 3 y3]) (by simp[results,Tryz.results102,go_sem,z0,z1,z2]) rfl Ii.out
 ·have Wu:((r:Int)==0)=false:=by simp;omega
  obtain⟨⟨e0,e1,e2⟩,-⟩:=AV HX.out.1;obtain⟨⟨f0,f1,f2⟩,q0,q1,q2⟩:=AV KR.out;have Ii:=hid (ACF (b:=12) (by omega) HX.out I6.out hgw Gi.out Bv.out);clear HX I6 Gi Bv;go_wp2_with fail;obtain⟨⟨z0,z1,z2⟩,-⟩:=AV (BZ (x:=.slice x1 3 y1) (y:=.slice x2 3 y2) (z:=.slice (some ⟨gc,0,none⟩) 3 y3) KR.out);exact Aj (v:=.agg #[.slice x1 3 y1,.slice x2 3 y2,.slice (some ⟨gc,0,none⟩) 3 y3]) (by simp[results,Tryz.results102,go_sem,z0,z1,z2]) rfl Ii.out
end Go.Proofs.YtaadbccidfdniaaGreat.O9
namespace Go.Proofs.YtaadbccidfdniaaGreat.QW
open Go.RowKit Go.Proofs.YtaadbccidfdniaaGreat AB Dp Cn Dm Df Cc Gl Rz yC mE O9 O7
open Go.Proofs.YtaadbccidfdniaaGreat.XA (Ty.box Ty.Kn)
def Sr (g:Nat)(a:Option Addr)(len cap:Nat)(w W:World):Prop:=Cn.Src W g a len cap∧Rd W g a len∧w.grownBy W (some g)
theorem Sr.drew {g len cap:Nat}{a:Option Addr}{w W:World}(h:Sr g a len cap w W):Sr g a len cap w W.drew:=⟨h.1,h.2.1,VX h.2.2⟩
theorem Sr.next {g len cap:Nat}{a:Option Addr}{w W W':World}(h:Sr g a len cap w W)(hS:Cn.Src W' g a len cap)(hg:W.grownBy W' (some g)):Sr g a len cap w W':=⟨hS,h.2.1.grown hg,TS h.2.2 hg⟩
theorem Sr.tr {g len cap:Nat}{a:Option Addr}{w W W':World}(h:Sr g a len cap w W)(h':Sr g a len cap W W'):Sr g a len cap w W':=⟨h'.1,h'.2.1,TS h.2.2 h'.2.2⟩
theorem Sr.lt {g len cap:Nat}{a:Option Addr}{w W:World}(h:Sr g a len cap w W):g<W.heap.size:=h.1.lt
theorem Sr.below {g len cap:Nat}{a:Option Addr}{w W W':World}(h:Sr g a len cap w W)(hb:Below W.heap.size W W'):Sr g a len cap w W':=
 h.next (Q3 h.1 (AA.of_below (S:=Any) hb) trivial) (ABc hb)
theorem Sr.alloc {g len cap:Nat}{a:Option Addr}{w W:World}(h:Sr g a len cap w W)(o:Obj):Sr g a len cap w (W.alloc o):=h.below (AX.alloc AR _)
theorem Sr.ha {g len cap:Nat}{a:Option Addr}{w W:World}(h:Sr g a len cap w W)(q o:Nat)(hl:0<len)(e:a=some ⟨q,o,none⟩):q<W.heap.size:=by
 obtain⟨q',o',z,h1,h2,h3,h4⟩:=h.2.1 0 hl;rw[e]at h1;injection h1 with h1;injection h1 with h1;omega
theorem Sr.own {g len cap:Nat}{a:Option Addr}{r:Option Nat}{w W W':World}(h:Sr g a len cap w W)(hw:Sr g a len cap w w)(h':W.grownBy W' r)(hr:∀k,r=some k→w.heap.size≤k):Sr g a len cap w W':=by
 have hk:AA (fun k=>k<w.heap.size) W W':=AA.grown h' fun k hk e=>by have:=hr k e.symm;omega
 refine⟨Q3 h.1 hk hw.lt,fun k hk'=>?_,⟨h'.os.trans h.2.2.os,h'.tape.trans h.2.2.tape,h'.output.trans h.2.2.output,Ad h.2.2.size h'.size,fun j hj hne=>(hk.block j hj (Ai hj h.2.2.size)).trans (h.2.2.block j hj hne)⟩⟩;obtain⟨q,o,z,h1,h2,h3,h4,h5⟩:=h.2.1 k hk';exact⟨q,o,z,h1,h2,Ai h3 h'.size,(hk.cell (hw.ha q o (by omega) h1) h3).trans h4,h5⟩
theorem Sr.set {g len cap b i:Nat}{a:Option Addr}{w W:World}(h:Sr g a len cap w W)(hw:Sr g a len cap w w)(hb:w.heap.size≤b)(u:Value):Sr g a len cap w (W.setCell ⟨b,i,none⟩ u):=
 h.own hw (rM (g:=b) (VW W _) u) fun k e=>by injection e with e;omega
theorem Sr.Tt {g len cap b:Nat}{a:Option Addr}{w W:World}(h:Sr g a len cap w W)(hw:Sr g a len cap w w)(hb:w.heap.size≤b)(x y z:Value):Sr g a len cap w (((W.setCell ⟨b,0,none⟩ x).setCell ⟨b,1,none⟩ y).setCell ⟨b,2,none⟩ z):=
 ((h.set hw hb x).set hw hb y).set hw hb z
def NxS (x:Int)(g:Nat)(a:Option Addr)(len cap:Nat)(W:World)(e:Ending)(W':World):Prop:=∃r:Nat,e= .returned (.int .i64 (r:Int))∧((2≤x∧(r:Int)<x)∨(x<2∧r=0))∧Sr g a len cap W W'
theorem Ma (x:Int)(g:Nat)(a:Option Addr)(len cap:Nat)(w W:World)(h:Sr g a len cap w W):
  Calls Tryz.prog 27 #[.pointer (some ⟨g,0,none⟩),.int .i64 x] W (NxS x g a len cap W):=by
 by_cases h2:2≤x
 ·obtain⟨n,rfl⟩:∃n:Nat,x=n:=⟨x.toNat,by omega⟩;refine(Cn.ACi n (by omega) W g a len cap h.1 h.2.1).mono ?_;rintro e W' ⟨r,rfl,hr,hS,hg⟩;exact⟨r,rfl,.inl ⟨h2,by omega⟩,hS,h.2.1.grown hg,hg⟩
 ·refine(AHQ x (by omega) W g).mono ?_;rintro e W' ⟨rfl,rfl⟩;exact⟨0,rfl,.inr ⟨by omega,rfl⟩,h.1,h.2.1,VW _ _⟩
def PkS (L:List Int)(g:Nat)(a:Option Addr)(len cap:Nat)(W:World)(e:Ending)(W':World):Prop:=∃x:Int,x∈L∧e= .returned (.int .i64 x)∧Sr g a len cap W W'
theorem YM (L:List Int)(m:Nat)(hm:L.length=m)(hm2:2≤m)(lD:m≤12)(g:Nat)(a:Option Addr)(len cap:Nat)(w W:World)(h:Sr g a len cap w W):
  Calls Tryz.prog 15 #[.pointer (some ⟨g,0,none⟩),.slice (some ⟨W.heap.size,0,none⟩) m m] (W.alloc (.cells (L.map (Value.int .i64)).toArray 2)) (PkS L g a len cap (W.alloc (.cells (L.map (Value.int .i64)).toArray 2))):=by
 subst hm;have h':=h.alloc (.cells (L.map (Value.int .i64)).toArray 2);refine(ABU L _ rfl hm2 lD _ W.heap.size g a len cap (ACj h.lt (by omega)) h'.1 h'.2.1).mono ?_;rintro e W' ⟨x,hx,rfl,hS,hg⟩;exact⟨x,hx,rfl,hS,h'.2.1.grown hg,hg⟩
def GI (b:Nat)(w:World)(e:Ending)(w':World):Prop:=∃(N:Nat) (x1 x2 x3:Option Addr) (y1 y2 y3:Nat),N≤b∧e= .returned (.agg #[.slice x1 N y1,.slice x2 N y2,.slice x3 N y3])∧PT w.heap.size w' N (.slice x1 N y1) (.slice x2 N y2) (.slice x3 N y3)∧Below w.heap.size w w'
theorem LV.un {N b:Nat}{w w':World}{e:Ending}(h:LV N w e w')(hN:N≤b):GI b w e w':=by
 obtain⟨vO,vP,vC,rfl,hp,hb⟩:=h;obtain⟨x1,y1,x2,y2,x3,y3,rfl,rfl,rfl⟩:=hp.form;exact⟨N,_,_,_,_,_,_,hN,rfl,hp,hb⟩
theorem Te.un {b:Nat}{w w':World}{e:Ending}(h:Te b w e w'):GI b w e w':=by
 obtain⟨N,hN,h⟩:=h;exact LV.un h hN
theorem iI (L:List Int)(m:Nat)(hm:L.length=m)(h12:m≤12)(w:World):Calls Tryz.prog 61 #[.slice (some ⟨w.heap.size,0,none⟩) m m] (w.alloc (.cells (L.map (Value.int .i64)).toArray 2)) (GI 12 (w.alloc (.cells (L.map (Value.int .i64)).toArray 2))):=by
 subst hm;refine(fH L _ _ (Gl.LM (Q0 (B:=0) w _ L (AU _) (by unfold maxLen;omega) (by simp[vals])) rfl) (by omega)).mono ?_;exact fun e w' h=>LV.un h h12
theorem ACG (k:Nat)(hk:k<10)(w:World):Calls Tryz.prog 104 #[.int .i64 (k:Int)] w (GI 12 w):=by
 obtain⟨w1,hw1⟩:∃w1,w1=w.alloc CG:=⟨_,rfl⟩;obtain⟨g0,hg0⟩:∃g0,w.heap.size=g0:=⟨_,rfl⟩;have HB1:=hid (show Below w.heap.size w w1 by rw[hw1];exact AX.alloc AR _);have BI:=hid (show w1.heap.size=g0+1 by rw[hw1,←hg0];simp);have HR:=hid (fun(W:World) (hb:Below w1.heap.size w1 W)=>show W.heap[g0]?=some CG∧g0<W.heap.size from
  ⟨(hb.block g0 (by rw[BI.out];omega)).trans (by rw[hw1,←hg0];exact BA _ _),by have:=hb.size;rw[BI.out]at this;omega⟩)
 have HG:=hid hg0;have HF:=hid (fun(W:World) (hb:Below w1.heap.size w1 W) (N:Nat) (hN:N≤12) (x1 x2 x3:Option Addr) (y1 y2 y3:Nat) (hP:PT w1.heap.size W N (.slice x1 N y1) (.slice x2 N y2) (.slice x3 N y3))=>show GI 12 w (.returned (.agg #[.slice x1 N y1,.slice x2 N y2,.slice x3 N y3])) (((W.setCell ⟨g0,0,none⟩ (.slice x1 N y1)).setCell ⟨g0,1,none⟩ (.slice x2 N y2)).setCell ⟨g0,2,none⟩ (.slice x3 N y3)) from
  ⟨N,_,_,_,_,_,_,hN,rfl,(hP.ty (Ty.Kn (HR.out W hb).1)).mono HB1.out.size,YL (HB1.out.trans (hb.mono HB1.out.size)) (Nat.le_of_eq HG.out) _ _ _⟩)
 have HT1:=hid (fun(W:World)=>show Calls Tryz.prog 61 #[.slice (some ⟨W.heap.size,0,none⟩) 1 1] (W.alloc (.cells #[.int .i64 2] 2)) (GI 12 (W.alloc (.cells #[.int .i64 2] 2))) from iI [2] 1 rfl (by omega) W);have hk:k=0∨k=1∨k=2∨k=3∨k=4∨k=5∨k=6∨k=7∨k=8∨k=9:=by omega
 have HW:=hid (And.intro hw1 hg0);clear hw1 hg0;rcases hk with rfl|rfl|rfl|rfl|rfl|rfl|rfl|rfl|rfl|rfl;all_goals
  go_enter Tryz.func104,Tryz.ntmps104;go_upto_region 1 with fail;rw[←HW.out.1,HW.out.2];go_upto_region 3 with(go_at_call 149;refine(ALh _ (by decide) _).mono ?_;rintro e w2 ⟨N,x1,x2,x3,y1,y2,y3,c,hN,rfl,hp,hb⟩);have HN:=hid hN;have HB2:=hid (show Below w1.heap.size w1 w2 from((A7 _ w1).alloc AR _).trans (hb.mono (by simp)));have HX:=hid (show PX w1.heap.size N (w2.alloc (.cells #[.slice x1 N y1,.slice x2 N y2,.slice x3 N y3] 28)) w2.heap.size (.slice x1 N y1) (.slice x2 N y2) (.slice x3 N y3) from MW (hp.mono (by simp)) AR HB2.out.size);have HB3:=hid (show Below w1.heap.size w1 (w2.alloc (.cells #[.slice x1 N y1,.slice x2 N y2,.slice x3 N y3] 28)) from HB2.out.alloc HB2.out.size _);clear hN hp hb;obtain⟨w3,hw3⟩:∃w3,w3=w2.alloc (.cells #[.slice x1 N y1,.slice x2 N y2,.slice x3 N y3] 28):=⟨_,rfl⟩;rw[←hw3]at HX HB3 ⊢;obtain⟨g7,Fp⟩:∃g7,w2.heap.size=g7:=⟨_,rfl⟩;rw[Fp]at HX ⊢;clear hw3 Fp HB2;obtain⟨⟨d0,d1,d2⟩,f0,f1,f2⟩:=AV HX.out.1;have hgl:=HX.out.lt;have hne:¬g7=g0:=by have h1:=BI.out;have h2:=HX.out.2.1;omega
  by_cases hc:c=0
  ·have hci:(c !=0)=false:=by rw[hc];rfl
   obtain⟨⟨e0,e1,e2⟩,r0,r1,r2⟩:=AV (HR.out w3 HB3.out).1;have hgr:=(HR.out w3 HB3.out).2;clear hc;go_wp2_with fail;obtain⟨⟨z0,z1,z2⟩,-⟩:=AV (BZ (x:=.slice x1 N y1) (y:=.slice x2 N y2) (z:=.slice x3 N y3) (HR.out w3 HB3.out).1);exact Aj (v:=.agg #[.slice x1 N y1,.slice x2 N y2,.slice x3 N y3]) (by simp[results,Tryz.results104,go_sem,z0,z1,z2]) rfl (HF.out _ HB3.out N HN.out _ _ _ _ _ _ HX.out.2.2)
  ·have hci:(c !=0)=true:=bne_iff_ne.2 hc;clear hc;go_upto_region 5 with(go_at_call 61;refine(HT1.out _).mono ?_;rintro e w5 ⟨M,X1,X2,X3,Y1,Y2,Y3,hM,rfl,hp,hb⟩;have Aa:=hid (show Below w3.heap.size w3 w5 from((A7 _ w3).alloc AR _).trans (hb.mono (by simp)));have Dx:=hid hp;have HM:=hid hM;have yF:=HX.out.below Aa.out;obtain⟨⟨u0,u1,u2⟩,r0,r1,r2⟩:=AV yF.1;have AEb:=yF.lt;clear hp hb hM yF);have QX:=hid (show PX w1.heap.size M (((w5.setCell ⟨g7,0,none⟩ (.slice X1 M Y1)).setCell ⟨g7,1,none⟩ (.slice X2 M Y2)).setCell ⟨g7,2,none⟩ (.slice X3 M Y3)) g7 (.slice X1 M Y1) (.slice X2 M Y2) (.slice X3 M Y3) from PX.BZ (HX.out.below Aa.out).1 HX.out.2.1 (Dx.out.mono (Ad HB3.out.size (by simp))));have Ar:=hid (show Below w1.heap.size w1 (((w5.setCell ⟨g7,0,none⟩ (.slice X1 M Y1)).setCell ⟨g7,1,none⟩ (.slice X2 M Y2)).setCell ⟨g7,2,none⟩ (.slice X3 M Y3)) from YL (HB3.out.trans (Aa.out.mono HB3.out.size)) HX.out.2.1 _ _ _);obtain⟨w6,OB⟩:∃w6,w6=(((w5.setCell ⟨g7,0,none⟩ (.slice X1 M Y1)).setCell ⟨g7,1,none⟩ (.slice X2 M Y2)).setCell ⟨g7,2,none⟩ (.slice X3 M Y3)):=⟨_,rfl⟩;rw[←OB]at QX Ar ⊢;clear OB d0 d1 d2 f0 f1 f2 r0 r1 r2 u0 u1 u2;obtain⟨⟨d0,d1,d2⟩,-⟩:=AV QX.out.1;have Nt:=QX.out.lt;obtain⟨⟨e0,e1,e2⟩,r0,r1,r2⟩:=AV (HR.out w6 Ar.out).1;have hgr:=(HR.out w6 Ar.out).2;go_wp2_with fail;obtain⟨⟨z0,z1,z2⟩,-⟩:=AV (BZ (x:=.slice X1 M Y1) (y:=.slice X2 M Y2) (z:=.slice X3 M Y3) (HR.out w6 Ar.out).1);exact Aj (v:=.agg #[.slice X1 M Y1,.slice X2 M Y2,.slice X3 M Y3]) (by simp[results,Tryz.results104,go_sem,z0,z1,z2]) rfl (HF.out _ Ar.out M HM.out _ _ _ _ _ _ QX.out.2.2)
end Go.Proofs.YtaadbccidfdniaaGreat.QW
namespace Go.Proofs.YtaadbccidfdniaaGreat.PE
open Go.RowKit Go.Lib Go.Proofs.YtaadbccidfdniaaGreat AB Dp Cn Dm Df Cc Gl
theorem AHR {w:World}{g n:Nat}{cur:Array Value}{x:Value}(hg:w.heap[g]?=some (.cells cur 2 (0,0)))(hn:n<cur.size):w.setRow g (cur.toList.take n++[x]++cur.toList.drop (n+1)).toArray=w.setCell ⟨g,n,none⟩ x:=by
 have hv:=(Ba.1 hg).2;unfold World.setRow World.setCell;cases w with
 |mk heap tape drawn os output=>
  congr 1;apply Array.ext
  ·simp
  ·intro k h1 h2;simp only[Array.getElem_modify];split
   ·rename_i hk;subst hk;simp only at hv;rw[hv];simp only[Option.isSome_none,Bool.false_eq_true,if_false,Obj.cells.injEq,and_true];apply Array.ext
    ·simp;omega
    ·intro j h3 h4;simp only[List.getElem_toArray];rw[Array.getElem_setIfInBounds (by simpa using h4)];split
     ·rename_i e;subst e;rw[List.getElem_append_left (by simp;omega),List.getElem_append_right (by simp;omega)];simp
     ·rcases CP j n with h|h
      ·rw[List.getElem_append_left (by simp;omega),List.getElem_append_left (by simp;omega)];simp
      ·rw[List.getElem_append_right (by simp;omega)];simp only[List.getElem_drop,Cs,JX,List.length_singleton,Array.length_toList,Array.getElem_toList];congr 1;omega
   ·rfl
theorem ACr (w:World)(base:Nat)(ty:TypeId)(n:Nat)(v:Value)(xs:List Value)(hown:w.ownsRow base 2 1 v n xs)(g c:Nat)(x:Int)(hx:w.cell? ⟨g,0,none⟩=some (.int .i64 x))(h63:n+1≤1000000)(hbase:base≤w.heap.size):
  ∃v' w',(Builtin.append_ #[24,24] ty #[v,.slice (some ⟨g,0,none⟩) 1 c]).run Tryz.prog w= .ok v' w'∧w'.ownsRow base 2 1 v' (n+1) (xs++[.int .i64 x])∧w.grownBy w' v.ownBlock∧∀B,Ty B w w':=by
 obtain⟨i0,hi,hz0,hz1,hz2⟩:=Bt FX;have ht:=Tryz.underlying24;have hnews:∀j u,[Value.int .i64 x][j]?=some u→w.cell? ((⟨g,0,none⟩:Addr).add j)=some u:=by
  intro j u hu;cases j with
  |zero=>simp at hu;subst hu;simpa[Addr.add]using hx
  |succ j=>simp at hu
 have h1:∀u∈[Value.int .i64 x],u.oneCell'=true:=by simp[Value.oneCell']
 obtain⟨v',w',hr,ho,hg,_⟩:=run_append_own (P:=Tryz.prog) w base 24 ty 2 i0 (.int .i64 0) 1 8 ht hi hz0 hz1 hz2 rfl (by decide) v n xs hown ⟨g,0,none⟩ 1 c [.int .i64 x] rfl hnews h1 (by unfold maxLen;omega) (by omega) hbase;refine⟨v',w',hr,ho,hg,fun B=>?_⟩;have key:∀(v2:Value) (w2:World),(Builtin.append_ #[24,24] ty #[v,.slice (some ⟨g,0,none⟩) 1 c]).run Tryz.prog w= .ok v2 w2→Ty B w w2→Ty B w w':=fun v2 w2 h2 h3=>by
  rw[hr]at h2;injection h2 with _ h2;rw[h2];exact h3
 have hal:∀o,Ty B w (w.drew.alloc o):=fun o=>Ty.keep (S:=Any) (((AA.refl _ w).drew).alloc o) fun _ _=>trivial;rcases id hown.2 with⟨rfl,rfl⟩|⟨gr,cap,cur,rfl,hbg,hgr,hnc,hcm,hcs,htake⟩
 ·exact key _ _ (run_append_nil (P:=Tryz.prog) w 24 ty 2 i0 (.int .i64 0) ht hi hz0 ⟨g,0,none⟩ 1 c [.int .i64 x] (by rw[hz1];rfl) hnews (by omega) (by omega) (by rw[hz2];omega)) (hal _)
 ·by_cases hroom:n+1≤cap
  ·have hr2:=run_append_room (P:=Tryz.prog) w 24 ty 2 i0 ht hi gr n cap cur hgr ⟨g,0,none⟩ 1 c [.int .i64 x] (by rw[hz1];rfl) hnews h1 hroom (by rw[hz1];simp;omega);rw[hz1,Ic,List.length_singleton,AHR hgr (by omega)]at hr2;exact key _ _ hr2 (Ty.set1 hgr x)
  ·have holds:∀j u,xs[j]?=some u→w.cell? ((⟨gr,0,none⟩:Addr).add j)=some u:=hown.cells (g:=gr) rfl;exact key _ _ (run_append_grow (P:=Tryz.prog) w 24 ty 2 i0 (.int .i64 0) ht hi hz0 ⟨gr,0,none⟩ n cap xs (by rw[hz1];exact hown.1) holds ⟨g,0,none⟩ 1 c [.int .i64 x] (by rw[hz1];rfl) hnews (by omega) (by omega) (by rw[hz2];exact growslice_fits (by omega) (by omega))) (hal _)
theorem AAV {ops:Array Oper}{rest:List Oper}{o:Oper}{a:Act}{w:World}{Q:Exit→Act→World→Prop}(hgd:o.guard=none)(s x:Operand)
  (ho:o.op= .call { callee:=.builtin .append,args:= #[s,x],argTypes:= #[24,24] }) (base n g c:Nat) (v:Value) (xs:List Value) (y:Int) (hs:a.eval s=v) (hown:w.ownsRow base 2 1 v n xs)
  (hx:a.eval x= .slice (some ⟨g,0,none⟩) 1 c) (hy:w.cell? ⟨g,0,none⟩=some (.int .i64 y)) (h63:n+1≤1000000) (hbase:base≤w.heap.size)
  (h:∀v' w',w'.ownsRow base 2 1 v' (n+1) (xs++[.int .i64 y])→w.grownBy w' v.ownBlock→(∀B,Ty B w w')→wpList Tryz.prog ops Q rest (a.put o.dst v') w'):wpList Tryz.prog ops Q (o::rest) a w:=by
 refine wpList_plain hgd fun K hK=>?_;obtain⟨v',w',hr,h2,h3,h4⟩:=ACr w base o.type n v xs hown g c y hy h63 hbase;unfold Oper.wp execOp;simp only[ho,resolve,invoke,builtin,Sem.run_bind,Sem.run_pure,RB,RD,GZ,Ng,hs,hx,hr];exact hK _ _ (h v' w' h2 h3 h4)
def A1 (B:Nat)(w:World)(v:Value):Prop:=∃n,n≤100∧R1 B w n v
def A2 (B:Nat)(w:World)(k:Nat)(v:Value):Prop:=∃us:List Value,us.length=k∧w.ownsRow B 24 1 v k us∧∀(i:Nat) u,us[i]?=some u→A1 B w u
def A3 (B:Nat)(w:World)(K:List Nat)(v:Value):Prop:=∃us:List Value,us.length=K.length∧w.ownsRow B 25 1 v K.length us∧∀(i:Nat) u k,us[i]?=some u→K[i]?=some k→A2 B w k u
structure Ee (B:Nat)(w w':World):Prop where
 one:∀v,A1 B w v→A1 B w' v
 two:∀k v,A2 B w k v→A2 B w' k v
 three:∀K v,A3 B w K v→A3 B w' K v
theorem Ee.trans {B:Nat}{a b c:World}(h:Ee B a b)(g:Ee B b c):Ee B a c:=⟨fun v x=>g.one v (h.one v x),fun k v x=>g.two k v (h.two k v x),fun k v x=>g.three k v (h.three k v x)⟩
theorem Ee.mk' {B:Nat}{w w':World}(h1:∀n v,R1 B w n v→R1 B w' n v)
  (h2:∀(n:Nat) (v:Value) us,w.ownsRow B 24 1 v n us→us.length=n→∃us',w'.ownsRow B 24 1 v n us'∧us'.length=n∧∀(i:Nat) u',us'[i]?=some u'→us[i]?=some u'∨A1 B w' u')
  (h3:∀(n:Nat) (v:Value) us,w.ownsRow B 25 1 v n us→w'.ownsRow B 25 1 v n us):Ee B w w':=by
 have k1:∀v,A1 B w v→A1 B w' v:=fun v ⟨n,a,b⟩=>⟨n,a,h1 n v b⟩;have k2:∀k v,A2 B w k v→A2 B w' k v:=fun k v ⟨us,a,b,c⟩=>by
  obtain⟨us',b',a',d⟩:=h2 k v us b a;exact⟨us',a',b',fun i u hu=>(d i u hu).elim (fun h=>k1 _ (c i u h)) id⟩
 exact⟨k1,k2,fun K v ⟨us,a,b,c⟩=>⟨us,a,h3 _ v us b,fun i u k hu hk=>k2 k u (c i u k hu hk)⟩⟩
theorem Ee.keep {B:Nat}{w w':World}{S:Nat→Prop}(hk:AA S w w')(hS:∀k,B≤k→S k):Ee B w w':=
 Ee.mk' (Ty.keep hk hS).one (fun n v us h hl=>⟨us,Br h hk hS,hl,fun i u hu=>.inl hu⟩) fun n v us h=>Br h hk hS
theorem Ee.other {B b i:Nat}{w:World}{c:Value}{t:TypeId}{cur:Array Value}(hb:w.heap[b]?=some (.cells cur t (0,0)))(h1:t≠2)(h2:t≠24)(h3:t≠25):Ee B w (w.setCell ⟨b,i,none⟩ c):=
 Ee.mk' (fun n v h=>h.other hb h1) (fun n v us h hl=>⟨us,JK h hb h2.symm,hl,fun i u hu=>.inl hu⟩) fun n v us h=>JK h hb h3.symm
theorem Ee.set2 {B b i:Nat}{w:World}{cur:Array Value}{u:Value}(hb:w.heap[b]?=some (.cells cur 24 (0,0)))(hu:A1 B w u):Ee B w (w.setCell ⟨b,i,none⟩ u):=by
 obtain⟨m,hm,hu⟩:=hu;refine Ee.mk' (fun n v h=>h.other hb (by decide)) (fun n v us h hl=>?_) fun n v us h=>JK h hb (by decide);obtain⟨us',e1,e2⟩:=eT (b:=b) (i:=i) (c:=u) h;have hl':us'.length=n:=by have:=e1.1;omega
 refine⟨us',e1,hl',fun j x hx=>?_⟩;have hj:=(Ag.1 hx).1;rcases e2 j _ (AO (show j<us.length by omega))with h6|⟨_,rfl,h7⟩
 ·rw[hx]at h6;exact .inl (h6▸AO _)
 ·rw[hx]at h7;injection h7 with h7;exact .inr ⟨m,hm,by rw[h7];exact hu.other hb (by decide)⟩
theorem A2.of {B:Nat}{L:List Nat}{w:World}{v:Value}(h:R2 B w L v)(hL:∀n∈L,n≤100):A2 B w L.length v:=by
 obtain⟨us,h1,h2⟩:=h;have hl:us.length=L.length:=by have:=h1.1;omega
 refine⟨us,hl,h1,fun i u hu=>?_⟩;have hi:=(Ag.1 hu).1;obtain⟨u',e1,e2⟩:=h2 i _ (AO (by omega));rw[hu]at e1;injection e1 with e1;exact⟨_,hL _ (Ke _),e1▸e2⟩
theorem A3.of {B:Nat}{M:List (List Nat)}{w:World}{v:Value}(h:R3 B w M v)(hM:∀L∈M,∀n∈L,n≤100):A3 B w (M.map List.length) v:=by
 obtain⟨us,h1,h2⟩:=h;have hl:us.length=M.length:=by have:=h1.1;omega
 refine⟨us,by rw[Bh];exact hl,by rw[Bh];exact h1,fun i u k hu hk=>?_⟩;have hi:=(Ag.1 hu).1;obtain⟨u',e1,e2⟩:=h2 i _ (AO (by omega));rw[hu]at e1;injection e1 with e1;simp only[Bn,AO (show i<M.length by omega),Option.map_some,Eg]at hk;rw[←hk,e1];exact A2.of e2 (hM _ (Ke _))
theorem A3.Tt {B b i k:Nat}{K:List Nat}{w:World}{cur:Array Value}{u v:Value}(hb:w.heap[b]?=some (.cells cur 25 (0,0)))(hu:A2 B w k u)(h:A3 B w K v):∃K',A3 B (w.setCell ⟨b,i,none⟩ u) K' v:=by
 have k2:∀k v,A2 B w k v→A2 B (w.setCell ⟨b,i,none⟩ u) k v:=fun k v ⟨us,a,b,c⟩=>⟨us,a,JK b hb (by decide),fun i u hu=>by
  obtain⟨n,h1,h2⟩:=c i u hu;exact⟨n,h1,h2.other hb (by decide)⟩⟩
 obtain⟨us,a,h1,c⟩:=h;obtain⟨us',e1,e2⟩:=eT (b:=b) (i:=i) (c:=u) h1;have hl':us'.length=K.length:=by have:=e1.1;omega
 have hz:∀j:Fin us'.length,∃m,A2 B (w.setCell ⟨b,i,none⟩ u) m (us'[j.1]'j.2):=fun j=>by
  have hj:j.1<us.length:=by have:=j.2;omega
  rcases e2 j.1 _ (AO hj)with h6|⟨_,_,h7⟩
  ·obtain⟨_,h6⟩:=Ag.1 h6;exact⟨_,by rw[h6];exact k2 _ _ (c j.1 _ _ (AO hj) (AO (by omega)))⟩
  ·obtain⟨_,h7⟩:=Ag.1 h7;exact⟨k,by rw[h7];exact k2 _ _ hu⟩
 refine⟨(List.finRange us'.length).map fun j=>Classical.choose (hz j),us',by simp,by simpa[hl']using e1,fun j x m hx hm=>?_⟩;simp only[Bn,II]at hm;obtain⟨q,hq,rfl⟩:=hm;obtain⟨hl2,e⟩:=Ag.1 hq;simp only[List.length_finRange]at hl2;have e2:j=q.1:=by rw[←e];simp
 subst e2;obtain⟨_,e3⟩:=Ag.1 hx;rw[←e3];exact P5 (hz q)
theorem A1.mono {B B':Nat}{w:World}{v:Value}(h:A1 B w v)(hB:B'≤B):A1 B' w v:=by obtain⟨n,h0,h⟩:=h;exact⟨n,h0,h.mono hB⟩
theorem A2.mono {B B' k:Nat}{w:World}{v:Value}(h:A2 B w k v)(hB:B'≤B):A2 B' w k v:=by obtain⟨us,a,b,c⟩:=h;exact⟨us,a,JI b hB,fun i u hu=>(c i u hu).mono hB⟩
theorem A3.mono {B B':Nat}{K:List Nat}{w:World}{v:Value}(h:A3 B w K v)(hB:B'≤B):A3 B' w K v:=by obtain⟨us,a,b,c⟩:=h;exact⟨us,a,JI b hB,fun i u k hu hk=>(c i u k hu hk).mono hB⟩
def PA (B:Nat)(w:World)(vO vP vC:Value):Prop:=A1 B w vO∧(∃k,A2 B w k vP)∧∃K,A3 B w K vC
theorem PA.ty {B:Nat}{w w':World}{vO vP vC:Value}(h:PA B w vO vP vC)(ht:Ee B w w'):PA B w' vO vP vC:=⟨ht.one _ h.1,h.2.1.imp fun k h=>ht.two k _ h,h.2.2.imp fun k h=>ht.three k _ h⟩
theorem PA.mono {B B':Nat}{w:World}{x y z:Value}(h:PA B w x y z)(hB:B'≤B):PA B' w x y z:=⟨h.1.mono hB,h.2.1.imp fun k h=>h.mono hB,h.2.2.imp fun k h=>h.mono hB⟩
theorem PA.of {B n:Nat}{w:World}{vO vP vC:Value}(hn:n≤100)(h:PT B w n vO vP vC):PA B w vO vP vC:=
 ⟨⟨_,hn,h.1⟩,⟨_,A2.of h.2.1 fun m hm=>by rw[(Kh.1 hm).2];exact hn⟩,⟨_,A3.of h.2.2 fun L hL m hm=>by
  obtain⟨i,_,rfl⟩:=Cy.1 hL;rw[(Kh.1 hm).2];exact hn⟩⟩
end Go.Proofs.YtaadbccidfdniaaGreat.PE
namespace Go.Proofs.YtaadbccidfdniaaGreat.R9
open Go.RowKit Go.Proofs.YtaadbccidfdniaaGreat AB Dp Cn Dm Df Cc Gl Rz yC mE O9 O7 QW PE
open Go.Proofs.YtaadbccidfdniaaGreat.XA (Ty.box Ty.Kn)
def MG (b g:Nat)(a:Option Addr)(len cap:Nat)(w:World)(e:Ending)(w':World):Prop:=∃(N:Nat) (x1 x2 x3:Option Addr) (y1 y2 y3:Nat),N≤b∧e= .returned (.agg #[.slice x1 N y1,.slice x2 N y2,.slice x3 N y3])∧PT w.heap.size w' N (.slice x1 N y1) (.slice x2 N y2) (.slice x3 N y3)∧Sr g a len cap w w'
theorem GI.fas {b g len cap:Nat}{a:Option Addr}{w W W':World}{e:Ending}(h:Sr g a len cap w W)(hu:GI b W e W'):∃(N:Nat) (x1 x2 x3:Option Addr) (y1 y2 y3:Nat),N≤b∧e= .returned (.agg #[.slice x1 N y1,.slice x2 N y2,.slice x3 N y3])∧PT w.heap.size W' N (.slice x1 N y1) (.slice x2 N y2) (.slice x3 N y3)∧Sr g a len cap w W':=by
 obtain⟨N,x1,x2,x3,y1,y2,y3,hN,rfl,hp,hb⟩:=hu;exact⟨N,_,_,_,_,_,_,hN,rfl,hp.mono h.2.2.size,h.below hb⟩
theorem Vi {x:Int}(h:0≤x):∃n:Nat,x=(n:Int):=⟨x.toNat,by omega⟩
theorem rR (n m r s:Int)(hn:1≤n∧n≤40)(hm:1≤m∧m≤40)(w:World):Calls Tryz.prog 101 #[.int .i64 n,.int .i64 m,.int .i64 r,.int .i64 s] w (GI 12 w):=by
 obtain⟨n,rfl⟩:=Vi (x:=n) (by omega);obtain⟨m,rfl⟩:=Vi (x:=m) (by omega);exact(AIc n m (by omega) (by omega) r s w).mono fun e w' h=>Te.un h
theorem Vx (p n:Int)(m:Nat)(hp:1≤p∧p≤7)(hn:1≤n∧n≤40)(hm:m≤4)(ab:Option Addr)(cb:Nat)(w:World)(hA:R2 0 w (List.replicate m m) (.slice ab m cb)):Calls Tryz.prog 103 #[.int .i64 p,.slice ab m cb,.int .i64 n] w (GI 12 w):=by
 obtain⟨n,rfl⟩:=Vi (x:=n) (by omega);obtain⟨p,rfl⟩:=Vi (x:=p) (by omega);exact(AHP p n m (by omega) (by omega) hm ab cb w hA).mono fun e w' h=>Te.un h
theorem ALi (n:Int)(hn:1≤n∧n≤40)(w:World):Calls Tryz.prog 100 #[.int .i64 n] w (P9 12 w):=by
 obtain⟨n,rfl⟩:=Vi (x:=n) (by omega);exact AJz n (by omega) w
theorem AK0 (q:Int)(hq:2≤q∧q≤7)(g:Nat)(a:Option Addr)(len cap:Nat)(w W:World)(h:Sr g a len cap w W):Calls Tryz.prog 102 #[.pointer (some ⟨g,0,none⟩),.int .i64 q] W (MG 12 g a len cap W):=by
 obtain⟨q,rfl⟩:=Vi (x:=q) (by omega);refine(AIf q (by omega) W g a len cap h.1 h.2.1).mono ?_;rintro e w' ⟨N,x1,x2,x3,y1,y2,y3,hN,rfl,hp,hs,hg⟩;exact⟨N,_,_,_,_,_,_,hN,rfl,hp,hs,h.2.1.grown hg,hg⟩
theorem Nj {w:World}{n:Nat}{v:Value}(o:Obj)(h:R1 0 w n v):R1 0 (w.alloc o) n v:=(Ty.keep (S:=Any) ((AA.refl _ w).alloc o) fun _ _=>trivial).one _ _ h
theorem Nu (w:World)(l:List Int)(m:Nat)(hm:l.length=m)(h:m≤100):R1 0 (w.alloc (.cells (l.map (Value.int .i64)).toArray 2)) m (.slice (some ⟨w.heap.size,0,none⟩) m m):=by
 subst hm;exact⟨l,rfl,Q0 w _ l (AU _) (by unfold maxLen;omega) (by simp[vals])⟩
theorem uI (w:World)(us:List Value)(m k:Nat)(hk:us.length=k)(h4:k≤100)(h:∀u∈us,R1 0 w m u):R2 0 (w.alloc (.cells us.toArray 24)) (List.replicate k m) (.slice (some ⟨w.heap.size,0,none⟩) k k):=by
 subst hk;refine⟨us,?_,fun i n hi=>?_⟩
 ·have:=Nq (base:=0) (e:=24) (size:=1) w us.toArray us.length (AU _) (by unfold maxLen;omega) (by simp);rw[DK];simpa using this
 ·obtain⟨hj,e⟩:=Ag.1 hi;simp only[DK,List.getElem_replicate]at hj e;subst e;exact⟨_,AO hj,Nj _ (h _ (Ke _))⟩
abbrev o1 (l:List Int):Obj:=.cells (l.map (Value.int .i64)).toArray 2
abbrev rv (g m:Nat):Value:=.slice (some ⟨g,0,none⟩) m m
theorem uJ (w:World)(k l:List Int)(hk:k.length=2)(hl:l.length=2):R2 0 (((w.alloc (o1 k)).alloc (o1 l)).alloc (.cells #[rv w.heap.size 2,rv (w.heap.size+1) 2] 24)) (List.replicate 2 2) (rv (w.heap.size+1+1) 2):=by
 have h2:=Nu (w.alloc (o1 k)) l 2 hl (by decide);rw[World.size_alloc]at h2;have h:=uI ((w.alloc (o1 k)).alloc (o1 l)) [rv w.heap.size 2,rv (w.heap.size+1) 2] 2 2 rfl (by decide) (fun u hu=>by
  rcases F8.1 hu with rfl|hu
  ·exact Nj _ (Nu w k 2 hk (by decide))
  ·rw[GU.1 hu];exact h2)
 simpa using h
theorem AEc (w:World)(k l m:List Int)(hk:k.length=3)(hl:l.length=3)(hm:m.length=3):R2 0 ((((w.alloc (o1 k)).alloc (o1 l)).alloc (o1 m)).alloc (.cells #[rv w.heap.size 3,rv (w.heap.size+1) 3,rv (w.heap.size+1+1) 3] 24)) (List.replicate 3 3) (rv (w.heap.size+1+1+1) 3):=by
 have h2:=Nu (w.alloc (o1 k)) l 3 hl (by decide);have h3:=Nu ((w.alloc (o1 k)).alloc (o1 l)) m 3 hm (by decide);simp only[World.size_alloc]at h2 h3;have h:=uI (((w.alloc (o1 k)).alloc (o1 l)).alloc (o1 m)) [rv w.heap.size 3,rv (w.heap.size+1) 3,rv (w.heap.size+1+1) 3] 3 3 rfl (by decide) (fun u hu=>by
  rcases F8.1 hu with rfl|hu
  ·exact Nj _ (Nj _ (Nu w k 3 hk (by decide)))
  ·rcases F8.1 hu with rfl|hu
   ·exact Nj _ h2
   ·rw[GU.1 hu];exact h3)
 simpa using h
theorem AMq (w:World)(k l m n:List Int)(hk:k.length=4)(hl:l.length=4)(hm:m.length=4)(hn:n.length=4):R2 0 (((((w.alloc (o1 k)).alloc (o1 l)).alloc (o1 m)).alloc (o1 n)).alloc (.cells #[rv w.heap.size 4,rv (w.heap.size+1) 4,rv (w.heap.size+1+1) 4,rv (w.heap.size+1+1+1) 4] 24)) (List.replicate 4 4) (rv (w.heap.size+1+1+1+1) 4):=by
 have h2:=Nu (w.alloc (o1 k)) l 4 hl (by decide);have h3:=Nu ((w.alloc (o1 k)).alloc (o1 l)) m 4 hm (by decide);have h4:=Nu (((w.alloc (o1 k)).alloc (o1 l)).alloc (o1 m)) n 4 hn (by decide);simp only[World.size_alloc]at h2 h3 h4;have h:=uI ((((w.alloc (o1 k)).alloc (o1 l)).alloc (o1 m)).alloc (o1 n)) [rv w.heap.size 4,rv (w.heap.size+1) 4,rv (w.heap.size+1+1) 4,rv (w.heap.size+1+1+1) 4] 4 4 rfl (by decide) (fun u hu=>by
  rcases F8.1 hu with rfl|hu
  ·exact Nj _ (Nj _ (Nj _ (Nu w k 4 hk (by decide))))
  ·rcases F8.1 hu with rfl|hu
   ·exact Nj _ (Nj _ h2)
   ·rcases F8.1 hu with rfl|hu
    ·exact Nj _ h3
    ·rw[GU.1 hu];exact h4)
 simpa using h
theorem AJ0 (g:Nat)(a:Option Addr)(len cap:Nat)(w:World)(h:Sr g a len cap w w):Calls Tryz.prog 59 #[.pointer (some ⟨g,0,none⟩)] w (MG 12 g a len cap w):=by
 obtain⟨w1,hw1⟩:∃w1,w1=w.alloc CG:=⟨_,rfl⟩;obtain⟨g0,hg0⟩:∃g0,w.heap.size=g0:=⟨_,rfl⟩;have HH:=hid h;have BI:=hid (show w1.heap.size=g0+1 by rw[hw1,←hg0];simp);have O0:=hid (show w1.heap[g0]?=some CG by rw[hw1,←hg0];exact BA _ _);have HS:=hid (show Sr g a len cap w1 w1 by rw[hw1];exact⟨(h.alloc _).1,(h.alloc _).2.1,VW _ _⟩);have HW1:=hid (show Sr g a len cap w w1 by rw[hw1];exact h.alloc _);have HK:=hid (fun(W:World) (hS:Sr g a len cap w1 W)=>show W.heap[g0]?=some CG∧g0<W.heap.size from
  ⟨(hS.2.2.block g0 (by rw[BI.out];omega) (fun e=>by injection e with e;have:=HH.out.lt;omega)).trans O0.out,by have:=hS.2.2.size;rw[BI.out]at this;omega⟩)
 have HF:=hid (fun(W:World) (hS:Sr g a len cap w1 W) (N:Nat) (hN:N≤12) (x1 x2 x3:Option Addr) (y1 y2 y3:Nat) (hP:PT w1.heap.size W N (.slice x1 N y1) (.slice x2 N y2) (.slice x3 N y3))=>show MG 12 g a len cap w (.returned (.agg #[.slice x1 N y1,.slice x2 N y2,.slice x3 N y3])) (((W.setCell ⟨g0,0,none⟩ (.slice x1 N y1)).setCell ⟨g0,1,none⟩ (.slice x2 N y2)).setCell ⟨g0,2,none⟩ (.slice x3 N y3)) from
  ⟨N,_,_,_,_,_,_,hN,rfl,(hP.ty (Ty.Kn (HK.out W hS).1)).mono (by rw[BI.out];omega),(HW1.out.tr hS).Tt HH.out (by omega) _ _ _⟩)
 have FH:=hid (fun(x:Int) (W:World) (hS:Sr g a len cap w1 W)=>Ma x g a len cap w1 W hS);clear h;go_enter Tryz.func59,Tryz.ntmps59;go_upto_region 1 with fail;rw[←hw1];clear hw1 hg0;go_upto_region 2 with(go_at_call 27;refine(FH.out _ _ HS.out).mono ?_;rintro e w2 ⟨r,rfl,hr,hS2⟩;have HS2:=hid hS2;clear hS2);have hr9:r=0∨r=1∨r=2∨r=3∨r=4∨r=5∨r=6∨r=7∨r=8:=by omega
 clear hr;rcases hr9 with rfl|rfl|rfl|rfl|rfl|rfl|rfl|rfl|rfl
 ·go_wp2_with (go_at_call 27;refine(FH.out _ _ (HS2.out.alloc _)).mono ?_;rintro e w3 ⟨r,rfl,hr,Dy⟩;have Be:=hid ((HS2.out.alloc _).tr Dy);have O6:r≤4:=(by omega);have HR3:=hid (show R1 w1.heap.size w3 0 (.slice (some ⟨w2.heap.size,0,none⟩) 0 0) from(Ty.gr Dy.2.2 (by have:=HS.out.lt;omega)).one _ _ ⟨[],rfl,Fb (e:=2) (size:=1) w2 #[] 0 HS2.out.2.2.size (AU _) rfl⟩);clear Dy hr);go_loopw [3,4] (fun ov kv wr=>∃(j k:Nat) (b:Option Addr) (c:Nat),j+k≤4∧kv= .int .i64 (k:Int)∧ov= .slice b j c∧Hid (R1 w1.heap.size wr j (.slice b j c))∧Hid (Sr g a len cap w1 wr)) (fun _ kv _=>(intOf kv).toNat);case atStart=>exact⟨0,r,_,_,by omega,rfl,rfl,HR3,Be⟩
  case round=>
   clear HR3 Be O6;obtain⟨j,k,b,c,hjk,rfl,rfl,hR,hS⟩:=hrel;cases k with
   |succ k=>
    have hk0:(0:Int)<((k+1:Nat):Int):=by omega
    have hk1:0<k+1:=by omega
    go_wp2_with (first|(go_at_call 15;refine(YM [2,2,3] 3 rfl (by decide) (by decide) g a len cap w1 _ hS.out).mono ?_;rintro e w3 ⟨x,hx,rfl,Dy⟩;have Be:=hid ((hS.out.alloc _).tr Dy);obtain⟨l,hl,ho3⟩:=((Ty.keep (S:=Any) ((AA.refl _ w3).alloc (.cells #[.int .i64 x] 2)) fun _ _=>trivial).one _ _ ((Ty.gr Dy.2.2 (by have:=HS.out.lt;omega)).one _ _ ((Ty.keep (S:=Any) ((AA.refl _ wr).alloc (.cells #[.int .i64 2,.int .i64 2,.int .i64 3] 2)) fun _ _=>trivial).one _ _ hR.out)):R1 w1.heap.size (w3.alloc (.cells #[.int .i64 x] 2)) j (.slice b j c));clear hx Dy)|(at_builtin;refine AAV rfl _ _ rfl w1.heap.size j w3.heap.size 1 (.slice b j c) (vals l) x rfl ho3 rfl (by simp) (by omega) (Ad Be.out.2.2.size (by simp)) ?_;intro v' w4 Ey hg4 _));obtain⟨b4,c4,rfl⟩:=LH Ey;have HR4:=hid (show R1 w1.heap.size w4 (j+1) (.slice b4 (j+1) c4) from⟨l++[x],by simp[hl],by simpa[vals]using Ey⟩);have BF:=hid (show Sr g a len cap w1 w4 from(Be.out.alloc _).own HS.out hg4 (fun q e=>(Af ho3 q e).1));clear ho3 Ey hg4 hl hR hS;go_wp2_with fail;go_roundw;case rel=>exact⟨j+1,k,b4,c4,by omega,by go_num,rfl,HR4,BF⟩
    case measure=>simp[intOf]<;>omega
   |zero=>
    have hk0:¬(0:Int)<((0:Nat):Int):=by omega
    obtain⟨l,hl,hsl⟩:=hR.out.sl;have HT:=hid ((fH l _ wr (hsl.mono fun _ _=>trivial) (by omega)).mono fun e w' h=>LV.un (b:=12) h (by omega));clear hsl hR;go_wp2_with (go_at_call 61;refine(HT.out).mono ?_;intro e w6 hu;obtain⟨N,x1,x2,x3,y1,y2,y3,hN,rfl,hp,hs⟩:=GI.fas hS.out hu;have HN:=hid hN;have Ab:=hid hs;have Bd:=hid hp;obtain⟨⟨e0,e1,e2⟩,f0,f1,f2⟩:=AV (HK.out _ Ab.out).1;have hgl:=(HK.out _ Ab.out).2;clear hu hN hp hs);obtain⟨⟨z0,z1,z2⟩,-⟩:=AV (BZ (x:=.slice x1 N y1) (y:=.slice x2 N y2) (z:=.slice x3 N y3) (HK.out _ Ab.out).1);exact Aj (v:=.agg #[.slice x1 N y1,.slice x2 N y2,.slice x3 N y3]) (by simp[results,Tryz.results59,go_sem,z0,z1,z2]) rfl (HF.out _ Ab.out N HN.out _ _ _ _ _ _ Bd.out)
 ·go_wp2_with (first|(go_at_call 15;refine(YM [1,4,6,8,9,12,5,7,27,25,36] 11 rfl (by decide) (by decide) g a len cap w1 _ HS2.out).mono ?_;rintro e w3 ⟨x,hx,rfl,Dy⟩;have Be:=hid ((HS2.out.alloc _).tr Dy);have hx1:1≤x∧x≤40:=(by simp at hx;omega);have hx7:(x=2∨x=3∨x=5)∨True:=.inr trivial;clear hx Dy)|(go_at_call 100;refine(ALi _ hx1 _).mono ?_;rintro e w6 ⟨N,x1,x2,x3,y1,y2,y3,c,hN,rfl,hp,hb⟩;have HN:=hid hN;have Ab:=hid ((Be.out.below hb).alloc (.cells #[.slice x1 N y1,.slice x2 N y2,.slice x3 N y3] 28));have Bd:=hid ((hp.mono Be.out.2.2.size).ty (Ty.keep (S:=Any) ((AA.refl _ w6).alloc (.cells #[.slice x1 N y1,.slice x2 N y2,.slice x3 N y3] 28)) fun _ _=>trivial));obtain⟨⟨e0,e1,e2⟩,f0,f1,f2⟩:=AV (HK.out _ Ab.out).1;have hgl:=(HK.out _ Ab.out).2;clear hN hp hb));obtain⟨⟨z0,z1,z2⟩,-⟩:=AV (BZ (x:=.slice x1 N y1) (y:=.slice x2 N y2) (z:=.slice x3 N y3) (HK.out _ Ab.out).1);exact Aj (v:=.agg #[.slice x1 N y1,.slice x2 N y2,.slice x3 N y3]) (by simp[results,Tryz.results59,go_sem,z0,z1,z2]) rfl (HF.out _ Ab.out N HN.out _ _ _ _ _ _ Bd.out)
 ·go_wp2_with (first|(go_at_call 15;refine(YM [3,4,5,6,7,8,9,12] 8 rfl (by decide) (by decide) g a len cap w1 _ HS2.out).mono ?_;rintro e w3 ⟨x,hx,rfl,Dy⟩;have Be:=hid ((HS2.out.alloc _).tr Dy);have hx1:1≤x∧x≤40:=(by simp at hx;omega);have hx7:(x=2∨x=3∨x=5)∨True:=.inr trivial;clear hx Dy)|(go_at_call 101;refine(rR _ _ _ _ (by decide) hx1 _).mono ?_;intro e w6 hu;obtain⟨N,x1,x2,x3,y1,y2,y3,hN,rfl,hp,hs⟩:=GI.fas Be.out hu;have HN:=hid hN;have Ab:=hid hs;have Bd:=hid hp;obtain⟨⟨e0,e1,e2⟩,f0,f1,f2⟩:=AV (HK.out _ Ab.out).1;have hgl:=(HK.out _ Ab.out).2;clear hu hN hp hs));obtain⟨⟨z0,z1,z2⟩,-⟩:=AV (BZ (x:=.slice x1 N y1) (y:=.slice x2 N y2) (z:=.slice x3 N y3) (HK.out _ Ab.out).1);exact Aj (v:=.agg #[.slice x1 N y1,.slice x2 N y2,.slice x3 N y3]) (by simp[results,Tryz.results59,go_sem,z0,z1,z2]) rfl (HF.out _ Ab.out N HN.out _ _ _ _ _ _ Bd.out)
 ·go_wp2_with (first|(go_at_call 15;refine(YM [4,6,8,12] 4 rfl (by decide) (by decide) g a len cap w1 _ HS2.out).mono ?_;rintro e w3 ⟨x,hx,rfl,Dy⟩;have Be:=hid ((HS2.out.alloc _).tr Dy);have hx1:1≤x∧x≤40:=(by simp at hx;omega);have hx7:(x=2∨x=3∨x=5)∨True:=.inr trivial;clear hx Dy)|(go_at_call 101;refine(rR _ _ _ _ (by decide) hx1 _).mono ?_;intro e w6 hu;obtain⟨N,x1,x2,x3,y1,y2,y3,hN,rfl,hp,hs⟩:=GI.fas Be.out hu;have HN:=hid hN;have Ab:=hid hs;have Bd:=hid hp;obtain⟨⟨e0,e1,e2⟩,f0,f1,f2⟩:=AV (HK.out _ Ab.out).1;have hgl:=(HK.out _ Ab.out).2;clear hu hN hp hs));obtain⟨⟨z0,z1,z2⟩,-⟩:=AV (BZ (x:=.slice x1 N y1) (y:=.slice x2 N y2) (z:=.slice x3 N y3) (HK.out _ Ab.out).1);exact Aj (v:=.agg #[.slice x1 N y1,.slice x2 N y2,.slice x3 N y3]) (by simp[results,Tryz.results59,go_sem,z0,z1,z2]) rfl (HF.out _ Ab.out N HN.out _ _ _ _ _ _ Bd.out)
 ·go_upto_region 20 with(go_at_call 27;refine(FH.out _ _ HS2.out).mono ?_;rintro e w3 ⟨r,rfl,hr,Dy⟩;have Be:=hid (HS2.out.tr Dy);clear Dy);have CR:r=0∨r=1∨r=2∨r=3∨r=4∨r=5:=by omega
  clear hr;rcases CR with rfl|rfl|rfl|rfl|rfl|rfl;all_goals
   go_wp2_with (go_at_call 101;refine(rR _ _ _ _ (by decide) (by decide) _).mono ?_;intro e w6 hu;obtain⟨N,x1,x2,x3,y1,y2,y3,hN,rfl,hp,hs⟩:=GI.fas Be.out hu;have HN:=hid hN;have Ab:=hid hs;have Bd:=hid hp;obtain⟨⟨e0,e1,e2⟩,f0,f1,f2⟩:=AV (HK.out _ Ab.out).1;have hgl:=(HK.out _ Ab.out).2;clear hu hN hp hs);obtain⟨⟨z0,z1,z2⟩,-⟩:=AV (BZ (x:=.slice x1 N y1) (y:=.slice x2 N y2) (z:=.slice x3 N y3) (HK.out _ Ab.out).1);exact Aj (v:=.agg #[.slice x1 N y1,.slice x2 N y2,.slice x3 N y3]) (by simp[results,Tryz.results59,go_sem,z0,z1,z2]) rfl (HF.out _ Ab.out N HN.out _ _ _ _ _ _ Bd.out)
 ·go_wp2_with (first|(go_at_call 15;refine(YM [2,3,2,3,5] 5 rfl (by decide) (by decide) g a len cap w1 _ HS2.out).mono ?_;rintro e w3 ⟨x,hx,rfl,Dy⟩;have Be:=hid ((HS2.out.alloc _).tr Dy);have hx1:2≤x∧x≤7:=(by simp at hx;omega);clear hx Dy)|(go_at_call 102;refine(AK0 _ hx1 g a len cap w1 _ Be.out).mono ?_;rintro e w6 ⟨N,x1,x2,x3,y1,y2,y3,hN,rfl,hp,hs⟩;have HN:=hid hN;have Ab:=hid (Be.out.tr hs);have Bd:=hid (hp.mono Be.out.2.2.size);obtain⟨⟨e0,e1,e2⟩,f0,f1,f2⟩:=AV (HK.out _ Ab.out).1;have hgl:=(HK.out _ Ab.out).2;clear hN hp hs));obtain⟨⟨z0,z1,z2⟩,-⟩:=AV (BZ (x:=.slice x1 N y1) (y:=.slice x2 N y2) (z:=.slice x3 N y3) (HK.out _ Ab.out).1);exact Aj (v:=.agg #[.slice x1 N y1,.slice x2 N y2,.slice x3 N y3]) (by simp[results,Tryz.results59,go_sem,z0,z1,z2]) rfl (HF.out _ Ab.out N HN.out _ _ _ _ _ _ Bd.out)
 ·go_upto_region 35 with(go_at_call 27;refine(FH.out _ _ HS2.out).mono ?_;rintro e w3 ⟨r,rfl,hr,Dy⟩;have Be:=hid (HS2.out.tr Dy);clear Dy);have CR:r=0∨r=1∨r=2∨r=3∨r=4∨r=5:=by omega
  clear hr;rcases CR with rfl|rfl|rfl|rfl|rfl|rfl
  ·go_wp2_with (go_at_call 103;refine(Vx 3 2 2 (by decide) (by decide) (by decide) _ _ _ (uJ _ [2,0] [0,2] rfl rfl)).mono ?_;intro e w6 hu;obtain⟨N,x1,x2,x3,y1,y2,y3,hN,rfl,hp,hs⟩:=GI.fas (((Be.out.alloc _).alloc _).alloc _) hu;have HN:=hid hN;have Ab:=hid hs;have Bd:=hid hp;obtain⟨⟨e0,e1,e2⟩,f0,f1,f2⟩:=AV (HK.out _ Ab.out).1;have hgl:=(HK.out _ Ab.out).2;clear hu hN hp hs);obtain⟨⟨z0,z1,z2⟩,-⟩:=AV (BZ (x:=.slice x1 N y1) (y:=.slice x2 N y2) (z:=.slice x3 N y3) (HK.out _ Ab.out).1);exact Aj (v:=.agg #[.slice x1 N y1,.slice x2 N y2,.slice x3 N y3]) (by simp[results,Tryz.results59,go_sem,z0,z1,z2]) rfl (HF.out _ Ab.out N HN.out _ _ _ _ _ _ Bd.out)
  ·go_wp2_with (go_at_call 103;refine(Vx 3 4 2 (by decide) (by decide) (by decide) _ _ _ (uJ _ [0,1] [2,0] rfl rfl)).mono ?_;intro e w6 hu;obtain⟨N,x1,x2,x3,y1,y2,y3,hN,rfl,hp,hs⟩:=GI.fas (((Be.out.alloc _).alloc _).alloc _) hu;have HN:=hid hN;have Ab:=hid hs;have Bd:=hid hp;obtain⟨⟨e0,e1,e2⟩,f0,f1,f2⟩:=AV (HK.out _ Ab.out).1;have hgl:=(HK.out _ Ab.out).2;clear hu hN hp hs);obtain⟨⟨z0,z1,z2⟩,-⟩:=AV (BZ (x:=.slice x1 N y1) (y:=.slice x2 N y2) (z:=.slice x3 N y3) (HK.out _ Ab.out).1);exact Aj (v:=.agg #[.slice x1 N y1,.slice x2 N y2,.slice x3 N y3]) (by simp[results,Tryz.results59,go_sem,z0,z1,z2]) rfl (HF.out _ Ab.out N HN.out _ _ _ _ _ _ Bd.out)
  ·go_wp2_with (go_at_call 103;refine(Vx 2 7 3 (by decide) (by decide) (by decide) _ _ _ (AEc _ [0,1,0] [0,0,1] [1,1,0] rfl rfl rfl)).mono ?_;intro e w6 hu;obtain⟨N,x1,x2,x3,y1,y2,y3,hN,rfl,hp,hs⟩:=GI.fas ((((Be.out.alloc _).alloc _).alloc _).alloc _) hu;have HN:=hid hN;have Ab:=hid hs;have Bd:=hid hp;obtain⟨⟨e0,e1,e2⟩,f0,f1,f2⟩:=AV (HK.out _ Ab.out).1;have hgl:=(HK.out _ Ab.out).2;clear hu hN hp hs);obtain⟨⟨z0,z1,z2⟩,-⟩:=AV (BZ (x:=.slice x1 N y1) (y:=.slice x2 N y2) (z:=.slice x3 N y3) (HK.out _ Ab.out).1);exact Aj (v:=.agg #[.slice x1 N y1,.slice x2 N y2,.slice x3 N y3]) (by simp[results,Tryz.results59,go_sem,z0,z1,z2]) rfl (HF.out _ Ab.out N HN.out _ _ _ _ _ _ Bd.out)
  ·go_wp2_with (go_at_call 103;refine(Vx 2 4 3 (by decide) (by decide) (by decide) _ _ _ (AEc _ [1,1,0] [0,1,1] [0,0,1] rfl rfl rfl)).mono ?_;intro e w6 hu;obtain⟨N,x1,x2,x3,y1,y2,y3,hN,rfl,hp,hs⟩:=GI.fas ((((Be.out.alloc _).alloc _).alloc _).alloc _) hu;have HN:=hid hN;have Ab:=hid hs;have Bd:=hid hp;obtain⟨⟨e0,e1,e2⟩,f0,f1,f2⟩:=AV (HK.out _ Ab.out).1;have hgl:=(HK.out _ Ab.out).2;clear hu hN hp hs);obtain⟨⟨z0,z1,z2⟩,-⟩:=AV (BZ (x:=.slice x1 N y1) (y:=.slice x2 N y2) (z:=.slice x3 N y3) (HK.out _ Ab.out).1);exact Aj (v:=.agg #[.slice x1 N y1,.slice x2 N y2,.slice x3 N y3]) (by simp[results,Tryz.results59,go_sem,z0,z1,z2]) rfl (HF.out _ Ab.out N HN.out _ _ _ _ _ _ Bd.out)
  ·go_wp2_with (go_at_call 103;refine(Vx 2 2 4 (by decide) (by decide) (by decide) _ _ _ (AMq _ [0,1,0,0] [1,0,0,0] [0,0,0,1] [0,0,1,0] rfl rfl rfl rfl)).mono ?_;intro e w6 hu;obtain⟨N,x1,x2,x3,y1,y2,y3,hN,rfl,hp,hs⟩:=GI.fas (((((Be.out.alloc _).alloc _).alloc _).alloc _).alloc _) hu;have HN:=hid hN;have Ab:=hid hs;have Bd:=hid hp;obtain⟨⟨e0,e1,e2⟩,f0,f1,f2⟩:=AV (HK.out _ Ab.out).1;have hgl:=(HK.out _ Ab.out).2;clear hu hN hp hs);obtain⟨⟨z0,z1,z2⟩,-⟩:=AV (BZ (x:=.slice x1 N y1) (y:=.slice x2 N y2) (z:=.slice x3 N y3) (HK.out _ Ab.out).1);exact Aj (v:=.agg #[.slice x1 N y1,.slice x2 N y2,.slice x3 N y3]) (by simp[results,Tryz.results59,go_sem,z0,z1,z2]) rfl (HF.out _ Ab.out N HN.out _ _ _ _ _ _ Bd.out)
  ·go_wp2_with (go_at_call 103;refine(Vx 5 3 2 (by decide) (by decide) (by decide) _ _ _ (uJ _ [0,1] [4,4] rfl rfl)).mono ?_;intro e w6 hu;obtain⟨N,x1,x2,x3,y1,y2,y3,hN,rfl,hp,hs⟩:=GI.fas (((Be.out.alloc _).alloc _).alloc _) hu;have HN:=hid hN;have Ab:=hid hs;have Bd:=hid hp;obtain⟨⟨e0,e1,e2⟩,f0,f1,f2⟩:=AV (HK.out _ Ab.out).1;have hgl:=(HK.out _ Ab.out).2;clear hu hN hp hs);obtain⟨⟨z0,z1,z2⟩,-⟩:=AV (BZ (x:=.slice x1 N y1) (y:=.slice x2 N y2) (z:=.slice x3 N y3) (HK.out _ Ab.out).1);exact Aj (v:=.agg #[.slice x1 N y1,.slice x2 N y2,.slice x3 N y3]) (by simp[results,Tryz.results59,go_sem,z0,z1,z2]) rfl (HF.out _ Ab.out N HN.out _ _ _ _ _ _ Bd.out)
 ·go_wp2_with (first|(go_at_call 27;refine(FH.out _ _ HS2.out).mono ?_;rintro e w3 ⟨r,rfl,hr,Dy⟩;have Be:=hid (HS2.out.tr Dy);have hr1:r<10:=(by omega);clear hr Dy)|(go_at_call 104;refine(ACG r hr1 _).mono ?_;intro e w6 hu;obtain⟨N,x1,x2,x3,y1,y2,y3,hN,rfl,hp,hs⟩:=GI.fas Be.out hu;have HN:=hid hN;have Ab:=hid hs;have Bd:=hid hp;obtain⟨⟨e0,e1,e2⟩,f0,f1,f2⟩:=AV (HK.out _ Ab.out).1;have hgl:=(HK.out _ Ab.out).2;clear hu hN hp hs));obtain⟨⟨z0,z1,z2⟩,-⟩:=AV (BZ (x:=.slice x1 N y1) (y:=.slice x2 N y2) (z:=.slice x3 N y3) (HK.out _ Ab.out).1);exact Aj (v:=.agg #[.slice x1 N y1,.slice x2 N y2,.slice x3 N y3]) (by simp[results,Tryz.results59,go_sem,z0,z1,z2]) rfl (HF.out _ Ab.out N HN.out _ _ _ _ _ _ Bd.out)
 ·go_wp2_with (first|(go_at_call 27;refine(FH.out _ _ HS2.out).mono ?_;rintro e w3 ⟨r,rfl,hr,Dy⟩;have Be:=hid (HS2.out.tr Dy);have hr1:r<10:=(by omega);clear hr Dy)|(go_at_call 104;refine(ACG r hr1 _).mono ?_;intro e w6 hu;obtain⟨N,x1,x2,x3,y1,y2,y3,hN,rfl,hp,hs⟩:=GI.fas Be.out hu;have HN:=hid hN;have Ab:=hid hs;have Bd:=hid hp;obtain⟨⟨e0,e1,e2⟩,f0,f1,f2⟩:=AV (HK.out _ Ab.out).1;have hgl:=(HK.out _ Ab.out).2;clear hu hN hp hs));obtain⟨⟨z0,z1,z2⟩,-⟩:=AV (BZ (x:=.slice x1 N y1) (y:=.slice x2 N y2) (z:=.slice x3 N y3) (HK.out _ Ab.out).1);exact Aj (v:=.agg #[.slice x1 N y1,.slice x2 N y2,.slice x3 N y3]) (by simp[results,Tryz.results59,go_sem,z0,z1,z2]) rfl (HF.out _ Ab.out N HN.out _ _ _ _ _ _ Bd.out)
end Go.Proofs.YtaadbccidfdniaaGreat.R9
namespace Go.Proofs.YtaadbccidfdniaaGreat.DwG
open Go.RowKit Go.Proofs.YtaadbccidfdniaaGreat AB Dp Cn Dm Df Cc NC Gl
theorem AIg (m n:Nat)(hmn:m+n≤100)(aO aP aC bO bP bC:Value)(w:World)(hA:PT 0 w m aO aP aC)(hB:PT 0 w n bO bP bC):
  Calls Tryz.prog 60 #[.agg #[aO,aP,aC],.agg #[bO,bP,bC]] w (LV (m+n) w):=by
 obtain⟨i0,hi,hz0,hz1,hz2⟩:=Bt FX;obtain⟨a1,c1,a2,c2,a3,c3,rfl,rfl,rfl⟩:=hA.form;obtain⟨b1,d1,b2,d2,b3,d3,rfl,rfl,rfl⟩:=hB.form;have HA:=hid hA;have HB:=hid hB;clear hA hB;go_enter Tryz.func60,Tryz.ntmps60;go_upto_region 1 with fail;obtain⟨w1,hw1⟩:∃w1,w1=(((w.alloc (.cells #[.slice a1 m c1,.slice a2 m c2,.slice a3 m c3] 28)).alloc (.cells #[.slice b1 n d1,.slice b2 n d2,.slice b3 n d3] 28)).alloc (.cells #[.slice none 0 0,.slice none 0 0,.slice none 0 0] 28)):=⟨_,rfl⟩;rw[←hw1];have G1:=hid (show w1.heap[w.heap.size]?=some (.cells #[.slice a1 m c1,.slice a2 m c2,.slice a3 m c3] 28 (0,0)) by rw[hw1,E5 _ _ _ (by simp;omega),E5 _ _ _ (by simp)];exact BA _ _);have G2:=hid (show w1.heap[w.heap.size+1]?=some (.cells #[.slice b1 n d1,.slice b2 n d2,.slice b3 n d3] 28 (0,0)) by rw[hw1,E5 _ _ _ (by simp)];exact(by have:=BA (w.alloc (.cells #[.slice a1 m c1,.slice a2 m c2,.slice a3 m c3] 28)) (.cells #[.slice b1 n d1,.slice b2 n d2,.slice b3 n d3] 28);simpa using this));have G3:=hid (show w1.heap[w.heap.size+1+1]?=some (.cells #[.slice none 0 0,.slice none 0 0,.slice none 0 0] 28 (0,0)) by rw[hw1];exact(by have:=BA ((w.alloc (.cells #[.slice a1 m c1,.slice a2 m c2,.slice a3 m c3] 28)).alloc (.cells #[.slice b1 n d1,.slice b2 n d2,.slice b3 n d3] 28)) (.cells #[.slice none 0 0,.slice none 0 0,.slice none 0 0] 28);simpa using this));have BI:=hid (show w1.heap.size=w.heap.size+3 by rw[hw1];simp);have HB1:=hid (show Below w.heap.size w w1 by rw[hw1];exact(((AX.alloc AR _).alloc (by simp) _).alloc (by simp;omega) _));clear hw1;obtain⟨⟨e0,e1,e2⟩,-⟩:=AV G1.out;obtain⟨⟨f0,f1,f2⟩,-⟩:=AV G2.out;go_cut [5,6] (fun u v W=>u= .int .i64 (m:Int)∧v= .int .i64 (n:Int)∧Below w1.heap.size w1 W∧W.heap.size=w1.heap.size);case first=>
  go_region_law (fail);all_goals
   go_wp2_with fail;go_meet;exact⟨rfl,rfl,AX.drew,rfl⟩
 case rest=>
  obtain⟨rfl,rfl,hbw,hsw⟩:=hcut;have K1:=hid (Ea hbw (by have:=BI.out;omega) G1.out);have K2:=hid (Ea hbw (by have:=BI.out;omega) G2.out);have K3:=hid (Ea hbw (by have:=BI.out;omega) G3.out);have HSc:=hid (show wc.heap.size=w.heap.size+3 from hsw.trans BI.out);have OD:=hid (HB1.out.trans (hbw.mono (by have:=BI.out;omega)));clear G1 G2 G3 BI HB1 hbw hsw e0 e1 e2 f0 f1 f2;have HA1:=hid (HA.out.ty (Ty.below OD.out));have QA:=hid (HB.out.ty (Ty.below OD.out));obtain⟨⟨e0,e1,e2⟩,-⟩:=AV K1.out;obtain⟨⟨f0,f1,f2⟩,-⟩:=AV K2.out;go_upto_region 2 with fail;obtain⟨wb,rfl⟩:∃wb,wb=wc:=⟨_,rfl⟩;obtain⟨lA,hla,hsA⟩:=HA1.out.1.sl;obtain⟨lB,hlb,hsB⟩:=QA.out.1.sl;have Jl:=hid (hsB.mono (S':=Any) fun _ _=>trivial);have HOWN:=hid (fun(W:World) (hk:AA Any wb W)=>(NY Any (.slice a1 m c1) lA W ((hsA.mono fun _ _=>trivial).keep hk) (by omega)).mono (R':=fun e w'=>∃g c,e= .returned (.slice (some ⟨g,0,none⟩) m c)∧w'.ownsRow W.heap.size 2 1 (.slice (some ⟨g,0,none⟩) m c) m (vals lA)∧Below W.heap.size W w') (by
   rintro e w2 ⟨g,c,rfl,ho,hb⟩;unfold Own at ho;rw[hla]at ho ⊢;exact⟨g,c,rfl,ho,hb⟩))
  have uK:=hid (fun(W:World) (v:Value) (h:AL Any W v (lA++lB))=>(fH (lA++lB) v W h (by rw[Cs];omega)).mono (R':=fun e w'=>∃x1 y1 x2 y2 x3 y3,e= .returned (.agg #[.slice x1 (m+n) y1,.slice x2 (m+n) y2,.slice x3 (m+n) y3])∧PT W.heap.size w' (m+n) (.slice x1 (m+n) y1) (.slice x2 (m+n) y2) (.slice x3 (m+n) y3)∧Below W.heap.size W w') (by
   rintro e w2 ⟨vO,vP,vC,rfl,hp,hb⟩;rw[Cs,hla,hlb]at hp;obtain⟨x1,y1,x2,y2,x3,y3,rfl,rfl,rfl⟩:=hp.form;exact⟨_,_,_,_,_,_,rfl,hp,hb⟩))
  have hw0:w.heap.size<wb.heap.size:=by have:=HSc.out;omega
  have RU:w.heap.size+1<wb.heap.size:=by have:=HSc.out;omega
  have EN:=hid (show lA.length=m∧lB.length=n from⟨hla,hlb⟩);clear hla hlb hsA hsB;go_cut [7] (fun tv W=>∃g x1 y1 x2 y2 x3 y3,tv= .pointer (some ⟨g,0,none⟩)∧Hid (PX wb.heap.size (m+n) W g (.slice x1 (m+n) y1) (.slice x2 (m+n) y2) (.slice x3 (m+n) y3))∧Hid (Below wb.heap.size wb W));case rest=>
   obtain⟨g,x1,y1,x2,y2,x3,y3,rfl,hX,Ji⟩:=hcut;obtain⟨N,hN⟩:∃N,m+n=N:=⟨_,rfl⟩;rw[hN]at hX;have HN:=hid hN;have hN6:N≤100:=by omega
   have K3':=K3;have AMr:=HSc;clear hN HOWN uK Jl HA HB EN K3 HSc e0 e1 e2 f0 f1 f2;go_wp2_with fail;go_loopw [8] (fun iv wr=>∃i:Nat,i≤m∧iv= .int .i64 (i:Int)∧Hid (PX wb.heap.size N wr g (.slice x1 N y1) (.slice x2 N y2) (.slice x3 N y3))∧Hid (Below wb.heap.size wb wr)) (fun iv _=>m-(intOf iv).toNat);case atStart=>exact⟨0,AU _,rfl,hX,Ji⟩
   case round=>
    clear hX Ji;obtain⟨i,hi,rfl,hX1,hB1⟩:=hrel;by_cases hlt:i<m
    ·have hki:(i:Int)<(m:Int):=by omega
     have Gb:(0:Int)≤(i:Int):=by omega
     have hkN:(i:Int)<(N:Int):=by have:=HN.out;omega
     have NF:i<N:=by have:=HN.out;omega
     have L1:=hid (Ea hB1.out hw0 K1.out);obtain⟨⟨e0,e1,e2⟩,-⟩:=AV L1.out;obtain⟨⟨p0,p1,p2⟩,-⟩:=AV hX1.out.1;have hgl:=hX1.out.lt;have hsz:=hB1.out.size;have Y7:w.heap.size<wr.heap.size:=Ai hw0 hsz;obtain⟨gp,rfl,hsl⟩:=hX1.out.Py NF;have Ay:=hid hsl;have Tu:¬w.heap.size=gp:=by have h:=hw0;have h2:=hsl.2.1;omega
     have DW:¬g=gp:=fun h=>by
      obtain⟨_,_,_,cur,u0,h4,_⟩:=hsl;have h5:=hX1.out.1;rw[h,h4]at h5;simp at h5
     clear hsl;obtain⟨ga,aa,ca,rfl,ha1,ha2,FQ⟩:=AEJ HA1.out hlt;have ha1:=((AA.of_below (S:=Any) hB1.out).cell trivial ha2).trans ha1;have Tv:¬ga=gp:=by have:=Ay.out.2.1;omega
     have ha2:=Ai ha2 hsz;have ER:=hid (fun(W:World) (hk:AA Any wr W)=>show Calls Tryz.prog 105 #[.int .i64 0,.slice aa m ca,.int .i64 (n:Int)] W (ShR N W) from by
      have h:=YD 0 n m (by omega) (by omega) (by omega) (.slice aa m ca) 0 W ((Ty.keep hk (fun _ _=>trivial)).one _ _ ((Ty.below hB1.out).one _ _ FQ));rw[show 0+m+n=N from by have:=HN.out;omega]at h;exact h)
     clear FQ;go_upto_region 6 with fail;go_region_held3 (fun w'=>(∀b o,b<wr.heap.size→¬b=gp→w'.cell? ⟨b,o,none⟩=wr.cell? ⟨b,o,none⟩)∧AA (fun k=>k≠gp) wr w')
      (first|exact Od (by repeat(first|exact AJ.drew|exact AA.refl _ _|refine AA.setCell ?_ (by simp) _|refine AA.trans ?_ (AA.of_below (by assumption)))))
      (first|(go_at_call 105;refine(ER.out _ (by repeat(first|exact AJ.drew|exact AA.refl _ _|refine AA.drew ?_|refine AA.trans ?_ (AA.of_below (by assumption))))).mono ?_;rintro e w6 ⟨g6,c6,rfl,CR,hb6⟩;have B6:Below wr.heap.size wr w6:=(by first|exact hb6|exact(AX.drew).trans hb6);have f6:=(Ay.out.below B6).1;obtain⟨u6,s6⟩:=(Ay.out.below B6).cell)|fail)
     rename_i hHd;clear hHd;obtain⟨w7,hw7⟩:∃w7,w6.setCell ⟨gp,i,none⟩ (.slice (some ⟨g6,0,none⟩) N c6)=w7:=⟨_,rfl⟩;have DX:=hid (show PX wb.heap.size N w7 g (.slice x1 N y1) (.slice (some ⟨gp,0,none⟩) N y2) (.slice x3 N y3) from by
      rw[←hw7];exact(Ay.out.below B6).put (hX1.out.below B6) (CR.mono (by first|exact hsz|simpa using hsz)))
     have BB:=hid (show Below wb.heap.size wb w7 from by
      rw[←hw7];exact(hB1.out.trans (B6.mono hsz)).setCell (p:=⟨gp,i,none⟩) Ay.out.2.1 _)
     rw[hw7];clear hw7 CR hb6 B6 f6 s6 ER ha1 Tv ha2 DW Tu Ay hgl p0 p1 p2 e0 e1 e2 L1 hX1 hB1 hsz Y7 hkN;obtain⟨mi,R5⟩:∃mi,m-(i+1)=mi:=⟨_,rfl⟩;go_wp2_with fail;go_loopw [9] (fun jv wr=>∃j:Nat,j≤mi∧jv= .int .i64 (j:Int)∧Hid (PX wb.heap.size N wr g (.slice x1 N y1) (.slice (some ⟨gp,0,none⟩) N y2) (.slice x3 N y3))∧Hid (Below wb.heap.size wb wr)) (fun jv _=>mi-(intOf jv).toNat);case atStart=>exact⟨0,AU _,rfl,DX,BB⟩
     case round=>
      clear DX BB;obtain⟨j,hj,rfl,hX1,hB1⟩:=hrel;have L1:=hid (Ea hB1.out hw0 K1.out);obtain⟨⟨e0,e1,e2⟩,-⟩:=AV L1.out;have hsz:=hB1.out.size;have Y7:w.heap.size<wr.heap.size:=Ai hw0 hsz;obtain⟨gq,aq,cq,rfl,hq1,hq2,hq3⟩:=tZ HA1.out hlt;have Z8:=((AA.of_below (S:=Any) hB1.out).cell trivial hq2).trans hq1;rw[R5]at Z8 hq3;have AEO:=Ai hq2 hsz;by_cases hlj:j<mi
      ·have hkj:(j:Int)<(mi:Int):=by omega
       have tu:(0:Int)≤(j:Int):=by omega
       have hkN:(i:Int)<(N:Int):=by have:=HN.out;omega
       obtain⟨⟨p0,p1,p2⟩,-⟩:=AV hX1.out.1;have hgl:=hX1.out.lt;obtain⟨ni,hni⟩:∃ni,N-(i+1)=ni:=⟨_,rfl⟩;obtain⟨gc,gr,yr,rfl,hc1,hc2,hsl⟩:=hX1.out.Vv (i:=i) (j:=j) NF (by have:=HN.out;omega);rw[hni]at hc1;have hjn:(j:Int)<(ni:Int):=by have:=HN.out;omega
       have Ay:=hid hsl;have Tu:¬w.heap.size=gr:=by have h:=hw0;have h2:=hsl.2.1;omega
       have DW:¬g=gr:=fun h=>by
        obtain⟨_,_,_,cur,u0,h4,_⟩:=hsl;have h5:=hX1.out.1;rw[h,h4]at h5;simp at h5
       have Y4:¬gc=gr:=fun h=>by
        obtain⟨gc',u,e,h1,h2,h3,h4⟩:=hX1.out.2.2.2.2.at (Sn NF);obtain⟨us,q1,_⟩:=hX1.out.2.2.2.2;obtain⟨_,_,_,cur,u0,h5,_⟩:=hsl;exact Pj q1 h5 (by decide) (by rw[h];rfl)
       clear hsl;obtain⟨ga,aa,ca,rfl,ha1,ha2,FQ⟩:=Vw hq3 hlj;have ha1:=((AA.of_below (S:=Any) hB1.out).cell trivial ha2).trans ha1;have Tv:¬ga=gr:=by have:=Ay.out.2.1;omega
       have AMs:¬gq=gr:=by have:=Ay.out.2.1;omega
       have ha2:=Ai ha2 hsz;have ER:=hid (fun(W:World) (hk:AA Any wr W)=>show Calls Tryz.prog 105 #[.int .i64 0,.slice aa m ca,.int .i64 (n:Int)] W (ShR N W) from by
        have h:=YD 0 n m (by omega) (by omega) (by omega) (.slice aa m ca) 0 W ((Ty.keep hk (fun _ _=>trivial)).one _ _ ((Ty.below hB1.out).one _ _ FQ));rw[show 0+m+n=N from by have:=HN.out;omega]at h;exact h)
       have xx:j≤100:=by omega
       clear FQ hq3 hq1 hq2;go_upto_region 10 with fail;go_region_held3 (fun w'=>(∀b o,b<wr.heap.size→¬b=gr→w'.cell? ⟨b,o,none⟩=wr.cell? ⟨b,o,none⟩)∧AA (fun k=>k≠gr) wr w')
        (first|exact Od (by repeat(first|exact AJ.drew|exact AA.refl _ _|refine AA.setCell ?_ (by simp) _|refine AA.trans ?_ (AA.of_below (by assumption)))))
        (first|(go_at_call 105;refine(ER.out _ (by repeat(first|exact AJ.drew|exact AA.refl _ _|refine AA.drew ?_|refine AA.trans ?_ (AA.of_below (by assumption))))).mono ?_;rintro e w6 ⟨g6,c6,rfl,CR,hb6⟩;have B6:Below wr.heap.size wr w6:=(by first|exact hb6|exact(AX.drew).trans hb6);have f6:=(Ay.out.below B6).1;obtain⟨u6,s6⟩:=(Ay.out.below B6).cell)|fail)
       rename_i hHd;clear hHd;have DX:=hid (show PX wb.heap.size N (w6.setCell ⟨gr,j,none⟩ (.slice (some ⟨g6,0,none⟩) N c6)) g (.slice x1 N y1) (.slice (some ⟨gp,0,none⟩) N y2) (.slice (some ⟨gc,0,none⟩) N y3) from
        (Ay.out.below B6).put (hX1.out.below B6) (CR.mono (by first|exact hsz|simpa using hsz)))
       have BB:=hid (show Below wb.heap.size wb (w6.setCell ⟨gr,j,none⟩ (.slice (some ⟨g6,0,none⟩) N c6)) from
        (hB1.out.trans (B6.mono hsz)).setCell (p:=⟨gr,j,none⟩) Ay.out.2.1 _)
       clear CR hb6 B6 f6 s6 ER ha1 Tv ha2 DW Tu Ay hgl p0 p1 p2 e0 e1 e2 L1 hX1 hB1;go_wp2_with fail;go_roundw;case rel=>exact⟨j+1,by omega,by go_num,DX,BB⟩
       case measure=>simp[intOf];omega
      ·obtain rfl:mi=j:=by omega
       have lW:¬(mi:Int)<(mi:Int):=by omega
       have Lu:i≤100:=by omega
       clear hq3;go_wp2_with fail;go_roundw;case rel=>exact⟨i+1,by omega,by go_num,hX1,hB1⟩
       case measure=>simp[intOf];omega
    ·obtain rfl:m=i:=by omega
     have hnl:¬(m:Int)<(m:Int):=by omega
     clear hlt;go_wp2_with fail;go_loopw [10] (fun iv wr=>∃i:Nat,i≤n∧iv= .int .i64 (i:Int)∧Hid (PX wb.heap.size N wr g (.slice x1 N y1) (.slice x2 N y2) (.slice x3 N y3))∧Hid (Below wb.heap.size wb wr)) (fun iv _=>n-(intOf iv).toNat);case atStart=>exact⟨0,AU _,rfl,hX1,hB1⟩
     case round=>
      clear hX1 hB1;obtain⟨i,hi,rfl,hX1,hB1⟩:=hrel;by_cases hlt:i<n
      ·have hki:(i:Int)<(n:Int):=by omega
       have Gb:(0:Int)≤(i:Int):=by omega
       have hkN:(m:Int)+(i:Int)<(N:Int):=by have:=HN.out;omega
       have hwm:IntKind.i64.wrap ((m:Int)+(i:Int))=(m:Int)+(i:Int):=AY _ (by omega);have AMt:(0:Int)≤(m:Int)+(i:Int):=by omega
       have htn:((m:Int)+(i:Int)).toNat=m+i:=by omega
       have NF:(m+i)<N:=by have:=HN.out;omega
       have L1:=hid (Ea hB1.out RU K2.out);obtain⟨⟨e0,e1,e2⟩,-⟩:=AV L1.out;obtain⟨⟨p0,p1,p2⟩,-⟩:=AV hX1.out.1;have hgl:=hX1.out.lt;have hsz:=hB1.out.size;have Y7:(w.heap.size+1)<wr.heap.size:=Ai RU hsz;obtain⟨gp,rfl,hsl⟩:=hX1.out.Py NF;have Ay:=hid hsl;have Tu:¬(w.heap.size+1)=gp:=by have h:=RU;have h2:=hsl.2.1;omega
       have DW:¬g=gp:=fun h=>by
        obtain⟨_,_,_,cur,u0,h4,_⟩:=hsl;have h5:=hX1.out.1;rw[h,h4]at h5;simp at h5
       clear hsl;obtain⟨ga,aa,ca,rfl,ha1,ha2,FQ⟩:=AEJ QA.out hlt;have ha1:=((AA.of_below (S:=Any) hB1.out).cell trivial ha2).trans ha1;have Tv:¬ga=gp:=by have:=Ay.out.2.1;omega
       have ha2:=Ai ha2 hsz;have ER:=hid (fun(W:World) (hk:AA Any wr W)=>show Calls Tryz.prog 105 #[.int .i64 (m:Int),.slice aa n ca,.int .i64 0] W (ShR N W) from by
        have h:=YD m 0 n (by omega) (by omega) (by omega) (.slice aa n ca) 0 W ((Ty.keep hk (fun _ _=>trivial)).one _ _ ((Ty.below hB1.out).one _ _ FQ));rw[show m+n+0=N from by have:=HN.out;omega]at h;exact h)
       clear FQ;go_upto_region 14 with fail;go_region_held3 (fun w'=>(∀b o,b<wr.heap.size→¬b=gp→w'.cell? ⟨b,o,none⟩=wr.cell? ⟨b,o,none⟩)∧AA (fun k=>k≠gp) wr w')
        (first|exact Od (by repeat(first|exact AJ.drew|exact AA.refl _ _|refine AA.setCell ?_ (by simp) _|refine AA.trans ?_ (AA.of_below (by assumption)))))
        (first|(go_at_call 105;refine(ER.out _ (by repeat(first|exact AJ.drew|exact AA.refl _ _|refine AA.drew ?_|refine AA.trans ?_ (AA.of_below (by assumption))))).mono ?_;rintro e w6 ⟨g6,c6,rfl,CR,hb6⟩;have B6:Below wr.heap.size wr w6:=(by first|exact hb6|exact(AX.drew).trans hb6);have f6:=(Ay.out.below B6).1;obtain⟨u6,s6⟩:=(Ay.out.below B6).cell)|fail)
       rename_i hHd;clear hHd;obtain⟨w7,hw7⟩:∃w7,w6.setCell ⟨gp,(m+i),none⟩ (.slice (some ⟨g6,0,none⟩) N c6)=w7:=⟨_,rfl⟩;have DX:=hid (show PX wb.heap.size N w7 g (.slice x1 N y1) (.slice (some ⟨gp,0,none⟩) N y2) (.slice x3 N y3) from by
        rw[←hw7];exact(Ay.out.below B6).put (hX1.out.below B6) (CR.mono (by first|exact hsz|simpa using hsz)))
       have BB:=hid (show Below wb.heap.size wb w7 from by
        rw[←hw7];exact(hB1.out.trans (B6.mono hsz)).setCell (p:=⟨gp,(m+i),none⟩) Ay.out.2.1 _)
       rw[hw7];clear hw7 CR hb6 B6 f6 s6 ER ha1 Tv ha2 DW Tu Ay hgl p0 p1 p2 e0 e1 e2 L1 hX1 hB1 hsz Y7 hkN;obtain⟨mi,R5⟩:∃mi,n-(i+1)=mi:=⟨_,rfl⟩;go_wp2_with fail;go_loopw [11] (fun jv wr=>∃j:Nat,j≤mi∧jv= .int .i64 (j:Int)∧Hid (PX wb.heap.size N wr g (.slice x1 N y1) (.slice (some ⟨gp,0,none⟩) N y2) (.slice x3 N y3))∧Hid (Below wb.heap.size wb wr)) (fun jv _=>mi-(intOf jv).toNat);case atStart=>exact⟨0,AU _,rfl,DX,BB⟩
       case round=>
        clear DX BB;obtain⟨j,hj,rfl,hX1,hB1⟩:=hrel;have L1:=hid (Ea hB1.out RU K2.out);obtain⟨⟨e0,e1,e2⟩,-⟩:=AV L1.out;have hsz:=hB1.out.size;have Y7:(w.heap.size+1)<wr.heap.size:=Ai RU hsz;obtain⟨gq,aq,cq,rfl,hq1,hq2,hq3⟩:=tZ QA.out hlt;have Z8:=((AA.of_below (S:=Any) hB1.out).cell trivial hq2).trans hq1;rw[R5]at Z8 hq3;have AEO:=Ai hq2 hsz;by_cases hlj:j<mi
        ·have hkj:(j:Int)<(mi:Int):=by omega
         have tu:(0:Int)≤(j:Int):=by omega
         have hkN:(m:Int)+(i:Int)<(N:Int):=by have:=HN.out;omega
         have hwm:IntKind.i64.wrap ((m:Int)+(i:Int))=(m:Int)+(i:Int):=AY _ (by omega);have AMt:(0:Int)≤(m:Int)+(i:Int):=by omega
         have htn:((m:Int)+(i:Int)).toNat=m+i:=by omega
         obtain⟨⟨p0,p1,p2⟩,-⟩:=AV hX1.out.1;have hgl:=hX1.out.lt;obtain⟨ni,hni⟩:∃ni,N-((m+i)+1)=ni:=⟨_,rfl⟩;obtain⟨gc,gr,yr,rfl,hc1,hc2,hsl⟩:=hX1.out.Vv (i:=(m+i)) (j:=j) NF (by have:=HN.out;omega);rw[hni]at hc1;have hjn:(j:Int)<(ni:Int):=by have:=HN.out;omega
         have Ay:=hid hsl;have Tu:¬(w.heap.size+1)=gr:=by have h:=RU;have h2:=hsl.2.1;omega
         have DW:¬g=gr:=fun h=>by
          obtain⟨_,_,_,cur,u0,h4,_⟩:=hsl;have h5:=hX1.out.1;rw[h,h4]at h5;simp at h5
         have Y4:¬gc=gr:=fun h=>by
          obtain⟨gc',u,e,h1,h2,h3,h4⟩:=hX1.out.2.2.2.2.at (Sn NF);obtain⟨us,q1,_⟩:=hX1.out.2.2.2.2;obtain⟨_,_,_,cur,u0,h5,_⟩:=hsl;exact Pj q1 h5 (by decide) (by rw[h];rfl)
         clear hsl;obtain⟨ga,aa,ca,rfl,ha1,ha2,FQ⟩:=Vw hq3 hlj;have ha1:=((AA.of_below (S:=Any) hB1.out).cell trivial ha2).trans ha1;have Tv:¬ga=gr:=by have:=Ay.out.2.1;omega
         have AMs:¬gq=gr:=by have:=Ay.out.2.1;omega
         have ha2:=Ai ha2 hsz;have ER:=hid (fun(W:World) (hk:AA Any wr W)=>show Calls Tryz.prog 105 #[.int .i64 (m:Int),.slice aa n ca,.int .i64 0] W (ShR N W) from by
          have h:=YD m 0 n (by omega) (by omega) (by omega) (.slice aa n ca) 0 W ((Ty.keep hk (fun _ _=>trivial)).one _ _ ((Ty.below hB1.out).one _ _ FQ));rw[show m+n+0=N from by have:=HN.out;omega]at h;exact h)
         have xx:j≤100:=by omega
         clear FQ hq3 hq1 hq2;go_upto_region 18 with fail;go_region_held3 (fun w'=>(∀b o,b<wr.heap.size→¬b=gr→w'.cell? ⟨b,o,none⟩=wr.cell? ⟨b,o,none⟩)∧AA (fun k=>k≠gr) wr w')
          (first|exact Od (by repeat(first|exact AJ.drew|exact AA.refl _ _|refine AA.setCell ?_ (by simp) _|refine AA.trans ?_ (AA.of_below (by assumption)))))
          (first|(go_at_call 105;refine(ER.out _ (by repeat(first|exact AJ.drew|exact AA.refl _ _|refine AA.drew ?_|refine AA.trans ?_ (AA.of_below (by assumption))))).mono ?_;rintro e w6 ⟨g6,c6,rfl,CR,hb6⟩;have B6:Below wr.heap.size wr w6:=(by first|exact hb6|exact(AX.drew).trans hb6);have f6:=(Ay.out.below B6).1;obtain⟨u6,s6⟩:=(Ay.out.below B6).cell)|fail)
         rename_i hHd;clear hHd;have DX:=hid (show PX wb.heap.size N (w6.setCell ⟨gr,j,none⟩ (.slice (some ⟨g6,0,none⟩) N c6)) g (.slice x1 N y1) (.slice (some ⟨gp,0,none⟩) N y2) (.slice (some ⟨gc,0,none⟩) N y3) from
          (Ay.out.below B6).put (hX1.out.below B6) (CR.mono (by first|exact hsz|simpa using hsz)))
         have BB:=hid (show Below wb.heap.size wb (w6.setCell ⟨gr,j,none⟩ (.slice (some ⟨g6,0,none⟩) N c6)) from
          (hB1.out.trans (B6.mono hsz)).setCell (p:=⟨gr,j,none⟩) Ay.out.2.1 _)
         clear CR hb6 B6 f6 s6 ER ha1 Tv ha2 DW Tu Ay hgl p0 p1 p2 e0 e1 e2 L1 hX1 hB1;go_wp2_with fail;go_roundw;case rel=>exact⟨j+1,by omega,by go_num,DX,BB⟩
         case measure=>simp[intOf];omega
        ·obtain rfl:mi=j:=by omega
         have lW:¬(mi:Int)<(mi:Int):=by omega
         have Lu:i≤100:=by omega
         clear hq3;go_wp2_with fail;go_roundw;case rel=>exact⟨i+1,by omega,by go_num,hX1,hB1⟩
         case measure=>simp[intOf];omega
      ·obtain rfl:n=i:=by omega
       have hnl:¬(n:Int)<(n:Int):=by omega
       clear hlt;have hgs:w.heap.size+1+1<wb.heap.size:=by have:=AMr.out;omega
       have LG:=hid (Ea hB1.out hgs K3'.out);obtain⟨⟨e0,e1,e2⟩,-⟩:=AV hX1.out.1;obtain⟨⟨f0,f1,f2⟩,q0,q1,q2⟩:=AV LG.out;have Ii:=hid (show LV (m+n) w (.returned (.agg #[.slice x1 N y1,.slice x2 N y2,.slice x3 N y3])) (((wr.setCell ⟨w.heap.size+1+1,0,none⟩ (.slice x1 N y1)).setCell ⟨w.heap.size+1+1,1,none⟩ (.slice x2 N y2)).setCell ⟨w.heap.size+1+1,2,none⟩ (.slice x3 N y3)) from by
        rw[HN.out];refine⟨_,_,_,rfl,?_,?_⟩
        ·exact(hX1.out.2.2.ty (Ty.keep (S:=fun k=>wb.heap.size≤k) ((((AA.refl _ wr).setCell (by simp;omega) _).setCell (by simp;omega) _).setCell (by simp;omega) _) fun _ h=>h)).mono (by omega)
        ·exact(((OD.out.trans (hB1.out.mono (by omega))).setCell (p:=⟨w.heap.size+1+1,0,none⟩) (by simp;omega) _).setCell (p:=⟨w.heap.size+1+1,1,none⟩) (by simp;omega) _).setCell (p:=⟨w.heap.size+1+1,2,none⟩) (by simp;omega) _)
       clear hX1 hB1;go_wp2_with fail;obtain⟨⟨z0,z1,z2⟩,-⟩:=AV (BZ (x:=.slice x1 N y1) (y:=.slice x2 N y2) (z:=.slice x3 N y3) LG.out);exact Aj (v:=.agg #[.slice x1 N y1,.slice x2 N y2,.slice x3 N y3]) (by simp[results,Tryz.results60,go_sem,z0,z1,z2]) rfl Ii.out
  have DV:=hid (show(lA++lB).length=m+n by rw[Cs,EN.out.1,EN.out.2]);go_region_law
   (first|(go_simp;go_at_call 63;refine(HOWN.out _ (by repeat(first|exact AJ.drew|exact AA.refl _ _|refine AA.drew ?_|refine AA.alloc ?_ _|refine AA.trans ?_ (AA.of_below (by assumption))))).mono ?_;rintro e w2 ⟨gO,cO,rfl,ho2,hb2⟩;have k2:=(show AA Any wb w2 from(by repeat(first|exact AJ.drew|exact AA.refl _ _|refine AA.drew ?_|refine AA.alloc ?_ _|refine AA.trans ?_ (AA.of_below (by assumption)))));have x0:=(k2.cell (b:=w.heap.size+1) (o:=0) trivial RU).trans f0;have s2:=k2.size;have hw2:w.heap.size+1<w2.heap.size:=Ai RU s2;have mF:=(Af ho2 gO rfl);have B2:Below wb.heap.size wb w2:=(by first|exact hb2|exact(AX.drew).trans hb2|exact((AX.drew).alloc AR _).trans (hb2.mono (by simp))|exact(AX.alloc AR _).trans (hb2.mono (by simp)));first|(have A2:w2.heap[wb.heap.size]?=some CG:=Ea hb2 (by simp) (BA _ _);have gA2:wb.heap.size≠gO:=(by have:=mF.1;simp at this;omega))|(have N2:True:=trivial))|(refine AIY (by rfl) _ _ (by rfl) wb.heap.size gO m cO n d1 lA lB b1 (by rfl) (JI (B':=wb.heap.size) (Br ho2 (S:=Any) (by repeat(first|exact AJ.drew|exact AA.refl _ _|refine AA.drew ?_|refine AA.alloc ?_ _|refine AA.trans ?_ (AA.of_below (by assumption)))) (fun _ _=>trivial)) (by first|exact Av _|(simp;done)|(simp;omega))) (by rfl) (Jl.out.keep (by repeat(first|exact AJ.drew|exact AA.refl _ _|refine AA.drew ?_|refine AA.alloc ?_ _|refine AA.trans ?_ (AA.of_below (by assumption))))) (by omega) (by first|exact s2|(simp;omega)) ?_;intro gN cN w5 Aw hg5;have B5:Below wb.heap.size wb w5:=(by first|exact B2.grown hg5 s2 (by intro b hb;injection hb with hb;have:=mF.1;simp at this;omega)|exact(B2.alloc s2 _).grown hg5 (by simp;omega) (by intro b hb;injection hb with hb;have:=mF.1;simp at this;omega));have s5:=B5.size;first|(have A5:w5.heap[wb.heap.size]?=some CG:=(hg5.block _ (Ba.1 A2).1 (fun h=>gA2 (by injection h))).trans A2;have l5:=(Ba.1 A5).1)|(have C5:w5.heap[w2.heap.size]?=some CG:=(hg5.block _ (by simp) (fun h=>by injection h with h;have:=mF.2;omega)).trans (BA _ _);have l5:=(Ba.1 C5).1)|(have N5:True:=trivial))|(go_simp;go_at_call 61;refine(uK.out _ _ ((LM Aw DV.out).keep (by repeat(first|exact AJ.drew|exact AA.refl _ _|refine AA.drew ?_|refine AA.alloc ?_ _|refine AA.trans ?_ (AA.of_below (by assumption)))))).mono ?_;rintro e w6 ⟨x1,y1,x2,y2,x3,y3,rfl,I4,hb6⟩;have B6:Below wb.heap.size wb w6:=(by first|exact B5.trans (hb6.mono s5)|exact(B5.alloc s5 _).trans (hb6.mono (by simp;omega)));first|(have A6:w6.heap[wb.heap.size]?=some CG:=Ea hb6 l5 A5;obtain⟨⟨z0,z1,z2⟩,q0,q1,q2⟩:=AV A6;have F6:=(show jU wb w6 _ _ _ _ _ from⟨A6,Av _,⟨_,I4,l5⟩,B6⟩))|(have C6:w6.heap[w2.heap.size]?=some CG:=Ea hb6 l5 C5;obtain⟨⟨z0,z1,z2⟩,q0,q1,q2⟩:=AV C6;have F6:=(show jU wb w6 _ _ _ _ _ from⟨C6,s2,⟨_,I4,l5⟩,B6⟩))|(have D6:w6.heap[w5.heap.size]?=some CG:=Ea hb6 (by simp) (BA _ _);obtain⟨⟨z0,z1,z2⟩,q0,q1,q2⟩:=AV D6;have F6:=(show jU wb w6 _ _ _ _ _ from⟨D6,s5,⟨_,I4,by simp⟩,B6⟩))|(have N6:=(show AEK wb w6 _ _ _ _ from⟨⟨_,I4,s5⟩,B6⟩))))
  all_goals
   clear HOWN uK Jl;go_wp2_with fail;go_meet;first|exact AJr F6|exact AJs N6
end Go.Proofs.YtaadbccidfdniaaGreat.DwG
