import Derived.Test.YtaadbccidfdniaaGreatZ0
import Derived.Test.YtaadbccidfdniaaGreatZj
import Derived.Deep.CutBlock
import Derived.Test.YtaadbccidfdniaaGreatZf
/-
  Lemmas for the law FnCopies, in short spelling.
-/
open Go.Lib (hid)
set_option linter.unusedVariables false
set_option linter.unusedSimpArgs false
set_option maxRecDepth 100000
set_option maxHeartbeats 40000000
namespace Go.Proofs.YtaadbccidfdniaaGreat.Um
open Go.RowKit Go.Proofs.YtaadbccidfdniaaGreat AB Val Dp Cn Dm Df Cc Gl O9 O7 QW PE R9
open Go.Proofs.YtaadbccidfdniaaGreat.XA (Ty.box Ty.Kn)
structure Bx (g:Nat)(a:Option Addr)(len cap:Nat)(w w1:World)(g0:Nat):Prop where
 hh:Sr g a len cap w w
 s1:w1.heap.size=g0+1
 z:w.heap.size=g0
 k1:w1.heap[g0]?=some CG
 s:Sr g a len cap w1 w1
 sw:Sr g a len cap w w1
theorem Sr.here {g len cap:Nat}{a:Option Addr}{w W:World}(h:Sr g a len cap w W):Sr g a len cap W W:=⟨h.1,h.2.1,VW _ _⟩
theorem Bx.new {g len cap:Nat}{a:Option Addr}{w:World}(h:Sr g a len cap w w):Bx g a len cap w (w.alloc CG) w.heap.size:=
 ⟨h,by simp,rfl,BA _ _,Sr.here (h.alloc _),h.alloc _⟩
theorem Bx.k {g len cap g0:Nat}{a:Option Addr}{w w1 W:World}(h:Bx g a len cap w w1 g0)(hS:Sr g a len cap w1 W):W.heap[g0]?=some CG∧g0<W.heap.size:=
 ⟨(hS.2.2.block g0 (by rw[h.s1];omega) (fun e=>by injection e with e;have:=h.hh.lt;have:=h.z;omega)).trans h.k1,by have:=hS.2.2.size;rw[h.s1]at this;omega⟩
theorem Bx.sr {g len cap g0:Nat}{a:Option Addr}{w w1 W:World}(h:Bx g a len cap w w1 g0)(hS:Sr g a len cap w1 W)(x y z:Value):Sr g a len cap w (((W.setCell ⟨g0,0,none⟩ x).setCell ⟨g0,1,none⟩ y).setCell ⟨g0,2,none⟩ z):=
 (h.sw.tr hS).Tt h.hh (Nat.le_of_eq h.z) _ _ _
theorem Bx.fin {b g len cap g0 N y1 y2 y3:Nat}{a x1 x2 x3:Option Addr}{w w1 W:World}(h:Bx g a len cap w w1 g0)(hS:Sr g a len cap w1 W)(hN:N≤b)(hP:PT w1.heap.size W N (.slice x1 N y1) (.slice x2 N y2) (.slice x3 N y3)):
  MG b g a len cap w (.returned (.agg #[.slice x1 N y1,.slice x2 N y2,.slice x3 N y3])) (((W.setCell ⟨g0,0,none⟩ (.slice x1 N y1)).setCell ⟨g0,1,none⟩ (.slice x2 N y2)).setCell ⟨g0,2,none⟩ (.slice x3 N y3)):=
 ⟨N,_,_,_,_,_,_,hN,rfl,(hP.ty (Ty.Kn (h.k hS).1)).mono (by rw[h.s1,h.z];omega),h.sr hS _ _ _⟩
theorem Yg {B:Nat}(w:World)(o:Obj):Ty B w (w.alloc o):=Ty.keep (S:=Any) ((AA.refl _ w).alloc o) fun _ _=>trivial
theorem AJ1 (lim:Int)(g:Nat)(a:Option Addr)(len cap:Nat)(w:World)(h:Sr g a len cap w w):Calls Tryz.prog 28 #[.pointer (some ⟨g,0,none⟩),.int .i64 lim] w (MG 24 g a len cap w):=by
 obtain⟨w1,hw1⟩:∃w1,w1=w.alloc CG:=⟨_,rfl⟩;obtain⟨g0,hg0⟩:∃g0,w.heap.size=g0:=⟨_,rfl⟩;have HX:=hid (show Bx g a len cap w w1 g0 by rw[hw1,←hg0];exact Bx.new h);have HFM:=hid (fun(W:World) (hS:Sr g a len cap w1 W)=>AJ0 g a len cap W (Sr.here hS));have Eb:=hid (show g<w1.heap.size from HX.out.s.lt);clear h;go_enter Tryz.func28,Tryz.ntmps28;go_upto_region 1 with fail;rw[←hw1];clear hw1 hg0;go_wp2_with fail;go_loopw [5] (fun iv wr=>∃i:Nat,i≤12∧iv= .int .i64 (i:Int)∧Hid (Sr g a len cap w1 wr)) (fun iv _=>12-(intOf iv).toNat);case atStart=>exact⟨0,by omega,rfl,hid HX.out.s⟩
 case round=>
  obtain⟨i,hi,rfl,hS⟩:=hrel;by_cases hlt:i<12
  ·have hki:(i:Int)<12:=by omega
   go_upto_region 5 with(go_at_call 59;refine(HFM.out _ hS.out).mono ?_;rintro e w2 ⟨N,x1,x2,x3,y1,y2,y3,hN,rfl,hp,hs⟩);obtain⟨gp,DW⟩:∃gp,w2.heap.size=gp:=⟨_,rfl⟩;obtain⟨w3,hw3⟩:∃w3,w3=w2.alloc (.cells #[.slice x1 N y1,.slice x2 N y2,.slice x3 N y3] 28):=⟨_,rfl⟩;rw[←hw3,DW];have Be:=hid (show Sr g a len cap w1 w3 by rw[hw3];exact(hS.out.tr hs).alloc _);have Ev:=hid (show PX w1.heap.size N w3 gp (.slice x1 N y1) (.slice x2 N y2) (.slice x3 N y3) by rw[hw3,←DW];exact MW hp hS.out.2.2.size (hS.out.tr hs).2.2.size);have Fu:=hid (show w1.heap.size≤gp from Ev.out.2.1);have HN:=hid hN;clear hN hp hs DW hw3 hS;go_upto_if 15 with(go_at_call 27;refine(Ma 3 g a len cap w1 _ Be.out).mono ?_;rintro e w4 ⟨r,rfl,hr,IV⟩;have BF:=hid (Be.out.tr IV);have BP:=hid (JO Ev.out IV.2.2 Eb.out);clear IV);go_cut [6] (fun v W=>v= .pointer (some ⟨gp,0,none⟩)∧Hid (∃N x1 y1 x2 y2 x3 y3,N≤24∧PX w1.heap.size N W gp (.slice x1 N y1) (.slice x2 N y2) (.slice x3 N y3))∧Hid (Sr g a len cap w1 W));case first=>
    by_cases hr0:r=0
    ·subst hr0;obtain⟨⟨d0,d1,d2⟩,f0,f1,f2⟩:=AV BP.out.1;have hgl:=BP.out.lt;clear hr;go_wp2_with fail;go_region_law
      (first|(go_simp;go_at_call 59;refine(HFM.out _ (by first|exact BF.out|exact BF.out.drew)).mono ?_;rintro e w5 ⟨M,X1,X2,X3,Y1,Y2,Y3,hM,rfl,hp,hs⟩;have Ew:=hid (show Sr g a len cap w1 w5 from(by first|exact BF.out.tr hs|exact BF.out.drew.tr hs));have Dx:=hid (show PX w1.heap.size N w5 gp (.slice x1 N y1) (.slice x2 N y2) (.slice x3 N y3) from(by first|exact JO BP.out hs.2.2 Eb.out|exact JO BP.out (X0 hs.2.2) Eb.out));have aH:=hid (hp.mono (AU _));have HM:=hid hM;obtain⟨⟨c0,c1,c2⟩,k0,k1,k2⟩:=AV Dx.out.1;have AEb:=Dx.out.lt;clear hp hs hM)|(go_simp;go_at_call 60;refine((DwG.AIg N M (by have:=HN.out;have:=HM.out;omega) _ _ _ _ _ _ w5 (Dx.out.2.2.mono (AU _)) aH.out).mono fun e w' h=>LV.un (b:=24) h (by have:=HN.out;have:=HM.out;omega)).mono ?_;rintro e w6 ⟨K,z1,z2,z3,u1,u2,u3,hK,rfl,hp,hb⟩;have Ab:=hid (Ew.out.below hb);have Bd:=hid (Dx.out.below hb);have HQ6:=hid (hp.mono Ew.out.2.2.size);have HKK:=hid hK;obtain⟨⟨b0,b1,b2⟩,l0,l1,l2⟩:=AV Bd.out.1;have Nt:=Bd.out.lt;clear hp hb hK)|(fail))
     all_goals
      go_wp2_with fail;go_meet;exact⟨rfl,hid ⟨K,_,_,_,_,_,_,HKK.out,PX.BZ Bd.out.1 Fu.out HQ6.out⟩,hid (Ab.out.Tt HX.out.s Fu.out _ _ _)⟩
    ·have Wu:((r:Int)==0)=false:=LZ.2 (by omega);clear hr;go_wp2_with fail;go_meet;exact⟨rfl,hid ⟨N,_,_,_,_,_,_,by have:=HN.out;omega,BP.out⟩,BF⟩
   case rest=>
    obtain⟨rfl,hQ,ET⟩:=hcut;rename World=>w7;clear Be BF Ev BP HN hr;obtain⟨M,X1,Y1,X2,Y2,X3,Y3,hM,hPX⟩:=hQ.out;have HM:=hid hM;have Jk:=hid hPX;clear hQ hM hPX;obtain⟨P,hP,-⟩:=OA.ACl Jk.out.2.2;have HV:=hid (hP.mono (S':=Any) fun _ _=>trivial);have aG:=hid (Yc.VI w7 _ _ _ P HV.out);have Bw:=hid (fun(hv:Valid P) (W:World) (hb:Below w7.heap.size w7 W)=>Px.OY W _ P.os (HV.out.keep (AA.of_below hb)).os hv.pr);clear hP;obtain⟨⟨d0,d1,d2⟩,-⟩:=AV Jk.out.1;have hgl:=Jk.out.lt;go_upto_region 7 with fail;go_cut [28] (fun v W=>(∃b,v= .bool b)∧Hid (Below w7.heap.size w7 W));case first=>
     by_cases hv:Valid P
     ·have H9:=hid hv;clear hv;go_wp2_with (first|(go_at_call 57;refine aG.out.mono ?_;rintro e w8 ⟨r,rfl,hr,CJ⟩;obtain rfl:r=true:=hr.2 H9.out;have Cb:=hid CJ;clear hr CJ;have W9:=Jk.out.below Cb.out;have hg8:=W9.lt;obtain⟨⟨c0,c1,c2⟩,-⟩:=AV W9.1;clear W9)|(go_at_call 58;refine(Bw.out H9.out _ Cb.out).mono ?_;rintro e w9 ⟨q,rfl,-, -, rfl⟩));go_meet;exact⟨⟨_,rfl⟩,Cb⟩
     ·have H9:=hid hv;clear hv;go_wp2_with (go_at_call 57;refine aG.out.mono ?_;rintro e w8 ⟨r,rfl,hr,CJ⟩;obtain rfl:r=false:=(by cases r with|false=>rfl|true=>exact absurd (hr.1 rfl) H9.out);have Cb:=hid CJ;clear hr CJ);go_meet;exact⟨⟨_,rfl⟩,Cb⟩
    case rest=>
     obtain⟨⟨b,rfl⟩,Cb⟩:=hcut;rename World=>w8;have DZ:=hid (ET.out.below Cb.out);clear d0 d1 d2 hgl;cases b with
     |true=>
      have IW:=hid (Jk.out.below Cb.out);obtain⟨⟨d0,d1,d2⟩,-⟩:=AV IW.out.1;have hgl:=IW.out.lt;obtain⟨⟨e0,e1,e2⟩,f0,f1,f2⟩:=AV (HX.out.k DZ.out).1;have hgr:=(HX.out.k DZ.out).2;have hne:¬gp=g0:=by have h1:=HX.out.s1;have h2:=Fu.out;omega
      go_wp2_with fail;obtain⟨⟨z0,z1,z2⟩,-⟩:=AV (BZ (x:=.slice X1 M Y1) (y:=.slice X2 M Y2) (z:=.slice X3 M Y3) (HX.out.k DZ.out).1);exact Aj (v:=.agg #[.slice X1 M Y1,.slice X2 M Y2,.slice X3 M Y3]) (by simp[results,Tryz.results28,go_sem,z0,z1,z2]) rfl (HX.out.fin DZ.out HM.out IW.out.2.2)
     |false=>
      go_wp2_with fail;go_roundw;case rel=>exact⟨i+1,by omega,by go_num,DZ⟩
      case measure=>simp[intOf];omega
  ·obtain rfl:i=12:=by omega
   have hki:¬((12:Nat):Int)<12:=by omega
   go_wp2_with (go_at_call 61;refine(iI [2] 1 rfl (by decide) _).mono ?_;rintro e w6 ⟨N,x1,x2,x3,y1,y2,y3,hN,rfl,hp,hb⟩;have HN:=hid (show N≤24 from Ad hN (by decide));have Ab:=hid ((hS.out.alloc _).below hb);have Bd:=hid (hp.mono (Ad hS.out.2.2.size (by simp)));obtain⟨⟨e0,e1,e2⟩,f0,f1,f2⟩:=AV (HX.out.k Ab.out).1;have hgl:=(HX.out.k Ab.out).2;clear hN hp hb);obtain⟨⟨z0,z1,z2⟩,-⟩:=AV (BZ (x:=.slice x1 N y1) (y:=.slice x2 N y2) (z:=.slice x3 N y3) (HX.out.k Ab.out).1);exact Aj (v:=.agg #[.slice x1 N y1,.slice x2 N y2,.slice x3 N y3]) (by simp[results,Tryz.results28,go_sem,z0,z1,z2]) rfl (HX.out.fin Ab.out HN.out Bd.out)
end Go.Proofs.YtaadbccidfdniaaGreat.Um
namespace Go.Proofs.YtaadbccidfdniaaGreat.XI
open Go.RowKit Go.Proofs.YtaadbccidfdniaaGreat AB Val Dp Cn Dm Df Cc Gl O9 O7 QW PE R9 Um
open Go.Proofs.YtaadbccidfdniaaGreat.XA (Ty.box Ty.Kn)
theorem kc {w w':World}{g b:Nat}(h:w.grownBy w' (some g))(hb:g<b)(hl:b<w.heap.size)(o:Nat):w'.cell? ⟨b,o,none⟩=w.cell? ⟨b,o,none⟩:=(Yf (gp:=g) h).cell (by omega) hl
theorem kh {w w':World}{g b:Nat}(h:w.grownBy w' (some g))(hb:g<b)(hl:b<w.heap.size):w'.heap[b]?=w.heap[b]?:=h.block b hl fun e=>by injection e with e;omega
theorem PX.set1 {B n b i g:Nat}{w:World}{vO vP vC:Value}{cur:Array Value}(h:PX B n w g vO vP vC)(hb:w.heap[b]?=some (.cells cur 2 (0,0)))(x:Int):PX B n (w.setCell ⟨b,i,none⟩ (.int .i64 x)) g vO vP vC:=
 ⟨by
  rw[GR w ⟨b,i,none⟩ g _ ?_]
  ·exact h.1
  ·intro e;have e:g=b:=e;subst e;rw[h.1]at hb;simp at hb,h.2.1,h.2.2.ty (Ty.set1 hb x)⟩
theorem Vy {B n j c:Nat}{w:World}{a:Option Addr}(h:R1 B w n (.slice a n c))(hj:j<n):∃b cur x,a=some ⟨b,0,none⟩∧w.heap[b]?=some (.cells cur 2 (0,0))∧cur[j]?=some (.int .i64 x)∧B≤b∧b<w.heap.size:=by
 obtain⟨b,cur,x,rfl,h1,h2,h3,h4,h5⟩:=OA.RQ h hj;rw[Ah w b j cur _ (0,0) h3]at h1;exact⟨b,cur,x,rfl,h3,h1,h4,h5⟩
theorem Vz {w:World}{b j:Nat}{cur:Array Value}{t:TypeId}{u:Value}(h:w.heap[b]?=some (.cells cur t (0,0)))(hu:cur[j]?=some u):w.cell? ⟨b,j,none⟩=some u∧w.frozen? ⟨b,j,none⟩=false∧b<w.heap.size:=
 ⟨(Ah w b j cur _ (0,0) h).trans hu,BQ w b j cur _ h,(Ba.1 h).1⟩
theorem MG.al {b g len cap:Nat}{a:Option Addr}{w w':World}{e:Ending}{o:Obj}(hw:Sr g a len cap w w)(h:MG b g a len cap (w.alloc o) e w'):MG b g a len cap w e w':=by
 obtain⟨N,x1,x2,x3,y1,y2,y3,hN,rfl,hp,hs⟩:=h;exact⟨N,_,_,_,_,_,_,hN,rfl,hp.mono (by simp),(hw.alloc o).tr hs⟩
theorem AIh (N:Nat)(hN:N≤24)(a1 a2 a3:Option Addr)(c1 c2 c3:Nat)(g:Nat)(a:Option Addr)(len cap:Nat)(w:World)(h:Sr g a len cap w w)(hA:PT 0 w N (.slice a1 N c1) (.slice a2 N c2) (.slice a3 N c3)):
  Calls Tryz.prog 30 #[.pointer (some ⟨g,0,none⟩),.agg #[.slice a1 N c1,.slice a2 N c2,.slice a3 N c3]] w (MG 24 g a len cap w):=by
 obtain⟨w0,hw0⟩:∃w0,w0=w.alloc (.cells #[.slice a1 N c1,.slice a2 N c2,.slice a3 N c3] 28):=⟨_,rfl⟩;obtain⟨w1,hw1⟩:∃w1,w1=w0.alloc CG:=⟨_,rfl⟩;obtain⟨g0,hg0⟩:∃g0,w.heap.size=g0:=⟨_,rfl⟩;have HX:=hid (show Bx g a len cap w0 w1 (g0+1) by
  have:=Bx.new (Sr.here (h.alloc (.cells #[.slice a1 N c1,.slice a2 N c2,.slice a3 N c3] 28)));rw[World.size_alloc,←hw0,←hw1,hg0]at this;exact this)
 have HA1:=hid (show PT 0 w1 N (.slice a1 N c1) (.slice a2 N c2) (.slice a3 N c3) by rw[hw1,hw0];exact(hA.ty (Yg _ _)).ty (Yg _ _));have HP:=hid (show w1.heap[g0]?=some (.cells #[.slice a1 N c1,.slice a2 N c2,.slice a3 N c3] 28 (0,0)) by rw[hw1,E5 _ _ _ (by rw[hw0,←hg0];simp),hw0,←hg0];exact BA _ _);have OE:=hid (fun e w' (hf:MG 24 g a len cap w0 e w')=>show MG 24 g a len cap w e w' by rw[hw0]at hf;exact MG.al h hf);have Eb:=hid (show g<w1.heap.size from HX.out.s.lt);have HN:=hid hN;clear h hA;go_enter Tryz.func30,Tryz.ntmps30;go_upto_region 1 with fail;rw[←hw0,←hw1];clear hw1 hg0 hw0;obtain⟨⟨p0,p1,p2⟩,-⟩:=AV HP.out;go_upto_region 2 with(go_at_call 62;refine(lX.qA N (by omega) a1 a2 a3 c1 c2 c3 w1 HA1.out).mono ?_;rintro e w2 ⟨vO,vP,vC,rfl,I5,hb2⟩;obtain⟨x1,y1,x2,y2,x3,y3,rfl,rfl,rfl⟩:=I5.form);obtain⟨gq,QY⟩:∃gq,w2.heap.size=gq:=⟨_,rfl⟩;obtain⟨w3,hw3⟩:∃w3,w3=w2.alloc (.cells #[.slice x1 N y1,.slice x2 N y2,.slice x3 N y3] 28):=⟨_,rfl⟩;rw[←hw3,QY];have Be:=hid (show Sr g a len cap w1 w3 by rw[hw3];exact(HX.out.s.below hb2).alloc _);have Ev:=hid (show PX w1.heap.size N w3 gq (.slice x1 N y1) (.slice x2 N y2) (.slice x3 N y3) by rw[hw3,←QY];exact MW I5 AR hb2.size);have hne:¬gq=g0+1:=by have h1:=HX.out.s1;have h2:=Ev.out.2.1;omega
 clear I5 hb2 QY hw3 p0 p1 p2;have HE:=hid (fun(W:World) (hS:Sr g a len cap w1 W) (hP:PX w1.heap.size N W gq (.slice x1 N y1) (.slice x2 N y2) (.slice x3 N y3))=>OE.out _ _ (HX.out.fin hS HN.out hP.2.2));obtain⟨⟨d0,d1,d2⟩,-⟩:=AV Ev.out.1;have hgl:=Ev.out.lt;go_upto_region 4 with(go_at_call 27;refine(Ma _ g a len cap w1 _ Be.out).mono ?_;rintro e w4 ⟨i,rfl,hi,IV⟩;have BF:=hid (Be.out.tr IV);have BP:=hid (JO Ev.out IV.2.2 Eb.out);clear IV);have APd:i≤24:=by omega
 have q1:IntKind.i64.wrap ((N:Int)-1)=(N:Int)-1:=AY _ (by omega);have q2:IntKind.i64.wrap ((N:Int)-1-(i:Int))=(N:Int)-1-(i:Int):=AY _ (by omega);have q3:IntKind.i64.wrap ((i:Int)+1)=(i:Int)+1:=AY _ (by omega);go_upto_region 5 with(go_at_call 27;refine(Ma _ g a len cap w1 _ BF.out).mono ?_;rintro e w5 ⟨k,rfl,hk,hS5⟩;have Ew:=hid (BF.out.tr hS5);have Dx:=hid (JO BP.out hS5.2.2 Eb.out);have q4:IntKind.i64.wrap ((i:Int)+1+(k:Int))=(i:Int)+1+(k:Int):=(AY _ (by omega));clear hS5);obtain⟨j,hj⟩:∃j,i+1+k=j:=⟨_,rfl⟩;have hji:(i:Int)+1+(k:Int)=(j:Int):=by omega
 rw[hji];have HIJ:=hid (And.intro hi (And.intro hk hj));clear hi hk q4 d0 d1 d2 hgl Be Ev BF BP hj hji;obtain⟨⟨d0,d1,d2⟩,-⟩:=AV Dx.out.1;have hgl:=Dx.out.lt;by_cases xw:N≤j
 ·have AMu:(N:Int)≤(j:Int):=by omega
  obtain⟨⟨e0,e1,e2⟩,f0,f1,f2⟩:=AV (HX.out.k Ew.out).1;have hgr:=(HX.out.k Ew.out).2;go_wp2_with fail;obtain⟨⟨z0,z1,z2⟩,-⟩:=AV (BZ (x:=.slice x1 N y1) (y:=.slice x2 N y2) (z:=.slice x3 N y3) (HX.out.k Ew.out).1);exact Aj (v:=.agg #[.slice x1 N y1,.slice x2 N y2,.slice x3 N y3]) (by simp[results,Tryz.results30,go_sem,z0,z1,z2]) rfl (HE.out _ Ew.out Dx.out)
 ·have AMu:¬(N:Int)≤(j:Int):=by omega
  have NF:i<N:=by have:=HIJ.out.2.2;omega
  go_upto_if 33 with(go_at_call 27;refine(Ma _ g a len cap w1 _ Ew.out).mono ?_;rintro e w6 ⟨r,rfl,hr,NG⟩;have Ab:=hid (Ew.out.tr NG);have Bd:=hid (JO Dx.out NG.2.2 Eb.out);clear NG);clear d0 d1 d2 hgl hr Ew Dx;have jZ:j<N:=by omega
  have APe:(i:Int)<(N:Int):=by omega
  have APf:(j:Int)<(N:Int):=by omega
  by_cases hr0:r=0
  ·subst hr0;have AMv:=Bd;obtain⟨gp,u0,-, ep,p1,-, -, -, hrow,PG,pl⟩:=Bd.out.2.2.2.1.at (NZ NF);obtain⟨ar,cr,rfl,-⟩:=hrow.len;obtain⟨gr,curr,xr,rfl,hr1,hr2,hBr,rl⟩:=Vy hrow jZ;obtain⟨go,uD,o,eo,ho1,ho2,Un,-⟩:=Vy Bd.out.2.2.1 jZ;obtain⟨o1,-, ol⟩:=Vz ho1 ho2;obtain⟨⟨d0,d1,d2⟩,-⟩:=AV Bd.out.1;have hgl:=Bd.out.lt;have WK:=hid (And.intro (Ai Eb.out PG) (Ai Eb.out hBr));have HRR:=hid (And.intro hr1 hr2);have O8:=hid hBr;clear ho1 ho2 hr1 hr2 hrow PG hBr Un AMv;go_wp2_with fail;go_cut [5] (fun v W=>v= .pointer (some ⟨gq,0,none⟩)∧Hid (PX w1.heap.size N W gq (.slice x1 N y1) (.slice x2 N y2) (.slice x3 N y3))∧Hid (Sr g a len cap w1 W));case first=>
    subst ep;subst eo;go_region_law
     (first|(go_simp;go_at_call 27;refine(Ma _ g a len cap w1 _ (by first|exact Ab.out|exact Sr.drew Ab.out)).mono ?_;rintro e w8 ⟨r8,rfl,-, Jm⟩;have G8:w6.grownBy w8 (some g):=(by first|exact Jm.2.2|exact X0 Jm.2.2);have DZ:=hid (show Sr g a len cap w1 w8 from Sr.next Ab.out Jm.1 G8);have IW:=hid (JO Bd.out G8 Eb.out);have p1':=(kc G8 WK.out.1 pl i).trans p1;have pl':=Ai pl G8.size;have K9:=(kh G8 WK.out.2 rl).trans HRR.out.1;obtain⟨k1,k2,rl'⟩:=Vz K9 HRR.out.2;have R8:=hid K9;obtain⟨⟨b0,b1,b2⟩,-⟩:=AV IW.out.1;have jX:=IW.out.lt;clear Jm G8 K9)|(fail))
    all_goals
     go_wp2_with fail;go_meet;exact⟨rfl,hid (PX.set1 IW.out R8.out _),hid (DZ.out.set HX.out.s O8.out _)⟩
   case rest=>
    obtain⟨rfl,NH,I7⟩:=hcut;rename World=>w9;clear p1 pl rl o1 ol d0 d1 d2 hgl ep eo;obtain⟨⟨d0,d1,d2⟩,-⟩:=AV NH.out.1;have hgl:=NH.out.lt;obtain⟨⟨e0,e1,e2⟩,f0,f1,f2⟩:=AV (HX.out.k I7.out).1;have hgr:=(HX.out.k I7.out).2;go_wp2_with fail;obtain⟨⟨z0,z1,z2⟩,-⟩:=AV (BZ (x:=.slice x1 N y1) (y:=.slice x2 N y2) (z:=.slice x3 N y3) (HX.out.k I7.out).1);exact Aj (v:=.agg #[.slice x1 N y1,.slice x2 N y2,.slice x3 N y3]) (by simp[results,Tryz.results30,go_sem,z0,z1,z2]) rfl (HE.out _ I7.out NH.out)
  ·have Wu:((r:Int)==0)=false:=LZ.2 (by omega);go_upto_region 11 with(go_at_call 27;refine(Ma _ g a len cap w1 _ Ab.out).mono ?_;rintro e w7 ⟨m,rfl,hm,XH⟩;have ET:=hid (Ab.out.tr XH);have Jk:=hid (JO Bd.out XH.2.2 Eb.out);have q4:IntKind.i64.wrap ((i:Int)+1+(m:Int))=(i:Int)+1+(m:Int):=(AY _ (by omega));clear XH);have hmN:i+1+m<N:=by have:=HIJ.out;omega
   obtain⟨q,hq⟩:∃q,i+1+m=q:=⟨_,rfl⟩;have hqi:(i:Int)+1+(m:Int)=(q:Int):=by omega
   rw[hqi];have q5:IntKind.i64.wrap ((q:Int)-(i:Int))=(q:Int)-(i:Int):=AY _ (by omega);have q6:IntKind.i64.wrap ((q:Int)-(i:Int)-1)=(m:Int):=by rw[AY _ (by omega)];omega
   obtain⟨ln,hln⟩:∃ln,N-(i+1)=ln:=⟨_,rfl⟩;have hml:m<ln:=by omega
   have APg:(m:Int)<(ln:Int):=by omega
   obtain⟨gc,uc,ec,s1,hcr,NI,sl⟩:=Jk.out.2.2.2.2.at (Sn NF);obtain⟨ac,cc,rfl,-⟩:=hcr.form;rw[DK]at s1 hcr;rw[hln]at s1 hcr;obtain⟨gp,u0,-, ep,p1,-, -, -, hrow,PG,pl⟩:=hcr.at (NZ hml);obtain⟨ar,cr,rfl,-⟩:=hrow.len;obtain⟨gr,curr,xr,rfl,hr1,hr2,hBr,rl⟩:=Vy hrow jZ;obtain⟨go,uD,o,eo,ho1,ho2,Un,-⟩:=Vy Jk.out.2.2.1 jZ;subst ep;obtain⟨o1,-, ol⟩:=Vz ho1 ho2;obtain⟨⟨d0,d1,d2⟩,-⟩:=AV Jk.out.1;have hgl:=Jk.out.lt;have WK:=hid (And.intro (Ai Eb.out PG) (And.intro (Ai Eb.out hBr) (Ai Eb.out NI)));have HRR:=hid (And.intro hr1 hr2);have O8:=hid hBr;clear ho1 ho2 hr1 hr2 hrow PG hBr Un hcr NI hm Ab Bd q4 hq hqi hln;go_upto_region 11 with fail;go_cut [5] (fun v W=>v= .pointer (some ⟨gq,0,none⟩)∧Hid (PX w1.heap.size N W gq (.slice x1 N y1) (.slice x2 N y2) (.slice x3 N y3))∧Hid (Sr g a len cap w1 W));case first=>
    subst ec;subst eo;go_region_law
     (first|(go_simp;go_at_call 27;refine(Ma _ g a len cap w1 _ (by first|exact ET.out|exact Sr.drew ET.out)).mono ?_;rintro e w8 ⟨r8,rfl,-, Jm⟩;have G8:w7.grownBy w8 (some g):=(by first|exact Jm.2.2|exact X0 Jm.2.2);have DZ:=hid (show Sr g a len cap w1 w8 from Sr.next ET.out Jm.1 G8);have IW:=hid (JO Jk.out G8 Eb.out);have s1':=(kc G8 WK.out.2.2 sl i).trans s1;have sl':=Ai sl G8.size;have p1':=(kc G8 WK.out.1 pl m).trans p1;have pl':=Ai pl G8.size;have K9:=(kh G8 WK.out.2.1 rl).trans HRR.out.1;obtain⟨k1,k2,rl'⟩:=Vz K9 HRR.out.2;have R8:=hid K9;obtain⟨⟨b0,b1,b2⟩,-⟩:=AV IW.out.1;have jX:=IW.out.lt;clear Jm G8 K9)|(fail))
    all_goals
     go_wp2_with fail;go_meet;exact⟨rfl,hid (PX.set1 IW.out R8.out _),hid (DZ.out.set HX.out.s O8.out _)⟩
   case rest=>
    obtain⟨rfl,NH,I7⟩:=hcut;rename World=>w9;clear s1 sl p1 pl rl o1 ol d0 d1 d2 hgl ec eo q5 q6;obtain⟨⟨d0,d1,d2⟩,-⟩:=AV NH.out.1;have hgl:=NH.out.lt;obtain⟨⟨e0,e1,e2⟩,f0,f1,f2⟩:=AV (HX.out.k I7.out).1;have hgr:=(HX.out.k I7.out).2;go_wp2_with fail;obtain⟨⟨z0,z1,z2⟩,-⟩:=AV (BZ (x:=.slice x1 N y1) (y:=.slice x2 N y2) (z:=.slice x3 N y3) (HX.out.k I7.out).1);exact Aj (v:=.agg #[.slice x1 N y1,.slice x2 N y2,.slice x3 N y3]) (by simp[results,Tryz.results30,go_sem,z0,z1,z2]) rfl (HE.out _ I7.out NH.out)
end Go.Proofs.YtaadbccidfdniaaGreat.XI
namespace Go.Proofs.YtaadbccidfdniaaGreat.aK
open Go.RowKit Go.Proofs.YtaadbccidfdniaaGreat AB Val Dp Cn Dm Df Cc Gl Z5 O9 O7 QW PE Um XI
def NJ (g:Nat)(a:Option Addr)(len cap:Nat)(w:World)(e:Ending)(w':World):Prop:=∃(x1 x2 x3:Option Addr) (n1 n2 n3 y1 y2 y3:Nat),e= .returned (.agg #[.slice x1 n1 y1,.slice x2 n2 y2,.slice x3 n3 y3])∧PA w.heap.size w' (.slice x1 n1 y1) (.slice x2 n2 y2) (.slice x3 n3 y3)∧Sr g a len cap w w'
theorem NJ.of {b g len cap:Nat}{a:Option Addr}{w w':World}{e:Ending}(hb:b≤100)(h:R9.MG b g a len cap w e w'):NJ g a len cap w e w':=by
 obtain⟨N,x1,x2,x3,y1,y2,y3,hN,rfl,hp,hs⟩:=h;exact⟨_,_,_,_,_,_,_,_,_,rfl,PA.of (Ad hN hb) hp,hs⟩
theorem NJ.al {g len cap:Nat}{a:Option Addr}{w w':World}{e:Ending}{o:Obj}(hw:Sr g a len cap w w)(h:NJ g a len cap (w.alloc o) e w'):NJ g a len cap w e w':=by
 obtain⟨x1,x2,x3,n1,n2,n3,y1,y2,y3,rfl,hp,hs⟩:=h;exact⟨_,_,_,_,_,_,_,_,_,rfl,PA.mono hp (by simp),(hw.alloc o).tr hs⟩
def Uo (B:Nat)(w:World)(g:Nat)(x y z:Value):Prop:=w.heap[g]?=some (.cells #[x,y,z] 28 (0,0))∧B≤g∧PA B w x y z
abbrev LA (B:Nat)(w:World)(g:Nat):Prop:=∃X1 n1 Y1 X2 n2 Y2 X3 n3 Y3,Uo B w g (.slice X1 n1 Y1) (.slice X2 n2 Y2) (.slice X3 n3 Y3)
theorem LA.of {B n g y1 y2 y3:Nat}{x1 x2 x3:Option Addr}{w:World}(hn:n≤100)(h:PX B n w g (.slice x1 n y1) (.slice x2 n y2) (.slice x3 n y3)):LA B w g:=⟨_,_,_,_,_,_,_,_,_,h.1,h.2.1,PA.of hn h.2.2⟩
theorem PX.lt' {B:Nat}{w:World}{g:Nat}{x y z:Value}(h:Uo B w g x y z):g<w.heap.size:=(Ba.1 h.1).1
theorem ACs {w:World}{g b i:Nat}{x y z u:Value}(h:w.heap[g]?=some (.cells #[x,y,z] 28 (0,0)))(hne:g≠b):(w.setCell ⟨b,i,none⟩ u).heap[g]?=some (.cells #[x,y,z] 28 (0,0)):=
 (GR w ⟨b,i,none⟩ g u hne).trans h
theorem Ee.Kn {B g:Nat}{w:World}{a b c x y z:Value}(h:w.heap[g]?=some (.cells #[a,b,c] 28 (0,0))):Ee B w (((w.setCell ⟨g,0,none⟩ x).setCell ⟨g,1,none⟩ y).setCell ⟨g,2,none⟩ z):=by
 have e1:(w.setCell ⟨g,0,none⟩ x).heap[g]?=some (.cells #[x,b,c] 28 (0,0)):=GV w g 0 _ _ _ h;have e2:((w.setCell ⟨g,0,none⟩ x).setCell ⟨g,1,none⟩ y).heap[g]?=some (.cells #[x,y,c] 28 (0,0)):=GV _ g 1 _ _ _ e1;exact((Ee.other h (by decide) (by decide) (by decide)).trans (Ee.other e1 (by decide) (by decide) (by decide))).trans (Ee.other e2 (by decide) (by decide) (by decide))
theorem AK1 {B n g b i y1 y2 y3:Nat}{x1 x2 x3:Option Addr}{w:World}{cur:Array Value}{u:Value}(hn:n≤100)(h:PX B n w g (.slice x1 n y1) (.slice x2 n y2) (.slice x3 n y3))(hb:w.heap[b]?=some (.cells cur 24 (0,0)))(hu:A1 B w u):LA B (w.setCell ⟨b,i,none⟩ u) g:=
 ⟨_,_,_,_,_,_,_,_,_,ACs h.1 (fun e=>by rw[←e,h.1]at hb;simp at hb),h.2.1,PA.ty (PA.of hn h.2.2) (Ee.set2 hb hu)⟩
theorem VZ {B n g b i k y1 y2 y3:Nat}{x1 x2 x3:Option Addr}{w:World}{cur:Array Value}{u:Value}(hn:n≤100)(h:PX B n w g (.slice x1 n y1) (.slice x2 n y2) (.slice x3 n y3))(hb:w.heap[b]?=some (.cells cur 25 (0,0)))(hu:A2 B w k u):LA B (w.setCell ⟨b,i,none⟩ u) g:=by
 obtain⟨K,hK⟩:=(PA.of hn h.2.2).2.2;exact⟨_,_,_,_,_,_,_,_,_,ACs h.1 (fun e=>by rw[←e,h.1]at hb;simp at hb),h.2.1,⟨_,hn,h.2.2.1.other hb (by decide)⟩,⟨_,A2.of (h.2.2.2.1.other hb (by decide) (by decide)) fun m hm=>by rw[(Kh.1 hm).2];exact hn⟩,A3.Tt hb hu hK⟩
theorem AK2 {B n m g c y1 y2 y3:Nat}{x1 x2 x3 o:Option Addr}{w w':World}(hn:n≤100)(hm:m≤100)(h:PX B n w g (.slice x1 n y1) (.slice x2 n y2) (.slice x3 n y3))(hb:w'.heap[g]?=w.heap[g]?)(ht:Ty B w w')(hu:R1 B w' m (.slice o m c)):LA B (w'.setCell ⟨g,0,none⟩ (.slice o m c)) g:=by
 have hg:=hb.trans h.1;have t:=Ee.other (B:=B) (i:=0) (c:=.slice o m c) hg (by decide) (by decide) (by decide);have hA:=PA.of hn (h.2.2.ty ht);exact⟨_,_,_,_,_,_,_,_,_,GV w' g 0 _ _ _ hg,h.2.1,t.one _ ⟨_,hm,hu⟩,hA.2.1.imp fun k h=>t.two k _ h,hA.2.2.imp fun k h=>t.three k _ h⟩
theorem Bx.RV {g len cap g0 n1 n2 n3 y1 y2 y3:Nat}{a x1 x2 x3:Option Addr}{w w1 W:World}(h:Bx g a len cap w w1 g0)(hS:Sr g a len cap w1 W)(hP:PA w1.heap.size W (.slice x1 n1 y1) (.slice x2 n2 y2) (.slice x3 n3 y3)):
  NJ g a len cap w (.returned (.agg #[.slice x1 n1 y1,.slice x2 n2 y2,.slice x3 n3 y3])) (((W.setCell ⟨g0,0,none⟩ (.slice x1 n1 y1)).setCell ⟨g0,1,none⟩ (.slice x2 n2 y2)).setCell ⟨g0,2,none⟩ (.slice x3 n3 y3)):=
 ⟨_,_,_,_,_,_,_,_,_,rfl,PA.mono (PA.ty hP (Ee.Kn (h.k hS).1)) (by rw[h.s1,h.z];omega),h.sr hS _ _ _⟩
theorem ACH {w w':World}{x:Int}(h:Below (w.alloc (.cells #[.int .i64 x] 2)).heap.size (w.alloc (.cells #[.int .i64 x] 2)) w'):w'.cell? ⟨w.heap.size,0,none⟩=some (.int .i64 x):=by
 rw[(AA.of_below (S:=Any) h).cell trivial (by simp),Ah _ _ _ _ _ (0,0) (BA _ _)];rfl
theorem ACI (w:World)(x:Int):(w.alloc (.cells #[.int .i64 x] 2)).cell? ⟨w.heap.size,0,none⟩=some (.int .i64 x):=by
 rw[Ah _ _ _ _ _ (0,0) (BA _ _)];rfl
theorem AEd (L:List Int)(m:Nat)(hm:L.length=m)(hm2:2≤m)(lD:m≤12)(g:Nat)(a:Option Addr)(len cap:Nat)(w W V:World)(h:Sr g a len cap w W)(hV:V=W.alloc (R9.o1 L)∨V=(W.alloc (R9.o1 L)).drew∨V=W.drew.alloc (R9.o1 L)):
  Calls Tryz.prog 15 #[.pointer (some ⟨g,0,none⟩),.slice (some ⟨W.heap.size,0,none⟩) m m] V fun e W'=>∃x:Int,x∈L∧e= .returned (.int .i64 x)∧Cn.Src W' g a len cap∧W.grownBy W' (some g):=by
 subst hm;have key:∀V:World,AA (fun k=>k≠g) (W.alloc (R9.o1 L)) V→Sr g a len cap w V→W.grownBy V (some g)→Calls Tryz.prog 15 #[.pointer (some ⟨g,0,none⟩),.slice (some ⟨W.heap.size,0,none⟩) L.length L.length] V fun e W'=>∃x:Int,x∈L∧e= .returned (.int .i64 x)∧Cn.Src W' g a len cap∧W.grownBy W' (some g):=fun V hk hS hg=>by
  refine(ABU L _ rfl hm2 lD V W.heap.size g a len cap ((ACj h.lt (by omega)).keep hk) hS.1 hS.2.1).mono ?_;rintro e W' ⟨x,hx,rfl,hS',hg'⟩;exact⟨x,hx,rfl,hS',TS hg hg'⟩
 rcases hV with rfl|rfl|rfl
 ·exact key _ AJ (h.alloc _) (Dm.p8 _ _ _)
 ·exact key _ AJ.drew (h.alloc _).drew (VX (Dm.p8 _ _ _))
 ·exact key _ AJ.drew (h.drew.alloc _) (VX (Dm.p8 _ _ _))
theorem AAz {ops:Array Oper}{o:Oper}{a:Act}{w:World}{K:Act→World→Prop}{Q:Exit→Act→World→Prop}{E:Prop}(hgd:o.guard=none)(s x:Operand)
  (ho:o.op= .call { callee:=.builtin .append,args:= #[s,x],argTypes:= #[24,24] }) (base n g c:Nat) (v:Value) (xs:List Value) (y:Int) (hs:a.eval s=v) (hown:w.ownsRow base 2 1 v n xs)
  (hx:a.eval x= .slice (some ⟨g,0,none⟩) 1 c) (hy:w.cell? ⟨g,0,none⟩=some (.int .i64 y)) (h63:n+1≤1000000) (hbase:base≤w.heap.size)
  (h:∀v' w',w'.ownsRow base 2 1 v' (n+1) (xs++[.int .i64 y])→w.grownBy w' v.ownBlock→(∀B,Ty B w w')→K (a.put o.dst v') w'):
  if Region.wanted o (yielded ops a.tmps)=true then Oper.wp Tryz.prog o a w K Q else E:=by
 have hw:Region.wanted o (yielded ops a.tmps)=true:=by simp[Region.wanted,hgd]
 rw[Bo hw];obtain⟨v',w',hr,h2,h3,h4⟩:=ACr w base o.type n v xs hown g c y hy h63 hbase;unfold Oper.wp execOp;simp only[ho,resolve,invoke,builtin,Sem.run_bind,Sem.run_pure,RB,RD,GZ,Ng,hs,hx,hr];exact h v' w' h2 h3 h4
def C6 (w W:World)(n m:Nat)(v:Value):Prop:=Below w.heap.size w W∧∃us:List Value,W.ownsRow w.heap.size 24 1 v n us∧∀(i:Nat) u,us[i]?=some u→R1 w.heap.size W m u
theorem C6.alloc {w W:World}{n m:Nat}{v:Value}(h:C6 w W n m v)(o:Obj):C6 w (W.alloc o) n m v:=by
 obtain⟨hB,us,h1,h2⟩:=h;exact⟨hB.alloc hB.size _,us,Br h1 (S:=Any) ((AA.refl _ W).alloc _) (fun _ _=>trivial),fun i u hu=>(Ty.keep (S:=Any) ((AA.refl _ W).alloc _) fun _ _=>trivial).one _ _ (h2 i u hu)⟩
theorem Vj (w V:World)(n m:Nat)(a:Option Addr)(c:Nat)(hn:n≤100)(hm:m≤100)(hV:Below w.heap.size w V)(hA:R2 0 w (List.replicate n m) (.slice a n c)):
  Calls Tryz.prog 64 #[.slice a n c] V fun e W=>∃a6 c6,e= .returned (.slice a6 n c6)∧C6 w W n m (.slice a6 n c6)∧AA Any V W:=by
 refine(iH n m hn hm a c V ((Ty.below hV).two _ _ hA)).mono ?_;rintro e W ⟨a6,c6,rfl,hr,hb⟩;obtain⟨us,h1,h2⟩:=hr.mono hV.size;rw[DK]at h1;refine⟨a6,c6,rfl,⟨hV.trans (hb.mono hV.size),us,h1,fun i u hu=>?_⟩,AA.of_below hb⟩;obtain⟨u',e1,e2⟩:=h2 i m (NZ (by have:=(Ag.1 hu).1;have:=h1.1;omega));rw[hu]at e1;injection e1 with e1;rw[e1];exact e2
theorem VM {ops:Array Oper}{o:Oper}{a:Act}{w U:World}{K:Act→World→Prop}{Q:Exit→Act→World→Prop}{E:Prop}(hgd:o.guard=none)(s x:Operand)
  (ho:o.op= .call { callee:=.builtin .append,args:= #[s,x],argTypes:= #[25,25] }) (n m gL gR:Nat) (a6:Option Addr) (c6:Nat) (hn:n≤100) (hs:a.eval s= .slice a6 n c6) (hC:C6 w U n m (.slice a6 n c6))
  (hx:a.eval x= .slice (some ⟨gL,0,none⟩) 1 1) (hL:U.heap[gL]?=some (.cells #[Gv m gR] 24 (0,0))) (hR:R1 w.heap.size U m (Gv m gR))
  (h:∀g7 c7 Bj,Below w.heap.size w Bj→R2 w.heap.size Bj (List.replicate (n+1) m) (.slice (some ⟨g7,0,none⟩) (n+1) c7)→K (a.put o.dst (.slice (some ⟨g7,0,none⟩) (n+1) c7)) Bj):
  if Region.wanted o (yielded ops a.tmps)=true then Oper.wp Tryz.prog o a U K Q else E:=by
 obtain⟨hB,us,h1,h2⟩:=hC;obtain⟨i0,hi0,hz0,hz1,hz2⟩:=Bt Ie;refine Pv _ hgd _ _ _ ho w.heap.size 24 i0 (.slice none 0 0) 1 24 Tryz.underlying25 hi0 hz0 hz1 hz2 rfl (by omega) (.slice a6 n c6) n us hs h1 ⟨gL,0,none⟩ 1 1 [Gv m gR] hx rfl (GN (cs:= #[Gv m gR]) (t:=24) (fr:=(0,0)) hL) (by simp[Value.oneCell']) (by omega) (by unfold maxLen;omega) (by omega) hB.size _ rfl ?_;intro g7 c7 Bj jc AEe _ _;exact h g7 c7 Bj (hB.grown AEe hB.size fun q e=>(Af h1 q e).1) (R2.push h1 h2 hR jc AEe)
theorem WL {w V W:World}{N:Nat}(hN:N≤100)(hk:AA Any V W)(hl:w.heap.size<V.heap.size)(h:V.heap[w.heap.size]?=(w.alloc (.cells (madeCells #[.int .i64 0] N) 2)).heap[w.heap.size]?):R1 w.heap.size W N (Gv N w.heap.size):=by
 refine⟨List.replicate N 0,by simp,?_⟩;have h1:=Own.made (B:=w.heap.size) w N AR (by unfold maxLen;omega);unfold Own at h1;rw[DK]at h1;refine⟨h1.1,?_⟩;rcases h1.2 with h2|⟨g,cap,cur,e,hb,hg,r⟩
 ·exact .inl h2
 ·refine .inr ⟨g,cap,cur,e,hb,?_,r⟩;have e1:=BM Value.ownBlock e;simp[Value.ownBlock]at e1;subst e1;rw[hk.block _ trivial hl,h];exact hg
theorem ALj (B:Nat)(w:World)(n:Nat)(hB:B≤w.heap.size)(hn:n≤100):R1 B (w.alloc (.cells (madeCells #[.int .i64 0] n) 2)) n (Gv n w.heap.size):=
 ⟨List.replicate n 0,by simp,by
  have h:=Own.made (B:=B) w n hB (by unfold maxLen;omega);unfold Own at h;rw[DK]at h;exact h⟩
theorem uL {B n:Nat}{w w':World}{v:Value}(h:R1 B w n v)(hk:AA Any w w'):R1 B w' n v:=(Ty.keep hk fun _ _=>trivial).one _ _ h
theorem AK3 {B n c:Nat}{e:TypeId}{w:World}{a:Option Addr}{us:List Value}(h:w.ownsRow B e 1 (.slice a n c) n us)(hn:0<n):∃b cur,a=some ⟨b,0,none⟩∧w.heap[b]?=some (.cells cur e (0,0))∧B≤b:=by
 rcases id h.2 with⟨h3,h4⟩|⟨g,cap,cur,h3,hB,hg,_⟩
 ·omega
 ·simp only[EY]at h3;exact⟨g,cur,h3.1,hg,hB⟩
end Go.Proofs.YtaadbccidfdniaaGreat.aK
namespace Go.Proofs.YtaadbccidfdniaaGreat.yG
open Go.RowKit Go.Proofs.YtaadbccidfdniaaGreat AB Val Dp Cn Dm Df Cc Gl Z5 O9 O7 QW PE Um XI aK
theorem AIi (N:Nat)(hN:N≤24)(a1 a2 a3:Option Addr)(c1 c2 c3:Nat)(g:Nat)(a:Option Addr)(len cap:Nat)(w:World)(h:Sr g a len cap w w)(hA:PT 0 w N (.slice a1 N c1) (.slice a2 N c2) (.slice a3 N c3)):
  Calls Tryz.prog 29 #[.pointer (some ⟨g,0,none⟩),.agg #[.slice a1 N c1,.slice a2 N c2,.slice a3 N c3]] w (NJ g a len cap w):=by
 obtain⟨w0,hw0⟩:∃w0,w0=w.alloc (.cells #[.slice a1 N c1,.slice a2 N c2,.slice a3 N c3] 28):=⟨_,rfl⟩;obtain⟨w1,hw1⟩:∃w1,w1=w0.alloc CG:=⟨_,rfl⟩;obtain⟨g0,hg0⟩:∃g0,w.heap.size=g0:=⟨_,rfl⟩;have HX:=hid (show Bx g a len cap w0 w1 (g0+1) by
  have:=Bx.new (Sr.here (h.alloc (.cells #[.slice a1 N c1,.slice a2 N c2,.slice a3 N c3] 28)));rw[World.size_alloc,←hw0,←hw1,hg0]at this;exact this)
 have HA1:=hid (show PT 0 w1 N (.slice a1 N c1) (.slice a2 N c2) (.slice a3 N c3) by rw[hw1,hw0];exact(hA.ty (Yg _ _)).ty (Yg _ _));have HP:=hid (show w1.heap[g0]?=some (.cells #[.slice a1 N c1,.slice a2 N c2,.slice a3 N c3] 28 (0,0)) by rw[hw1,E5 _ _ _ (by rw[hw0,←hg0];simp),hw0,←hg0];exact BA _ _);have OE:=hid (fun e w' (hf:NJ g a len cap w0 e w')=>show NJ g a len cap w e w' by rw[hw0]at hf;exact NJ.al h hf);have Eb:=hid (show g<w1.heap.size from HX.out.s.lt);have De:=hid (show N≤100 by omega);have ADY:=hid hN;clear h hA;go_enter Tryz.func29,Tryz.ntmps29;go_upto_region 1 with fail;rw[←hw0,←hw1];clear hw1 hg0 hw0;obtain⟨⟨p0,p1,p2⟩,-⟩:=AV HP.out;go_upto_region 2 with(go_at_call 62;refine(lX.qA N (by omega) a1 a2 a3 c1 c2 c3 w1 HA1.out).mono ?_;rintro e w2 ⟨vO,vP,vC,rfl,I5,hb2⟩;obtain⟨x1,y1,x2,y2,x3,y3,rfl,rfl,rfl⟩:=I5.form);obtain⟨gq,QY⟩:∃gq,w2.heap.size=gq:=⟨_,rfl⟩;obtain⟨w3,hw3⟩:∃w3,w3=w2.alloc (.cells #[.slice x1 N y1,.slice x2 N y2,.slice x3 N y3] 28):=⟨_,rfl⟩;rw[←hw3,QY];have Be:=hid (show Sr g a len cap w1 w3 by rw[hw3];exact(HX.out.s.below hb2).alloc _);have Ev:=hid (show PX w1.heap.size N w3 gq (.slice x1 N y1) (.slice x2 N y2) (.slice x3 N y3) by rw[hw3,←QY];exact MW I5 AR hb2.size);have LB:=hid Ev.out.2.1;have hne:¬gq=g0+1:=by have h1:=HX.out.s1;have h2:=Ev.out.2.1;omega
 clear I5 hb2 QY hw3 p0 p1 p2;go_upto_block 0 with(go_at_call 27;refine(Ma _ g a len cap w1 _ Be.out).mono ?_;rintro e w4 ⟨r,rfl,hr,IV⟩;have BF:=hid (Be.out.tr IV);have BP:=hid (JO Ev.out IV.2.2 Eb.out);clear IV);clear Be Ev;go_cut [5] (fun v W=>v= .pointer (some ⟨gq,0,none⟩)∧Hid (LA w1.heap.size W gq)∧Hid (Sr g a len cap w1 W));case rest=>
  obtain⟨rfl,NH,I7⟩:=hcut;rename World=>w9;clear BP BF hr;obtain⟨X1,n1,Y1,X2,n2,Y2,X3,n3,Y3,hP9⟩:=NH.out;have HP:=hid hP9;clear NH hP9;obtain⟨⟨d0,d1,d2⟩,-⟩:=AV HP.out.1;have hgl:=PX.lt' HP.out;obtain⟨⟨e0,e1,e2⟩,f0,f1,f2⟩:=AV (HX.out.k I7.out).1;have hgr:=(HX.out.k I7.out).2;go_wp2_with fail;obtain⟨⟨z0,z1,z2⟩,-⟩:=AV (BZ (x:=.slice X1 n1 Y1) (y:=.slice X2 n2 Y2) (z:=.slice X3 n3 Y3) (HX.out.k I7.out).1);exact Aj (v:=.agg #[.slice X1 n1 Y1,.slice X2 n2 Y2,.slice X3 n3 Y3]) (by simp[results,Tryz.results29,go_sem,z0,z1,z2]) rfl (OE.out _ _ (Bx.RV HX.out I7.out HP.out.2.2))
 case first=>
  have CR:r=0∨r=1∨r=2∨r=3∨r=4∨r=5:=by omega
  obtain⟨⟨d0,d1,d2⟩,s0,s1,s2⟩:=AV BP.out.1;have hgl:=BP.out.lt;clear hr;rcases CR with rfl|rfl|rfl|rfl|rfl|rfl
  ·obtain⟨l,hl,ho⟩:=BP.out.2.2.1;have ho':=Br ho (S:=Any) ((AA.refl _ w4).alloc (.cells #[.int .i64 2] 2)) fun _ _=>trivial;have hnb:(Value.slice x1 N y1).ownBlock≠some gq:=Pj ho BP.out.1 (by decide);clear ho;go_wp2_with (at_builtin;refine AAV rfl _ _ rfl w1.heap.size N w4.heap.size 1 (.slice x1 N y1) (vals l) 2 rfl ho' rfl (ACI _ _) (by omega) (Ad BF.out.2.2.size (by simp)) ?_;intro v' w5 Aw hg5 ht5;obtain⟨b5,c5,rfl⟩:=LH Aw;have yH:=(hg5.block gq (by simp;omega) (fun e=>hnb e.symm)).trans (E5 w4 (.cells #[.int .i64 2] 2) gq hgl);obtain⟨⟨u0,u1,u2⟩,v0,v1,v2⟩:=AV (yH.trans BP.out.1);have AEb:=(Ba.1 (yH.trans BP.out.1)).1);go_meet;refine⟨rfl,hid (AK2 De.out (by have:=De.out;have:=ADY.out;omega) BP.out yH ((Yg w4 _).trans (ht5 _)) ⟨l++[2],by simp[hl],by simpa[vals]using Aw⟩),hid (((BF.out.alloc _).own HX.out.s hg5 fun q e=>(Af ho' q e).1).set HX.out.s LB.out _)⟩
  ·by_cases hN0:N=0
   ·subst hN0;have hn0:¬(0:Int)<((0:Nat):Int):=by omega
    go_wp2_with fail;go_meet;exact⟨rfl,hid (LA.of De.out BP.out),BF⟩
   ·have hn0:(0:Int)<(N:Int):=by omega
    have hn1:0<N:=by omega
    obtain⟨go,uD,o,rfl,ho1,ho2,Un,ol⟩:=Vy BP.out.2.2.1 hn1;have Gh:=hid (And.intro ho1 (And.intro ho2 (Ai Eb.out Un)));have HBO:=hid Un;clear ho1 ho2 hN0 Un;go_upto_region 10 with fail;go_region_law
     (first|(go_simp;go_at_call 15;refine(AEd [4,1,11,0,-2] 5 rfl (by decide) (by decide) g a len cap w1 w4 _ BF.out (by first|exact .inl rfl|exact .inr (.inl rfl)|exact .inr (.inr rfl))).mono ?_;rintro e w8 ⟨x8,hx8,rfl,Jm,G8⟩;have DZ:=hid (show Sr g a len cap w1 w8 from Sr.next BF.out Jm G8);have IW:=hid (JO BP.out G8 Eb.out);have K9:=(kh G8 Gh.out.2.2 ol).trans Gh.out.1;obtain⟨k1,k2,rl'⟩:=Vz K9 Gh.out.2.1;have R8:=hid K9;obtain⟨⟨b0,b1,b2⟩,-⟩:=AV IW.out.1;have jX:=IW.out.lt;clear Jm G8 K9 hx8)|(fail))
    all_goals
     go_wp2_with fail;go_meet;exact⟨rfl,hid (LA.of De.out (PX.set1 IW.out R8.out _)),hid (DZ.out.set HX.out.s HBO.out _)⟩
  ·by_cases hN0:N=0
   ·subst hN0;have hn0:¬(0:Int)<((0:Nat):Int):=by omega
    go_wp2_with fail;go_meet;exact⟨rfl,hid (LA.of De.out BP.out),BF⟩
   ·have hn0:(0:Int)<(N:Int):=by omega
    have hn1:0<N:=by omega
    obtain⟨gp,u0,uM,rfl,p1,pf,ph,pc,hrow,PG,pl⟩:=BP.out.2.2.2.1.at (NZ hn1);obtain⟨ar,cr,rfl,-⟩:=hrow.len;obtain⟨lr,hlr,OG⟩:=hrow.sl;have HOW:=hid (fun(W:World) (hk:AA Any w4 W)=>Ye N (by omega) ar cr lr hlr W ((OG.mono fun _ _=>trivial).keep hk));have Fv:=hid (And.intro ph (And.intro PG pl));have Iy:=hid hN;clear hrow hlr OG ph pc PG hN0;go_upto_region 13 with fail;go_region_law
     (first|(go_simp;go_at_call 63;refine(HOW.out _ (by repeat(first|exact AA.refl _ _|refine AA.drew ?_|refine AA.alloc ?_ _))).mono ?_;rintro e w6 ⟨g6,c6,rfl,A8,hb6⟩;have K6:AA Any w4 w6:=(by first|exact AA.of_below hb6|exact((AA.refl _ w4).drew).trans (AA.of_below hb6)|exact((AA.refl _ w4).alloc _).trans (AA.of_below hb6)|exact(((AA.refl _ w4).drew).alloc _).trans (AA.of_below hb6)|exact(((AA.refl _ w4).alloc _).drew).trans (AA.of_below hb6));have FP:=hid (JI (B':=w4.heap.size) A8 (by simp));have Ar:=hid (show Below w4.heap.size w4 w6 from(by first|exact hb6|exact((A7 _ w4).drew).trans hb6|exact(((A7 _ w4).alloc AR _).trans (hb6.mono (by simp)))|exact((((A7 _ w4).drew).alloc AR _).trans (hb6.mono (by simp)))|exact((((A7 _ w4).alloc AR _).drew).trans (hb6.mono (by simp)))));(first|have AEf:=ACH hb6|have AEf:=ACH ((AX.drew).trans hb6)|skip);have I4:=((K6.cell trivial pl).trans p1);have uN:=Ai pl K6.size;have DF:=BP.out.below Ar.out;obtain⟨⟨b0,b1,b2⟩,-⟩:=AV DF.1;have Nt:=DF.lt;clear DF A8 hb6)|(refine AAz (by rfl) _ _ (by rfl) w4.heap.size N w6.heap.size 1 (.slice (some ⟨g6,0,none⟩) N c6) (vals lr) 0 rfl (Br FP.out (S:=Any) ((AA.refl _ w6).alloc _) fun _ _=>trivial) rfl (ACI _ _) (by have:=Iy.out;omega) (Ad Ar.out.size (by simp)) ?_;intro v' w7 Cr Fp mG;obtain⟨b7,c7,rfl⟩:=LH Cr;have BB:=hid ((Ar.out.alloc Ar.out.size (.cells #[.int .i64 0] 2)).grown Fp (by have:=Ar.out.size;simp;omega) fun q e=>(Af FP.out q e).1);have M8:=hid (NC.R1.lT Cr (l:=lr++[0]) (by simp[vals]));have h7:=(BB.out.block gp pl).trans Fv.out.1;have k1:=BQ w7 gp 0 uM _ h7;have k2:=Ai pl BB.out.size;have k3:=((AA.of_below (S:=Any) BB.out).cell trivial pl).trans p1;have DX:=BP.out.below BB.out;obtain⟨⟨b0,b1,b2⟩,-⟩:=AV DX.1;have AMw:=DX.lt;have H7:=hid h7;clear DX Cr Fp mG h7)|(refine AAz (by rfl) _ _ (by rfl) w4.heap.size N w4.heap.size 1 (.slice (some ⟨g6,0,none⟩) N c6) (vals lr) 0 rfl FP.out rfl AEf (by have:=Iy.out;omega) Ar.out.size ?_;intro v' w7 Cr Fp mG;obtain⟨b7,c7,rfl⟩:=LH Cr;have BB:=hid (Ar.out.grown Fp Ar.out.size fun q e=>(Af FP.out q e).1);have M8:=hid (NC.R1.lT Cr (l:=lr++[0]) (by simp[vals]));have h7:=(BB.out.block gp pl).trans Fv.out.1;have k1:=BQ w7 gp 0 uM _ h7;have k2:=Ai pl BB.out.size;have k3:=((AA.of_below (S:=Any) BB.out).cell trivial pl).trans p1;have DX:=BP.out.below BB.out;obtain⟨⟨b0,b1,b2⟩,-⟩:=AV DX.1;have AMw:=DX.lt;have H7:=hid h7;clear DX Cr Fp mG h7)|(fail))
    all_goals
     go_wp2_with fail;go_meet;exact⟨rfl,hid (AK1 De.out (BP.out.below BB.out) H7.out ⟨_,by have:=ADY.out;omega,M8.out.mono BF.out.2.2.size⟩),hid ((BF.out.below BB.out).set HX.out.s Fv.out.2.1 _)⟩
  ·by_cases hN0:N=0
   ·subst hN0;have hn0:¬(0:Int)<((0:Nat):Int):=by omega
    go_wp2_with fail;go_meet;exact⟨rfl,hid (LA.of De.out BP.out),BF⟩
   ·have hn0:(0:Int)<(N:Int):=by omega
    have hn1:0<N:=by omega
    obtain⟨gp,u0,uM,rfl,p1,pf,ph,pc,hrow,PG,pl⟩:=BP.out.2.2.2.1.at (NZ hn1);obtain⟨ar,cr,rfl,-⟩:=hrow.len;obtain⟨gr,curr,xr,rfl,hr1,hr2,hBr,rl⟩:=Vy hrow hn1;obtain⟨k1,k2,-⟩:=Vz hr1 hr2;have HR1:=hid (And.intro hr1 hBr);clear hrow hr1 hr2 hBr ph pc PG hN0;go_wp2_with fail;go_meet;exact⟨rfl,hid (LA.of De.out (PX.set1 BP.out HR1.out.1 _)),hid (BF.out.set HX.out.s HR1.out.2 _)⟩
  ·by_cases hN0:N=0
   ·subst hN0;have hn0:¬(0:Int)<((0:Nat):Int):=by omega
    go_wp2_with fail;go_meet;exact⟨rfl,hid (LA.of De.out BP.out),BF⟩
   ·have hn0:(0:Int)<(N:Int):=by omega
    have hn1:0<N:=by omega
    have yI:=BP.out.2.2.2.2;obtain⟨us3,ho3,-⟩:=id yI;obtain⟨gc,uc,ec,s1,hcr,NI,sl⟩:=yI.at (Sn hn1);subst ec;have hlen:((List.range N).map fun i=>List.replicate (N-(i+1)) N).length=N:=by simp
    rw[hlen]at ho3;obtain⟨gc',WM,ec,hc1,hc2⟩:=AK3 ho3 hn1;obtain rfl:gc=gc':=by simpa using ec
    obtain⟨ac,cc,rfl,-⟩:=hcr.form;rw[DK]at s1 hcr;obtain⟨ln,hln⟩:∃ln,N-(0+1)=ln:=⟨_,rfl⟩;rw[hln]at s1 hcr;have DV:=hid (show ln≤100 by omega);have HA2:=hid (hcr.mono (AU _));have Fv:=hid (And.intro hc1 hc2);have hmk:=fun W=>UU N (by omega) W;clear hcr NI hc1 hc2 ho3 yI ec hlen hln hN0;have AMx:¬gc=gq:=fun e=>by
     have h1:=Fv.out.1;rw[e]at h1;have:=h1.symm.trans BP.out.1;simp at this
    have AO9:¬gq=gc:=fun e=>AMx e.symm;go_upto_region 19 with fail;refine wp_region_held_drew (S:=fun w'=>w'.cell? ⟨gq,0,none⟩=some (.slice x1 N y1)∧w'.cell? ⟨gq,2,none⟩=some (.slice (some ⟨gc,0,none⟩) N y3)) (by kernel_rfl) ⟨d0,d2⟩ (fun hHeld=>?_);refine Kb (i:=0) (v:=?vq1) (by simp only[CZ,Bz,CB];rfl) ?_ ?_ ?_ ?_ (Or.inl ⟨?_,?yq1⟩) ?_ ?rq1;case yq1=>(intro w hSw;(try dsimp only at hSw);go_simp;try with_reducible rfl)
    iterate 3 (kernel_rfl)
    ·exact fun _ _ _ h=>h
    ·rfl
    ·assumption
    try simp only[Act.put,CY,CE,CS]
    refine Kb (i:=1) (v:=?vq2) (by simp only[CZ,Bz,CB];rfl) ?_ ?_ ?_ ?_ (Or.inl ⟨?_,?yq2⟩) ?_ ?rq2;case yq2=>(intro w hSw;(try dsimp only at hSw);go_simp;try with_reducible rfl)
    iterate 3 (kernel_rfl)
    ·exact fun _ _ _ h=>h
    ·rfl
    ·assumption
    try simp only[Act.put,CY,CE,CS]
    refine Kb (i:=2) (v:=?vq3) (by simp only[CZ,Bz,CB];rfl) ?_ ?_ ?_ ?_ (Or.inl ⟨?_,?yq3⟩) ?_ ?rq3;case yq3=>(intro w hSw;(try dsimp only at hSw);go_simp;try with_reducible rfl)
    iterate 3 (kernel_rfl)
    ·exact fun _ _ _ h=>h
    ·rfl
    ·assumption
    try simp only[Act.put,CY,CE,CS]
    refine Kb (i:=3) (v:=?vq4) (by simp only[CZ,Bz,CB];rfl) ?_ ?_ ?_ ?_ (Or.inl ⟨?_,?yq4⟩) ?_ ?rq4;case yq4=>(intro w hSw;(try dsimp only at hSw);go_simp;try with_reducible rfl)
    iterate 3 (kernel_rfl)
    ·exact fun _ _ _ h=>h
    ·rfl
    ·assumption
    try simp only[Act.put,CY,CE,CS]
    refine Kb (i:=4) (v:=?vq5) (by simp only[CZ,Bz,CB];rfl) ?_ ?_ ?_ ?_ (Or.inl ⟨?_,?yq5⟩) ?_ ?rq5;case yq5=>(intro w hSw;(try dsimp only at hSw);go_simp;try with_reducible rfl)
    iterate 3 (kernel_rfl)
    ·exact fun _ _ _ h=>h
    ·rfl
    ·assumption
    try simp only[Act.put,CY,CE,CS]
    refine Kb (i:=7) (v:=?vq6) (by simp only[CZ,Bz,CB];rfl) ?_ ?_ ?_ ?_ (Or.inl ⟨?_,?yq6⟩) ?_ ?rq6;case yq6=>(intro w hSw;(try dsimp only at hSw);go_simp;try with_reducible rfl)
    iterate 3 (kernel_rfl)
    ·exact fun _ _ _ h=>h
    ·rfl
    ·assumption
    try simp only[Act.put,CY,CE,CS]
    refine Kb (i:=8) (v:=?vq7) (by simp only[CZ,Bz,CB];rfl) ?_ ?_ ?_ ?_ (Or.inl ⟨?_,?yq7⟩) ?_ ?rq7;case yq7=>(intro w hSw;(try dsimp only at hSw);go_simp;try with_reducible rfl)
    iterate 3 (kernel_rfl)
    ·exact fun _ _ _ h=>h
    ·rfl
    ·assumption
    try simp only[Act.put,CY,CE,CS]
    refine Kb (i:=9) (v:=?vq8) (by simp only[CZ,Bz,CB];rfl) ?_ ?_ ?_ ?_ (Or.inl ⟨?_,?yq8⟩) ?_ ?rq8;case yq8=>(intro w hSw;(try dsimp only at hSw);go_simp;try with_reducible rfl)
    iterate 3 (kernel_rfl)
    ·exact fun _ _ _ h=>h
    ·rfl
    ·assumption
    try simp only[Act.put,CY,CE,CS]
    refine E9 (rs:=[5,10]) (by kernel_rfl) (by simp) ?_;refine EC (by simp only[CZ,Bz,CB];rfl) (fun K hK=>?_) ?_
    ·go_simp;refine hK.out _ _ ?_ (fun Az=>?_)
     ·first|exact⟨d0,d2⟩|exact⟨b0,b2⟩|go_keep
     clear hK K hHeld;have hHeld:=Az;clear Az;try simp only[Act.put,CY,CE,CS]
     refine E9 (rs:=[6,10]) (by kernel_rfl) (by simp) ?_;refine EC (by simp only[CZ,Bz,CB];rfl) (fun K hK=>?_) ?_
     ·(go_simp;go_at_call 64;refine(Vj w4 _ ln N ac cc DV.out De.out (by repeat(first|with_reducible exact A7 _ _|with_reducible refine Below.drew ?_|with_reducible refine Below.alloc ?_ (by simp<;>omega) _)) HA2.out).mono ?_;rintro e w6 ⟨a6,c6,rfl,Da,Dw⟩;have Jn:=hid Da;(first|have PI:=hid (WL (w:=w4) De.out Dw (by simp<;>omega) (by first|rfl|exact E5 _ _ _ (by simp)))|skip);(first|have SA:=(Dw.block (w4.heap.size+1) trivial (by simp)).trans (show _=some (.cells #[Gv N w4.heap.size] 24 (0,0)) from new2 w4 _ _)|skip);have s6:=((AA.of_below (S:=Any) Da.1).cell (o:=0) trivial sl).trans s1;have aM:=Ai sl Da.1.size;have DF:=BP.out.below Da.1;obtain⟨⟨b0,b1,b2⟩,-⟩:=AV DF.1;have Nt:=DF.lt;clear DF Dw Da)
      refine hK.out _ _ ?_ (fun Az=>?_)
      ·first|exact⟨d0,d2⟩|exact⟨b0,b2⟩|go_keep
      clear hK K hHeld;have hHeld:=Az;clear Az;try simp only[Act.put,CY,CE,CS]
      refine E9 (rs:=[10]) (by kernel_rfl) (by simp) ?_;refine EC (by simp only[CZ,Bz,CB];rfl) (fun K hK=>?_) ?_
      ·go_simp;refine hK.out _ _ ?_ (fun Az=>?_)
       ·first|exact⟨d0,d2⟩|exact⟨b0,b2⟩|go_keep
       clear hK K hHeld;have hHeld:=Az;clear Az;try simp only[Act.put,CY,CE,CS]
       refine E9 (rs:=[11]) (by kernel_rfl) (by simp) ?_;refine EC (by simp only[CZ,Bz,CB];rfl) (fun K hK=>?_) ?_
       ·go_simp;refine hK.out _ _ ?_ (fun Az=>?_)
        ·first|exact⟨d0,d2⟩|exact⟨b0,b2⟩|go_keep
        clear hK K hHeld;have hHeld:=Az;clear Az;try simp only[Act.put,CY,CE,CS]
        refine E9 (rs:=[12]) (by kernel_rfl) (by simp) ?_;refine EC (by simp only[CZ,Bz,CB];rfl) (fun K hK=>?_) ?_
        ·(refine VM (w:=w4) (by rfl) _ _ (by rfl) ln N (w6.heap.size+1) w6.heap.size a6 c6 DV.out (by rfl) ((Jn.out.alloc _).alloc _) (by rfl) (new2 w6 _ _) (uL (ALj _ w6 N Jn.out.1.size De.out) (AJ.alloc _)) ?_;intro gg c7 Bj Bp Gw;have Dt:=hid Bp;have Lf:=hid Gw;have t1:=BQ Bj gc 0 WM _ ((Bp.block gc sl).trans Fv.out.1);have t2:=Ai sl Bp.size;have t3:=((AA.of_below (S:=Any) Bp).cell (o:=0) trivial sl).trans s1;have Ff:=BP.out.below Bp;obtain⟨⟨b0,b1,b2⟩,-⟩:=AV Ff.1;have Yh:=Ff.lt;clear Ff Bp Gw)
         refine hK.out _ _ ?_ (fun Az=>?_)
         ·first|exact⟨d0,d2⟩|exact⟨b0,b2⟩|go_keep
         clear hK K hHeld;have hHeld:=Az;clear Az;try simp only[Act.put,CY,CE,CS]
         refine Kb (i:=13) (v:=?vq9) (by simp only[CZ,Bz,CB];rfl) ?_ ?_ ?_ ?_ (Or.inl ⟨?_,?yq9⟩) ?_ ?rq9;case yq9=>(intro w hSw;(try dsimp only at hSw);go_simp;try with_reducible rfl)
         iterate 3 (kernel_rfl)
         ·exact fun _ _ _ h=>h
         ·rfl
         ·assumption
         try simp only[Act.put,CY,CE,CS]
         refine E9 (rs:=[14]) (by kernel_rfl) (by simp) ?_;refine EC (by simp only[CZ,Bz,CB];rfl) (fun K hK=>?_) ?_
         ·go_simp;refine hK.out _ _ ?_ (fun Az=>?_)
          ·first|exact⟨d0,d2⟩|exact⟨b0,b2⟩|go_keep
          clear hK K hHeld;have hHeld:=Az;clear Az;try simp only[Act.put,CY,CE,CS]
          refine wpAnyH_done (by kernel_rfl) ?_ _
          (go_wp2_with fail;go_meet;exact⟨rfl,hid (VZ De.out (BP.out.below Dt.out) ((Dt.out.block gc sl).trans Fv.out.1) (A2.of (Lf.out.mono BF.out.2.2.size) fun m hm=>by rw[(Kh.1 hm).2];exact De.out)),hid ((BF.out.below Dt.out).set HX.out.s Fv.out.2 _)⟩)
         exact E8
        exact E8
       exact E8
      exact E8
     refine EC (by simp only[CZ,Bz,CB];rfl) (fun K hK=>?_) ?_
     ·go_simp;refine hK.out _ _ ?_ (fun Az=>?_)
      ·first|exact⟨d0,d2⟩|exact⟨b0,b2⟩|go_keep
      clear hK K hHeld;have hHeld:=Az;clear Az;try simp only[Act.put,CY,CE,CS]
      refine E9 (rs:=[6,11]) (by kernel_rfl) (by simp) ?_;refine EC (by simp only[CZ,Bz,CB];rfl) (fun K hK=>?_) ?_
      ·(go_simp;go_at_call 64;refine(Vj w4 _ ln N ac cc DV.out De.out (by repeat(first|with_reducible exact A7 _ _|with_reducible refine Below.drew ?_|with_reducible refine Below.alloc ?_ (by simp<;>omega) _)) HA2.out).mono ?_;rintro e w6 ⟨a6,c6,rfl,Da,Dw⟩;have Jn:=hid Da;(first|have PI:=hid (WL (w:=w4) De.out Dw (by simp<;>omega) (by first|rfl|exact E5 _ _ _ (by simp)))|skip);(first|have SA:=(Dw.block (w4.heap.size+1) trivial (by simp)).trans (show _=some (.cells #[Gv N w4.heap.size] 24 (0,0)) from new2 w4 _ _)|skip);have s6:=((AA.of_below (S:=Any) Da.1).cell (o:=0) trivial sl).trans s1;have aM:=Ai sl Da.1.size;have DF:=BP.out.below Da.1;obtain⟨⟨b0,b1,b2⟩,-⟩:=AV DF.1;have Nt:=DF.lt;clear DF Dw Da)
       refine hK.out _ _ ?_ (fun Az=>?_)
       ·first|exact⟨d0,d2⟩|exact⟨b0,b2⟩|go_keep
       clear hK K hHeld;have hHeld:=Az;clear Az;try simp only[Act.put,CY,CE,CS]
       refine E9 (rs:=[11]) (by kernel_rfl) (by simp) ?_;refine EC (by simp only[CZ,Bz,CB];rfl) (fun K hK=>?_) ?_
       ·go_simp;refine hK.out _ _ ?_ (fun Az=>?_)
        ·first|exact⟨d0,d2⟩|exact⟨b0,b2⟩|go_keep
        clear hK K hHeld;have hHeld:=Az;clear Az;try simp only[Act.put,CY,CE,CS]
        refine E9 (rs:=[12]) (by kernel_rfl) (by simp) ?_;refine EC (by simp only[CZ,Bz,CB];rfl) (fun K hK=>?_) ?_
        ·(refine VM (w:=w4) (by rfl) _ _ (by rfl) ln N w6.heap.size w4.heap.size a6 c6 DV.out (by rfl) (Jn.out.alloc _) (by rfl) (BA w6 _) (uL PI.out (AJ.alloc _)) ?_;intro gg c7 Bj Bp Gw;have Dt:=hid Bp;have Lf:=hid Gw;have t1:=BQ Bj gc 0 WM _ ((Bp.block gc sl).trans Fv.out.1);have t2:=Ai sl Bp.size;have t3:=((AA.of_below (S:=Any) Bp).cell (o:=0) trivial sl).trans s1;have Ff:=BP.out.below Bp;obtain⟨⟨b0,b1,b2⟩,-⟩:=AV Ff.1;have Yh:=Ff.lt;clear Ff Bp Gw)
         refine hK.out _ _ ?_ (fun Az=>?_)
         ·first|exact⟨d0,d2⟩|exact⟨b0,b2⟩|go_keep
         clear hK K hHeld;have hHeld:=Az;clear Az;try simp only[Act.put,CY,CE,CS]
         refine Kb (i:=13) (v:=?APh) (by simp only[CZ,Bz,CB];rfl) ?_ ?_ ?_ ?_ (Or.inl ⟨?_,?AMy⟩) ?_ ?APi;case AMy=>(intro w hSw;(try dsimp only at hSw);go_simp;try with_reducible rfl)
         iterate 3 (kernel_rfl)
         ·exact fun _ _ _ h=>h
         ·rfl
         ·assumption
         try simp only[Act.put,CY,CE,CS]
         refine E9 (rs:=[14]) (by kernel_rfl) (by simp) ?_;refine EC (by simp only[CZ,Bz,CB];rfl) (fun K hK=>?_) ?_
         ·go_simp;refine hK.out _ _ ?_ (fun Az=>?_)
          ·first|exact⟨d0,d2⟩|exact⟨b0,b2⟩|go_keep
          clear hK K hHeld;have hHeld:=Az;clear Az;try simp only[Act.put,CY,CE,CS]
          refine wpAnyH_done (by kernel_rfl) ?_ _
          (go_wp2_with fail;go_meet;exact⟨rfl,hid (VZ De.out (BP.out.below Dt.out) ((Dt.out.block gc sl).trans Fv.out.1) (A2.of (Lf.out.mono BF.out.2.2.size) fun m hm=>by rw[(Kh.1 hm).2];exact De.out)),hid ((BF.out.below Dt.out).set HX.out.s Fv.out.2 _)⟩)
         exact E8
        exact E8
       exact E8
      refine EC (by simp only[CZ,Bz,CB];rfl) (fun K hK=>?_) ?_
      ·go_simp;refine hK.out _ _ ?_ (fun Az=>?_)
       ·first|exact⟨d0,d2⟩|exact⟨b0,b2⟩|go_keep
       clear hK K hHeld;have hHeld:=Az;clear Az;try simp only[Act.put,CY,CE,CS]
       refine E9 (rs:=[6]) (by kernel_rfl) (by simp) ?_;refine EC (by simp only[CZ,Bz,CB];rfl) (fun K hK=>?_) ?_
       ·(go_simp;go_at_call 64;refine(Vj w4 _ ln N ac cc DV.out De.out (by repeat(first|with_reducible exact A7 _ _|with_reducible refine Below.drew ?_|with_reducible refine Below.alloc ?_ (by simp<;>omega) _)) HA2.out).mono ?_;rintro e w6 ⟨a6,c6,rfl,Da,Dw⟩;have Jn:=hid Da;(first|have PI:=hid (WL (w:=w4) De.out Dw (by simp<;>omega) (by first|rfl|exact E5 _ _ _ (by simp)))|skip);(first|have SA:=(Dw.block (w4.heap.size+1) trivial (by simp)).trans (show _=some (.cells #[Gv N w4.heap.size] 24 (0,0)) from new2 w4 _ _)|skip);have s6:=((AA.of_below (S:=Any) Da.1).cell (o:=0) trivial sl).trans s1;have aM:=Ai sl Da.1.size;have DF:=BP.out.below Da.1;obtain⟨⟨b0,b1,b2⟩,-⟩:=AV DF.1;have Nt:=DF.lt;clear DF Dw Da)
        refine hK.out _ _ ?_ (fun Az=>?_)
        ·first|exact⟨d0,d2⟩|exact⟨b0,b2⟩|go_keep
        clear hK K hHeld;have hHeld:=Az;clear Az;try simp only[Act.put,CY,CE,CS]
        refine E9 (rs:=[12]) (by kernel_rfl) (by simp) ?_;refine EC (by simp only[CZ,Bz,CB];rfl) (fun K hK=>?_) ?_
        ·(refine VM (w:=w4) (by rfl) _ _ (by rfl) ln N (w4.heap.size+1) w4.heap.size a6 c6 DV.out (by rfl) Jn.out (by rfl) SA PI.out ?_;intro gg c7 Bj Bp Gw;have Dt:=hid Bp;have Lf:=hid Gw;have t1:=BQ Bj gc 0 WM _ ((Bp.block gc sl).trans Fv.out.1);have t2:=Ai sl Bp.size;have t3:=((AA.of_below (S:=Any) Bp).cell (o:=0) trivial sl).trans s1;have Ff:=BP.out.below Bp;obtain⟨⟨b0,b1,b2⟩,-⟩:=AV Ff.1;have Yh:=Ff.lt;clear Ff Bp Gw)
         refine hK.out _ _ ?_ (fun Az=>?_)
         ·first|exact⟨d0,d2⟩|exact⟨b0,b2⟩|go_keep
         clear hK K hHeld;have hHeld:=Az;clear Az;try simp only[Act.put,CY,CE,CS]
         refine Kb (i:=13) (v:=?APj) (by simp only[CZ,Bz,CB];rfl) ?_ ?_ ?_ ?_ (Or.inl ⟨?_,?AMz⟩) ?_ ?APk;case AMz=>(intro w hSw;(try dsimp only at hSw);go_simp;try with_reducible rfl)
         iterate 3 (kernel_rfl)
         ·exact fun _ _ _ h=>h
         ·rfl
         ·assumption
         try simp only[Act.put,CY,CE,CS]
         refine E9 (rs:=[14]) (by kernel_rfl) (by simp) ?_;refine EC (by simp only[CZ,Bz,CB];rfl) (fun K hK=>?_) ?_
         ·go_simp;refine hK.out _ _ ?_ (fun Az=>?_)
          ·first|exact⟨d0,d2⟩|exact⟨b0,b2⟩|go_keep
          clear hK K hHeld;have hHeld:=Az;clear Az;try simp only[Act.put,CY,CE,CS]
          refine wpAnyH_done (by kernel_rfl) ?_ _
          (go_wp2_with fail;go_meet;exact⟨rfl,hid (VZ De.out (BP.out.below Dt.out) ((Dt.out.block gc sl).trans Fv.out.1) (A2.of (Lf.out.mono BF.out.2.2.size) fun m hm=>by rw[(Kh.1 hm).2];exact De.out)),hid ((BF.out.below Dt.out).set HX.out.s Fv.out.2 _)⟩)
         exact E8
        exact E8
       exact E8
      exact E8
     exact E8
    refine EC (by simp only[CZ,Bz,CB];rfl) (fun K hK=>?_) ?_
    ·go_simp;refine hK.out _ _ ?_ (fun Az=>?_)
     ·first|exact⟨d0,d2⟩|exact⟨b0,b2⟩|go_keep
     clear hK K hHeld;have hHeld:=Az;clear Az;try simp only[Act.put,CY,CE,CS]
     refine E9 (rs:=[5,11]) (by kernel_rfl) (by simp) ?_;refine EC (by simp only[CZ,Bz,CB];rfl) (fun K hK=>?_) ?_
     ·go_simp;refine hK.out _ _ ?_ (fun Az=>?_)
      ·first|exact⟨d0,d2⟩|exact⟨b0,b2⟩|go_keep
      clear hK K hHeld;have hHeld:=Az;clear Az;try simp only[Act.put,CY,CE,CS]
      refine E9 (rs:=[6,11]) (by kernel_rfl) (by simp) ?_;refine EC (by simp only[CZ,Bz,CB];rfl) (fun K hK=>?_) ?_
      ·(go_simp;go_at_call 64;refine(Vj w4 _ ln N ac cc DV.out De.out (by repeat(first|with_reducible exact A7 _ _|with_reducible refine Below.drew ?_|with_reducible refine Below.alloc ?_ (by simp<;>omega) _)) HA2.out).mono ?_;rintro e w6 ⟨a6,c6,rfl,Da,Dw⟩;have Jn:=hid Da;(first|have PI:=hid (WL (w:=w4) De.out Dw (by simp<;>omega) (by first|rfl|exact E5 _ _ _ (by simp)))|skip);(first|have SA:=(Dw.block (w4.heap.size+1) trivial (by simp)).trans (show _=some (.cells #[Gv N w4.heap.size] 24 (0,0)) from new2 w4 _ _)|skip);have s6:=((AA.of_below (S:=Any) Da.1).cell (o:=0) trivial sl).trans s1;have aM:=Ai sl Da.1.size;have DF:=BP.out.below Da.1;obtain⟨⟨b0,b1,b2⟩,-⟩:=AV DF.1;have Nt:=DF.lt;clear DF Dw Da)
       refine hK.out _ _ ?_ (fun Az=>?_)
       ·first|exact⟨d0,d2⟩|exact⟨b0,b2⟩|go_keep
       clear hK K hHeld;have hHeld:=Az;clear Az;try simp only[Act.put,CY,CE,CS]
       refine E9 (rs:=[11]) (by kernel_rfl) (by simp) ?_;refine EC (by simp only[CZ,Bz,CB];rfl) (fun K hK=>?_) ?_
       ·go_simp;refine hK.out _ _ ?_ (fun Az=>?_)
        ·first|exact⟨d0,d2⟩|exact⟨b0,b2⟩|go_keep
        clear hK K hHeld;have hHeld:=Az;clear Az;try simp only[Act.put,CY,CE,CS]
        refine E9 (rs:=[12]) (by kernel_rfl) (by simp) ?_;refine EC (by simp only[CZ,Bz,CB];rfl) (fun K hK=>?_) ?_
        ·(refine VM (w:=w4) (by rfl) _ _ (by rfl) ln N w6.heap.size w4.heap.size a6 c6 DV.out (by rfl) (Jn.out.alloc _) (by rfl) (BA w6 _) (uL PI.out (AJ.alloc _)) ?_;intro gg c7 Bj Bp Gw;have Dt:=hid Bp;have Lf:=hid Gw;have t1:=BQ Bj gc 0 WM _ ((Bp.block gc sl).trans Fv.out.1);have t2:=Ai sl Bp.size;have t3:=((AA.of_below (S:=Any) Bp).cell (o:=0) trivial sl).trans s1;have Ff:=BP.out.below Bp;obtain⟨⟨b0,b1,b2⟩,-⟩:=AV Ff.1;have Yh:=Ff.lt;clear Ff Bp Gw)
         refine hK.out _ _ ?_ (fun Az=>?_)
         ·first|exact⟨d0,d2⟩|exact⟨b0,b2⟩|go_keep
         clear hK K hHeld;have hHeld:=Az;clear Az;try simp only[Act.put,CY,CE,CS]
         refine Kb (i:=13) (v:=?APl) (by simp only[CZ,Bz,CB];rfl) ?_ ?_ ?_ ?_ (Or.inl ⟨?_,?AM0⟩) ?_ ?APm;case AM0=>(intro w hSw;(try dsimp only at hSw);go_simp;try with_reducible rfl)
         iterate 3 (kernel_rfl)
         ·exact fun _ _ _ h=>h
         ·rfl
         ·assumption
         try simp only[Act.put,CY,CE,CS]
         refine E9 (rs:=[14]) (by kernel_rfl) (by simp) ?_;refine EC (by simp only[CZ,Bz,CB];rfl) (fun K hK=>?_) ?_
         ·go_simp;refine hK.out _ _ ?_ (fun Az=>?_)
          ·first|exact⟨d0,d2⟩|exact⟨b0,b2⟩|go_keep
          clear hK K hHeld;have hHeld:=Az;clear Az;try simp only[Act.put,CY,CE,CS]
          refine wpAnyH_done (by kernel_rfl) ?_ _
          (go_wp2_with fail;go_meet;exact⟨rfl,hid (VZ De.out (BP.out.below Dt.out) ((Dt.out.block gc sl).trans Fv.out.1) (A2.of (Lf.out.mono BF.out.2.2.size) fun m hm=>by rw[(Kh.1 hm).2];exact De.out)),hid ((BF.out.below Dt.out).set HX.out.s Fv.out.2 _)⟩)
         exact E8
        exact E8
       exact E8
      refine EC (by simp only[CZ,Bz,CB];rfl) (fun K hK=>?_) ?_
      ·go_simp;refine hK.out _ _ ?_ (fun Az=>?_)
       ·first|exact⟨d0,d2⟩|exact⟨b0,b2⟩|go_keep
       clear hK K hHeld;have hHeld:=Az;clear Az;try simp only[Act.put,CY,CE,CS]
       refine E9 (rs:=[6]) (by kernel_rfl) (by simp) ?_;refine EC (by simp only[CZ,Bz,CB];rfl) (fun K hK=>?_) ?_
       ·(go_simp;go_at_call 64;refine(Vj w4 _ ln N ac cc DV.out De.out (by repeat(first|with_reducible exact A7 _ _|with_reducible refine Below.drew ?_|with_reducible refine Below.alloc ?_ (by simp<;>omega) _)) HA2.out).mono ?_;rintro e w6 ⟨a6,c6,rfl,Da,Dw⟩;have Jn:=hid Da;(first|have PI:=hid (WL (w:=w4) De.out Dw (by simp<;>omega) (by first|rfl|exact E5 _ _ _ (by simp)))|skip);(first|have SA:=(Dw.block (w4.heap.size+1) trivial (by simp)).trans (show _=some (.cells #[Gv N w4.heap.size] 24 (0,0)) from new2 w4 _ _)|skip);have s6:=((AA.of_below (S:=Any) Da.1).cell (o:=0) trivial sl).trans s1;have aM:=Ai sl Da.1.size;have DF:=BP.out.below Da.1;obtain⟨⟨b0,b1,b2⟩,-⟩:=AV DF.1;have Nt:=DF.lt;clear DF Dw Da)
        refine hK.out _ _ ?_ (fun Az=>?_)
        ·first|exact⟨d0,d2⟩|exact⟨b0,b2⟩|go_keep
        clear hK K hHeld;have hHeld:=Az;clear Az;try simp only[Act.put,CY,CE,CS]
        refine E9 (rs:=[12]) (by kernel_rfl) (by simp) ?_;refine EC (by simp only[CZ,Bz,CB];rfl) (fun K hK=>?_) ?_
        ·(refine VM (w:=w4) (by rfl) _ _ (by rfl) ln N (w4.heap.size+1) w4.heap.size a6 c6 DV.out (by rfl) Jn.out (by rfl) SA PI.out ?_;intro gg c7 Bj Bp Gw;have Dt:=hid Bp;have Lf:=hid Gw;have t1:=BQ Bj gc 0 WM _ ((Bp.block gc sl).trans Fv.out.1);have t2:=Ai sl Bp.size;have t3:=((AA.of_below (S:=Any) Bp).cell (o:=0) trivial sl).trans s1;have Ff:=BP.out.below Bp;obtain⟨⟨b0,b1,b2⟩,-⟩:=AV Ff.1;have Yh:=Ff.lt;clear Ff Bp Gw)
         refine hK.out _ _ ?_ (fun Az=>?_)
         ·first|exact⟨d0,d2⟩|exact⟨b0,b2⟩|go_keep
         clear hK K hHeld;have hHeld:=Az;clear Az;try simp only[Act.put,CY,CE,CS]
         refine Kb (i:=13) (v:=?APn) (by simp only[CZ,Bz,CB];rfl) ?_ ?_ ?_ ?_ (Or.inl ⟨?_,?AM1⟩) ?_ ?APo;case AM1=>(intro w hSw;(try dsimp only at hSw);go_simp;try with_reducible rfl)
         iterate 3 (kernel_rfl)
         ·exact fun _ _ _ h=>h
         ·rfl
         ·assumption
         try simp only[Act.put,CY,CE,CS]
         refine E9 (rs:=[14]) (by kernel_rfl) (by simp) ?_;refine EC (by simp only[CZ,Bz,CB];rfl) (fun K hK=>?_) ?_
         ·go_simp;refine hK.out _ _ ?_ (fun Az=>?_)
          ·first|exact⟨d0,d2⟩|exact⟨b0,b2⟩|go_keep
          clear hK K hHeld;have hHeld:=Az;clear Az;try simp only[Act.put,CY,CE,CS]
          refine wpAnyH_done (by kernel_rfl) ?_ _
          (go_wp2_with fail;go_meet;exact⟨rfl,hid (VZ De.out (BP.out.below Dt.out) ((Dt.out.block gc sl).trans Fv.out.1) (A2.of (Lf.out.mono BF.out.2.2.size) fun m hm=>by rw[(Kh.1 hm).2];exact De.out)),hid ((BF.out.below Dt.out).set HX.out.s Fv.out.2 _)⟩)
         exact E8
        exact E8
       exact E8
      exact E8
     refine EC (by simp only[CZ,Bz,CB];rfl) (fun K hK=>?_) ?_
     ·go_simp;refine hK.out _ _ ?_ (fun Az=>?_)
      ·first|exact⟨d0,d2⟩|exact⟨b0,b2⟩|go_keep
      clear hK K hHeld;have hHeld:=Az;clear Az;try simp only[Act.put,CY,CE,CS]
      refine E9 (rs:=[5]) (by kernel_rfl) (by simp) ?_;refine EC (by simp only[CZ,Bz,CB];rfl) (fun K hK=>?_) ?_
      ·go_simp;refine hK.out _ _ ?_ (fun Az=>?_)
       ·first|exact⟨d0,d2⟩|exact⟨b0,b2⟩|go_keep
       clear hK K hHeld;have hHeld:=Az;clear Az;try simp only[Act.put,CY,CE,CS]
       refine E9 (rs:=[6]) (by kernel_rfl) (by simp) ?_;refine EC (by simp only[CZ,Bz,CB];rfl) (fun K hK=>?_) ?_
       ·(go_simp;go_at_call 64;refine(Vj w4 _ ln N ac cc DV.out De.out (by repeat(first|with_reducible exact A7 _ _|with_reducible refine Below.drew ?_|with_reducible refine Below.alloc ?_ (by simp<;>omega) _)) HA2.out).mono ?_;rintro e w6 ⟨a6,c6,rfl,Da,Dw⟩;have Jn:=hid Da;(first|have PI:=hid (WL (w:=w4) De.out Dw (by simp<;>omega) (by first|rfl|exact E5 _ _ _ (by simp)))|skip);(first|have SA:=(Dw.block (w4.heap.size+1) trivial (by simp)).trans (show _=some (.cells #[Gv N w4.heap.size] 24 (0,0)) from new2 w4 _ _)|skip);have s6:=((AA.of_below (S:=Any) Da.1).cell (o:=0) trivial sl).trans s1;have aM:=Ai sl Da.1.size;have DF:=BP.out.below Da.1;obtain⟨⟨b0,b1,b2⟩,-⟩:=AV DF.1;have Nt:=DF.lt;clear DF Dw Da)
        refine hK.out _ _ ?_ (fun Az=>?_)
        ·first|exact⟨d0,d2⟩|exact⟨b0,b2⟩|go_keep
        clear hK K hHeld;have hHeld:=Az;clear Az;try simp only[Act.put,CY,CE,CS]
        refine E9 (rs:=[12]) (by kernel_rfl) (by simp) ?_;refine EC (by simp only[CZ,Bz,CB];rfl) (fun K hK=>?_) ?_
        ·(refine VM (w:=w4) (by rfl) _ _ (by rfl) ln N (w4.heap.size+1) w4.heap.size a6 c6 DV.out (by rfl) Jn.out (by rfl) SA PI.out ?_;intro gg c7 Bj Bp Gw;have Dt:=hid Bp;have Lf:=hid Gw;have t1:=BQ Bj gc 0 WM _ ((Bp.block gc sl).trans Fv.out.1);have t2:=Ai sl Bp.size;have t3:=((AA.of_below (S:=Any) Bp).cell (o:=0) trivial sl).trans s1;have Ff:=BP.out.below Bp;obtain⟨⟨b0,b1,b2⟩,-⟩:=AV Ff.1;have Yh:=Ff.lt;clear Ff Bp Gw)
         refine hK.out _ _ ?_ (fun Az=>?_)
         ·first|exact⟨d0,d2⟩|exact⟨b0,b2⟩|go_keep
         clear hK K hHeld;have hHeld:=Az;clear Az;try simp only[Act.put,CY,CE,CS]
         refine Kb (i:=13) (v:=?APp) (by simp only[CZ,Bz,CB];rfl) ?_ ?_ ?_ ?_ (Or.inl ⟨?_,?AM2⟩) ?_ ?APq;case AM2=>(intro w hSw;(try dsimp only at hSw);go_simp;try with_reducible rfl)
         iterate 3 (kernel_rfl)
         ·exact fun _ _ _ h=>h
         ·rfl
         ·assumption
         try simp only[Act.put,CY,CE,CS]
         refine E9 (rs:=[14]) (by kernel_rfl) (by simp) ?_;refine EC (by simp only[CZ,Bz,CB];rfl) (fun K hK=>?_) ?_
         ·go_simp;refine hK.out _ _ ?_ (fun Az=>?_)
          ·first|exact⟨d0,d2⟩|exact⟨b0,b2⟩|go_keep
          clear hK K hHeld;have hHeld:=Az;clear Az;try simp only[Act.put,CY,CE,CS]
          refine wpAnyH_done (by kernel_rfl) ?_ _
          (go_wp2_with fail;go_meet;exact⟨rfl,hid (VZ De.out (BP.out.below Dt.out) ((Dt.out.block gc sl).trans Fv.out.1) (A2.of (Lf.out.mono BF.out.2.2.size) fun m hm=>by rw[(Kh.1 hm).2];exact De.out)),hid ((BF.out.below Dt.out).set HX.out.s Fv.out.2 _)⟩)
         exact E8
        exact E8
       exact E8
      exact E8
     exact E8
    exact E8
  ·go_upto_region 4 with(go_at_call 61;refine(iI [7,7,7,7] 4 rfl (by decide) _).mono ?_;rintro e w6 ⟨M,X1,X2,X3,Y1,Y2,Y3,hM,rfl,hp,hb⟩;have Ar:=hid (show Below w4.heap.size w4 w6 from((A7 _ w4).alloc AR _).trans (hb.mono (by simp)));have Bd:=hid (show PT w1.heap.size w6 M (.slice X1 M Y1) (.slice X2 M Y2) (.slice X3 M Y3) from hp.mono (Ad BF.out.2.2.size (by simp)));have Uk:=BP.out.below Ar.out;obtain⟨⟨u0,u1,u2⟩,v0,v1,v2⟩:=AV Uk.1;have Nt:=Uk.lt;have XJ:=hid hM;clear hp hb hM Uk);have DX:=hid (PX.BZ (BP.out.below Ar.out).1 LB.out Bd.out);have ET:=hid ((BF.out.below Ar.out).Tt HX.out.s LB.out (.slice X1 M Y1) (.slice X2 M Y2) (.slice X3 M Y3));obtain⟨w7,hw7⟩:∃w7,w7=(((w6.setCell ⟨gq,0,none⟩ (.slice X1 M Y1)).setCell ⟨gq,1,none⟩ (.slice X2 M Y2)).setCell ⟨gq,2,none⟩ (.slice X3 M Y3)):=⟨_,rfl⟩;rw[←hw7]at DX ET ⊢;clear hw7 d0 d1 d2 s0 s1 s2 hgl u0 u1 u2 v0 v1 v2 Nt;go_upto_if 14 with(go_at_call 27;refine(Ma _ g a len cap w1 _ ET.out).mono ?_;rintro e w8 ⟨r,rfl,hr,Jm⟩;have DZ:=hid (ET.out.tr Jm);have EP:=hid (JO DX.out Jm.2.2 Eb.out);clear Jm);by_cases hr0:r=0
   ·subst hr0;go_wp2_with (go_at_call 61;refine(iI [2,2,2,2,2,2,2] 7 rfl (by decide) _).mono ?_;rintro e w9 ⟨K,Z1,Z2,Z3,V1,V2,V3,hK,rfl,hp,hb⟩;have Gy:=hid (show Below w8.heap.size w8 w9 from((A7 _ w8).alloc AR _).trans (hb.mono (by simp)));have NH:=hid (show PT w1.heap.size w9 K (.slice Z1 K V1) (.slice Z2 K V2) (.slice Z3 K V3) from hp.mono (Ad DZ.out.2.2.size (by simp)));have yJ:=EP.out.below Gy.out;obtain⟨⟨u0,u1,u2⟩,v0,v1,v2⟩:=AV yJ.1;have APr:=yJ.lt;have mH:=hid hK;clear hp hb hK yJ);go_meet;exact⟨rfl,hid (LA.of (Ad mH.out (by decide)) (PX.BZ (EP.out.below Gy.out).1 LB.out NH.out)),hid ((DZ.out.below Gy.out).Tt HX.out.s LB.out _ _ _)⟩
   ·have Wu:((r:Int)==0)=false:=LZ.2 (by omega);go_wp2_with fail;go_meet;exact⟨rfl,hid (LA.of (Ad XJ.out (by decide)) EP.out),DZ⟩
end Go.Proofs.YtaadbccidfdniaaGreat.yG
namespace Go.Proofs.YtaadbccidfdniaaGreat.XK
open Go.RowKit Go.Proofs.YtaadbccidfdniaaGreat AB Dp Cn Dm Df Cc Gl O9 O7 QW PE Um XI aK yG
theorem X4 (lim:Int)(g:Nat)(a:Option Addr)(len cap:Nat)(w:World)(h:Sr g a len cap w w):Calls Tryz.prog 14 #[.pointer (some ⟨g,0,none⟩),.int .i64 lim] w (NJ g a len cap w):=by
 obtain⟨w1,hw1⟩:∃w1,w1=w.alloc CG:=⟨_,rfl⟩;obtain⟨g0,hg0⟩:∃g0,w.heap.size=g0:=⟨_,rfl⟩;have HX:=hid (show Bx g a len cap w w1 g0 by rw[hw1,←hg0];exact Bx.new h);have Eb:=hid (show g<w1.heap.size from HX.out.s.lt);clear h;go_enter Tryz.func14,Tryz.ntmps14;go_upto_region 1 with fail;rw[←hw1];clear hw1 hg0;go_upto_region 2 with(go_at_call 28;refine(AJ1 lim g a len cap w1 HX.out.s).mono ?_;rintro e w2 ⟨N,x1,x2,x3,y1,y2,y3,hN,rfl,hp,hs⟩);obtain⟨gp,DW⟩:∃gp,w2.heap.size=gp:=⟨_,rfl⟩;obtain⟨w3,hw3⟩:∃w3,w3=w2.alloc (.cells #[.slice x1 N y1,.slice x2 N y2,.slice x3 N y3] 28):=⟨_,rfl⟩;rw[←hw3,DW];have Be:=hid (show Sr g a len cap w1 w3 by rw[hw3];exact hs.alloc _);have Ev:=hid (show PX w1.heap.size N w3 gp (.slice x1 N y1) (.slice x2 N y2) (.slice x3 N y3) by rw[hw3,←DW];exact MW hp AR hs.2.2.size);have hne:¬gp=g0:=by have h1:=HX.out.s1;have h2:=Ev.out.2.1;omega
 clear hp hs DW hw3;go_upto_block 0 with(go_at_call 27;refine(Ma _ g a len cap w1 _ Be.out).mono ?_;rintro e w4 ⟨r,rfl,hr,IV⟩;have BF:=hid (Be.out.tr IV);have BP:=hid (JO Ev.out IV.2.2 Eb.out);clear IV);clear Be Ev;have HA4:=hid (BP.out.2.2.mono (AU _));obtain⟨⟨d0,d1,d2⟩,-⟩:=AV BP.out.1;have hgl:=BP.out.lt;by_cases hr0:r=0
 ·subst hr0;go_wp2_with (go_at_call 29;refine(AIi N hN x1 x2 x3 y1 y2 y3 g a len cap w4 (Sr.here BF.out) HA4.out).mono ?_;rintro e w6 ⟨X1,X2,X3,n1,n2,n3,Y1,Y2,Y3,rfl,hp,hs⟩;have Ab:=hid (BF.out.tr hs);have Bd:=hid (PA.mono hp BF.out.2.2.size);obtain⟨⟨e0,e1,e2⟩,f0,f1,f2⟩:=AV (HX.out.k Ab.out).1;have hgr:=(HX.out.k Ab.out).2;clear hp hs);obtain⟨⟨z0,z1,z2⟩,-⟩:=AV (BZ (x:=.slice X1 n1 Y1) (y:=.slice X2 n2 Y2) (z:=.slice X3 n3 Y3) (HX.out.k Ab.out).1);exact Aj (v:=.agg #[.slice X1 n1 Y1,.slice X2 n2 Y2,.slice X3 n3 Y3]) (by simp[results,Tryz.results14,go_sem,z0,z1,z2]) rfl (Bx.RV HX.out Ab.out Bd.out)
 by_cases hr1:r=1∨r=2
 ·rcases hr1 with rfl|rfl;all_goals
   go_wp2_with (go_at_call 30;refine(AIh N hN x1 x2 x3 y1 y2 y3 g a len cap w4 (Sr.here BF.out) HA4.out).mono ?_;rintro e w6 ⟨M,X1,X2,X3,Y1,Y2,Y3,hM,rfl,hp,hs⟩;have Ab:=hid (BF.out.tr hs);have Bd:=hid (PA.mono (PA.of (Ad hM (by decide)) hp) BF.out.2.2.size);obtain⟨⟨e0,e1,e2⟩,f0,f1,f2⟩:=AV (HX.out.k Ab.out).1;have hgr:=(HX.out.k Ab.out).2;clear hp hs);obtain⟨⟨z0,z1,z2⟩,-⟩:=AV (BZ (x:=.slice X1 M Y1) (y:=.slice X2 M Y2) (z:=.slice X3 M Y3) (HX.out.k Ab.out).1);exact Aj (v:=.agg #[.slice X1 M Y1,.slice X2 M Y2,.slice X3 M Y3]) (by simp[results,Tryz.results14,go_sem,z0,z1,z2]) rfl (Bx.RV HX.out Ab.out Bd.out)
 ·have h0:((r:Int)==0)=false:=LZ.2 (by omega);have h1:((r:Int)==1)=false:=LZ.2 (by omega);have h2:((r:Int)==2)=false:=LZ.2 (by omega);obtain⟨⟨e0,e1,e2⟩,f0,f1,f2⟩:=AV (HX.out.k BF.out).1;have hgr:=(HX.out.k BF.out).2;clear hr hr0 hr1;go_wp2_with fail;obtain⟨⟨z0,z1,z2⟩,-⟩:=AV (BZ (x:=.slice x1 N y1) (y:=.slice x2 N y2) (z:=.slice x3 N y3) (HX.out.k BF.out).1);exact Aj (v:=.agg #[.slice x1 N y1,.slice x2 N y2,.slice x3 N y3]) (by simp[results,Tryz.results14,go_sem,z0,z1,z2]) rfl (Bx.RV HX.out BF.out (PA.of (Ad hN (by decide)) BP.out.2.2))
end Go.Proofs.YtaadbccidfdniaaGreat.XK
namespace Go.Proofs.YtaadbccidfdniaaGreat.FcD
open Go.RowKit Go.Proofs.YtaadbccidfdniaaGreat AB Dp Cn Dm Df Cc Gl O9 O7 QW PE Um XI aK yG
theorem AJ2 (g:Nat)(a:Option Addr)(len cap:Nat)(w:World)(h:Sr g a len cap w w):Calls Tryz.prog 13 #[.pointer (some ⟨g,0,none⟩)] w (NJ g a len cap w):=by
 obtain⟨w1,hw1⟩:∃w1,w1=w.alloc CG:=⟨_,rfl⟩;obtain⟨g0,hg0⟩:∃g0,w.heap.size=g0:=⟨_,rfl⟩;have HX:=hid (show Bx g a len cap w w1 g0 by rw[hw1,←hg0];exact Bx.new h);clear h;go_enter Tryz.func13,Tryz.ntmps13;go_upto_region 1 with fail;rw[←hw1];clear hw1 hg0;go_upto_block 0 with(go_at_call 27;refine(Ma _ g a len cap w1 _ HX.out.s).mono ?_;rintro e w4 ⟨r,rfl,hr,IV⟩;have BF:=hid IV;clear IV);by_cases hr0:r=0
 ·subst hr0;go_wp2_with (go_at_call 14;refine(XK.X4 _ g a len cap w4 (Sr.here BF.out)).mono ?_;rintro e w6 ⟨X1,X2,X3,n1,n2,n3,Y1,Y2,Y3,rfl,hp,hs⟩;have Ab:=hid (BF.out.tr hs);have Bd:=hid (PA.mono hp BF.out.2.2.size);obtain⟨⟨e0,e1,e2⟩,f0,f1,f2⟩:=AV (HX.out.k Ab.out).1;have hgr:=(HX.out.k Ab.out).2;clear hp hs);obtain⟨⟨z0,z1,z2⟩,-⟩:=AV (BZ (x:=.slice X1 n1 Y1) (y:=.slice X2 n2 Y2) (z:=.slice X3 n3 Y3) (HX.out.k Ab.out).1);exact Aj (v:=.agg #[.slice X1 n1 Y1,.slice X2 n2 Y2,.slice X3 n3 Y3]) (by simp[results,Tryz.results13,go_sem,z0,z1,z2]) rfl (Bx.RV HX.out Ab.out Bd.out)
 by_cases hr1:r=1
 ·subst hr1;go_wp2_with (go_at_call 14;refine(XK.X4 _ g a len cap w4 (Sr.here BF.out)).mono ?_;rintro e w6 ⟨X1,X2,X3,n1,n2,n3,Y1,Y2,Y3,rfl,hp,hs⟩;have Ab:=hid (BF.out.tr hs);have Bd:=hid (PA.mono hp BF.out.2.2.size);obtain⟨⟨e0,e1,e2⟩,f0,f1,f2⟩:=AV (HX.out.k Ab.out).1;have hgr:=(HX.out.k Ab.out).2;clear hp hs);obtain⟨⟨z0,z1,z2⟩,-⟩:=AV (BZ (x:=.slice X1 n1 Y1) (y:=.slice X2 n2 Y2) (z:=.slice X3 n3 Y3) (HX.out.k Ab.out).1);exact Aj (v:=.agg #[.slice X1 n1 Y1,.slice X2 n2 Y2,.slice X3 n3 Y3]) (by simp[results,Tryz.results13,go_sem,z0,z1,z2]) rfl (Bx.RV HX.out Ab.out Bd.out)
 by_cases hr2:r=2
 ·subst hr2;go_wp2_with (go_at_call 14;refine(XK.X4 _ g a len cap w4 (Sr.here BF.out)).mono ?_;rintro e w6 ⟨X1,X2,X3,n1,n2,n3,Y1,Y2,Y3,rfl,hp,hs⟩;have Ab:=hid (BF.out.tr hs);have Bd:=hid (PA.mono hp BF.out.2.2.size);obtain⟨⟨e0,e1,e2⟩,f0,f1,f2⟩:=AV (HX.out.k Ab.out).1;have hgr:=(HX.out.k Ab.out).2;clear hp hs);obtain⟨⟨z0,z1,z2⟩,-⟩:=AV (BZ (x:=.slice X1 n1 Y1) (y:=.slice X2 n2 Y2) (z:=.slice X3 n3 Y3) (HX.out.k Ab.out).1);exact Aj (v:=.agg #[.slice X1 n1 Y1,.slice X2 n2 Y2,.slice X3 n3 Y3]) (by simp[results,Tryz.results13,go_sem,z0,z1,z2]) rfl (Bx.RV HX.out Ab.out Bd.out)
 ·have h0:((r:Int)==0)=false:=LZ.2 (by omega);have h1:((r:Int)==1)=false:=LZ.2 (by omega);have h2:((r:Int)==2)=false:=LZ.2 (by omega);clear hr hr0 hr1 hr2;go_wp2_with (go_at_call 14;refine(XK.X4 _ g a len cap w4 (Sr.here BF.out)).mono ?_;rintro e w6 ⟨X1,X2,X3,n1,n2,n3,Y1,Y2,Y3,rfl,hp,hs⟩;have Ab:=hid (BF.out.tr hs);have Bd:=hid (PA.mono hp BF.out.2.2.size);obtain⟨⟨e0,e1,e2⟩,f0,f1,f2⟩:=AV (HX.out.k Ab.out).1;have hgr:=(HX.out.k Ab.out).2;clear hp hs);obtain⟨⟨z0,z1,z2⟩,-⟩:=AV (BZ (x:=.slice X1 n1 Y1) (y:=.slice X2 n2 Y2) (z:=.slice X3 n3 Y3) (HX.out.k Ab.out).1);exact Aj (v:=.agg #[.slice X1 n1 Y1,.slice X2 n2 Y2,.slice X3 n3 Y3]) (by simp[results,Tryz.results13,go_sem,z0,z1,z2]) rfl (Bx.RV HX.out Ab.out Bd.out)
end Go.Proofs.YtaadbccidfdniaaGreat.FcD
namespace Go.Proofs.YtaadbccidfdniaaGreat.FcG
open Go.RowKit Go.Proofs.YtaadbccidfdniaaGreat AB Dp Cn Dm Df Cc Gl O9 O7 QW PE Um XI aK FcD
theorem kg {w w':World}{g:Nat}(h:w.grownBy w' (some g)):AA (fun k=>k≠g) w w':=AA.grown h fun k hk e=>hk (by injection e)
theorem Uo.grown {B gx g:Nat}{w w':World}{x y z:Value}(h:Uo B w gx x y z)(hg:w.grownBy w' (some g))(hb:g<B):Uo B w' gx x y z:=
 ⟨(hg.block gx (Ba.1 h.1).1 (fun e=>by injection e with e;have:=h.2.1;omega)).trans h.1,h.2.1,PA.ty h.2.2 (Ee.keep (S:=fun k=>k≠g) (kg hg) fun k hk e=>by omega)⟩
theorem AM3 {W:World}{g h:Nat}{t:TypeId}{a b c a' b' c' x y z x' y' z':Value}(hg:W.heap[g]?=some (.cells #[a,b,c] t (0,0)))(hh:W.heap[h]?=some (.cells #[a',b',c'] t (0,0)))(hne:¬g=h):
  ((((((W.setCell ⟨g,0,none⟩ x).setCell ⟨g,1,none⟩ y).setCell ⟨g,2,none⟩ z).setCell ⟨h,0,none⟩ x').setCell ⟨h,1,none⟩ y').setCell ⟨h,2,none⟩ z').heap[g]?=some (.cells #[x,y,z] t (0,0))∧
  ((((((W.setCell ⟨g,0,none⟩ x).setCell ⟨g,1,none⟩ y).setCell ⟨g,2,none⟩ z).setCell ⟨h,0,none⟩ x').setCell ⟨h,1,none⟩ y').setCell ⟨h,2,none⟩ z').heap[h]?=some (.cells #[x',y',z'] t (0,0)):=by
 have hne':¬h=g:=fun e=>hne e.symm;refine⟨?_,Cc.BZ (a:=a') (b:=b') (c:=c') ?_⟩
 ·rw[GR _ ⟨h,2,none⟩ _ _ (by exact hne),GR _ ⟨h,1,none⟩ _ _ (by exact hne),GR _ ⟨h,0,none⟩ _ _ (by exact hne)];exact Cc.BZ hg
 ·rw[GR _ ⟨g,2,none⟩ _ _ (by exact hne'),GR _ ⟨g,1,none⟩ _ _ (by exact hne'),GR _ ⟨g,0,none⟩ _ _ (by exact hne')];exact hh
def uQ (w:World)(e:Ending)(w':World):Prop:=∃(x1 x2 x3 u1 u2 u3:Option Addr) (n1 n2 n3 y1 y2 y3 m1 m2 m3 v1 v2 v3:Nat),e= .returned (.tuple #[.agg #[.slice x1 n1 y1,.slice x2 n2 y2,.slice x3 n3 y3],.agg #[.slice u1 m1 v1,.slice u2 m2 v2,.slice u3 m3 v3]])∧PA w.heap.size w' (.slice x1 n1 y1) (.slice x2 n2 y2) (.slice x3 n3 y3)∧PA w.heap.size w' (.slice u1 m1 v1) (.slice u2 m2 v2) (.slice u3 m3 v3)∧Below w.heap.size w w'
theorem AJ3 (w:World)(a:Option Addr)(len cap:Nat)(hl:len≤4096)(hR:UT w a len):Calls Tryz.prog 5 #[.slice a len cap] w (uQ w):=by
 obtain⟨g0,hg0⟩:∃g0,w.heap.size=g0:=⟨_,rfl⟩;obtain⟨w1,hw1⟩:∃w1,w1=(w.alloc CG).alloc CG:=⟨_,rfl⟩;have hk1:AA Any w w1:=by rw[hw1];exact(AJ.alloc _).alloc _
 have hs1:w1.heap.size=g0+2:=by rw[hw1,←hg0];simp
 have HB1:=hid (show Below w.heap.size w w1 by rw[hw1];exact(AX.alloc AR _).alloc (by simp) _);have hz:w1.heap[g0]?=some CG∧w1.heap[g0+1]?=some CG:=by
  rw[hw1,←hg0];exact⟨(KD _ _ (by simp)).trans (BA w _),Cc.new2 w _ _⟩
 have HC:=hid (Xy w1 a len cap hl (fun i hi=>by
  obtain⟨b,o,z,h1,h3,h4,h5⟩:=hR i hi;exact⟨b,o,z,h1,Ai h3 hk1.size,by rw[hk1.cell trivial h3];exact h4,h5⟩))
 have HR:=hid (show UT w1 a len from fun i hi=>by
  obtain⟨b,o,z,h1,h3,h4,h5⟩:=hR i hi;exact⟨b,o,z,h1,Ai h3 hk1.size,by rw[hk1.cell trivial h3];exact h4,h5⟩)
 have HZ:=hid hz;have BI:=hid hs1;have Jj:=hid hg0;clear hl hR hk1 hz hs1;go_enter Tryz.func5,Tryz.ntmps5;go_upto_region 1 with fail;rw[←hw1];clear hw1 hg0;go_upto_region 3 with(first|(go_at_call 12;refine HC.out.mono ?_;rintro e w2 ⟨g,rfl,hg,hS,hb⟩;have HS2:=hid (show Sr g a len cap w2 w2 from⟨hS,HR.out.rd hb hg,VW _ _⟩);have HB2:=hid hb;have KL:=hid hg;clear hg hS hb)|(go_at_call 13;refine(AJ2 g a len cap w2 HS2.out).mono ?_;rintro e w3 ⟨x1,x2,x3,n1,n2,n3,y1,y2,y3,rfl,hp,hs⟩));obtain⟨gp,DW⟩:∃gp,w3.heap.size=gp:=⟨_,rfl⟩;obtain⟨w4,hw4⟩:∃w4,w4=w3.alloc (.cells #[.slice x1 n1 y1,.slice x2 n2 y2,.slice x3 n3 y3] 28):=⟨_,rfl⟩;rw[←hw4,DW];have BF:=hid (show Sr g a len cap w2 w4 by rw[hw4];exact hs.alloc _);have BP:=hid (show Uo w2.heap.size w4 gp (.slice x1 n1 y1) (.slice x2 n2 y2) (.slice x3 n3 y3) by
  rw[hw4,←DW];exact⟨BA _ _,hs.2.2.size,PA.ty hp (Ee.keep (S:=Any) ((AA.refl _ w3).alloc _) fun _ _=>trivial)⟩)
 have AEg:=hid (Sr.here BF.out);have DY:=hid (fun(W:World) (hS:Sr g a len cap w4 W)=>Uo.grown BP.out hS.2.2 HS2.out.lt);have A9:=hid (fun(W:World) (hS:Sr g a len cap w4 W)=>show Below w1.heap.size w1 W from HB2.out.grown (TS BF.out.2.2 hS.2.2) HB2.out.size (by intro k hk;cases hk;exact KL.out));have HK:=hid (fun(W:World) (hS:Sr g a len cap w4 W)=>And.intro (((A9.out W hS).block g0 (by have:=BI.out;omega)).trans HZ.out.1) (And.intro (((A9.out W hS).block (g0+1) (by have:=BI.out;omega)).trans HZ.out.2) (show g0+1<W.heap.size by have:=(A9.out W hS).size;have:=BI.out;omega)));have hwz:w.heap.size≤w1.heap.size:=HB1.out.size;have uR:w.heap.size≤w2.heap.size:=Ad hwz HB2.out.size;have HF:=hid (fun(W:World) (hS:Sr g a len cap w4 W) (u1 u2 u3:Option Addr) (m1 m2 m3 v1 v2 v3:Nat) (hq:PA w2.heap.size W (.slice u1 m1 v1) (.slice u2 m2 v2) (.slice u3 m3 v3))=>
  show uQ w (.returned (.tuple #[.agg #[.slice x1 n1 y1,.slice x2 n2 y2,.slice x3 n3 y3],.agg #[.slice u1 m1 v1,.slice u2 m2 v2,.slice u3 m3 v3]])) ((((((W.setCell ⟨g0,0,none⟩ (.slice x1 n1 y1)).setCell ⟨g0,1,none⟩ (.slice x2 n2 y2)).setCell ⟨g0,2,none⟩ (.slice x3 n3 y3)).setCell ⟨g0+1,0,none⟩ (.slice u1 m1 v1)).setCell ⟨g0+1,1,none⟩ (.slice u2 m2 v2)).setCell ⟨g0+1,2,none⟩ (.slice u3 m3 v3)) from by
  obtain⟨hz0,hz1,-⟩:=HK.out W hS;have hp:=(DY.out W hS).2.2;have t1:=Ee.Kn (B:=w.heap.size) (x:=.slice x1 n1 y1) (y:=.slice x2 n2 y2) (z:=.slice x3 n3 y3) hz0;have e1:(((W.setCell ⟨g0,0,none⟩ (.slice x1 n1 y1)).setCell ⟨g0,1,none⟩ (.slice x2 n2 y2)).setCell ⟨g0,2,none⟩ (.slice x3 n3 y3)).heap[g0+1]?=some CG:=by
   rw[GR _ ⟨g0,2,none⟩ _ _ (by simp),GR _ ⟨g0,1,none⟩ _ _ (by simp),GR _ ⟨g0,0,none⟩ _ _ (by simp)];exact hz1
  have t2:=Ee.Kn (B:=w.heap.size) (x:=.slice u1 m1 v1) (y:=.slice u2 m2 v2) (z:=.slice u3 m3 v3) e1;have hB:Below w.heap.size w W:=HB1.out.trans ((A9.out W hS).mono hwz);have h0:=Jj.out;refine⟨_,_,_,_,_,_,_,_,_,_,_,_,_,_,_,_,_,_,rfl,PA.ty (PA.ty (PA.mono hp uR) t1) t2,PA.ty (PA.ty (PA.mono hq uR) t1) t2,?_⟩;exact(((((hB.setCell (p:=⟨g0,0,none⟩) (by exact Nat.le_of_eq h0) _).setCell (p:=⟨g0,1,none⟩) (by exact Nat.le_of_eq h0) _).setCell (p:=⟨g0,2,none⟩) (by exact Nat.le_of_eq h0) _).setCell (p:=⟨g0+1,0,none⟩) (by show w.heap.size≤g0+1;omega) _).setCell (p:=⟨g0+1,1,none⟩) (by show w.heap.size≤g0+1;omega) _).setCell (p:=⟨g0+1,2,none⟩) (by show w.heap.size≤g0+1;omega) _)
 obtain⟨⟨d0,d1,d2⟩,-⟩:=AV BP.out.1;have hgl:=PX.lt' BP.out;have hb1:¬(g0:Nat)=g0+1:=by omega
 have hb2:¬(g0+1:Nat)=g0:=by omega
 have hgg:g0+2≤gp:=by have h1:=BI.out;have h2:=BP.out.2.1;have h3:=HB2.out.size;omega
 have SB:=hid (show¬gp=g0∧¬gp=g0+1 from⟨by omega,by omega⟩);clear hp hs DW hw4 hwz uR hgg HC HR;go_region_law (first|(go_simp;go_at_call 15;refine(AEd [4,6,8,12] 4 rfl (by decide) (by decide) g a len cap w4 w4 _ AEg.out (by first|exact .inl rfl|exact .inr (.inl rfl)|exact .inr (.inr rfl))).mono ?_;rintro e w6 ⟨x,hx,rfl,NG,CX⟩;have Ab:=hid (AEg.out.next NG CX);obtain⟨⟨d0,d1,d2⟩,-⟩:=AV (DY.out _ Ab.out).1;have Nt:=PX.lt' (DY.out _ Ab.out);clear hx NG CX)|(go_simp;go_at_call 14;refine(XK.X4 x g a len cap _ (by first|exact Sr.here Ab.out|exact Sr.here Ab.out.drew)).mono ?_;rintro e w8 ⟨u1,u2,u3,m1,m2,m3,v1,v2,v3,rfl,hq,hs⟩;have DZ:=hid (show Sr g a len cap w4 w8 from by first|exact Ab.out.tr hs|exact Ab.out.drew.tr hs);have HQ8:=hid (show PA w2.heap.size w8 (.slice u1 m1 v1) (.slice u2 m2 v2) (.slice u3 m3 v3) from PA.mono hq (by first|exact(BF.out.tr Ab.out).2.2.size|exact(BF.out.tr Ab.out).drew.2.2.size));obtain⟨⟨d0,d1,d2⟩,-⟩:=AV (DY.out _ DZ.out).1;have jX:=PX.lt' (DY.out _ DZ.out);obtain⟨⟨e0,e1,e2⟩,f0,f1,f2⟩:=AV (HK.out _ DZ.out).1;obtain⟨⟨e3,e4,e5⟩,f3,f4,f5⟩:=AV (HK.out _ DZ.out).2.1;have hg1:=(HK.out _ DZ.out).2.2;clear hq hs)|fail);all_goals
  go_wp2_with fail;have hpf:=HF.out _ DZ.out _ _ _ _ _ _ _ _ _ HQ8.out;obtain⟨z,z'⟩:=AM3 (x:=.slice x1 n1 y1) (y:=.slice x2 n2 y2) (z:=.slice x3 n3 y3) (x':=.slice u1 m1 v1) (y':=.slice u2 m2 v2) (z':=.slice u3 m3 v3) (HK.out _ DZ.out).1 (HK.out _ DZ.out).2.1 hb1;obtain⟨W6,SC⟩:∃W6,W6=((((((w8.setCell ⟨g0,0,none⟩ (.slice x1 n1 y1)).setCell ⟨g0,1,none⟩ (.slice x2 n2 y2)).setCell ⟨g0,2,none⟩ (.slice x3 n3 y3)).setCell ⟨g0+1,0,none⟩ (.slice u1 m1 v1)).setCell ⟨g0+1,1,none⟩ (.slice u2 m2 v2)).setCell ⟨g0+1,2,none⟩ (.slice u3 m3 v3)):=⟨_,rfl⟩;rw[←SC]at hpf z z';rw[←SC];clear SC e0 e1 e2 e3 e4 e5 f0 f1 f2 f3 f4 f5;obtain⟨⟨z0,z1,z2⟩,-⟩:=AV z;obtain⟨⟨z3,z4,z5⟩,-⟩:=AV z';exact Aj (v:=.tuple #[.agg #[.slice x1 n1 y1,.slice x2 n2 y2,.slice x3 n3 y3],.agg #[.slice u1 m1 v1,.slice u2 m2 v2,.slice u3 m3 v3]]) (by simp[results,Tryz.results5,go_sem,z0,z1,z2,z3,z4,z5]) rfl (by first|exact hpf|exact uQ.dr hpf)
end Go.Proofs.YtaadbccidfdniaaGreat.FcG
namespace Go.Proofs.YtaadbccidfdniaaGreat.yK
open Go.RowKit Go.Proofs.YtaadbccidfdniaaGreat AB Dp Df Cc PE OA
theorem ACJ {α:Type}{n:Nat}{R:Nat→α→Prop}(h:∀i:Fin n,∃x,R i.1 x):∃xs:List α,xs.length=n∧∀(i:Nat) x,xs[i]?=some x→R i x:=
 ⟨(List.finRange n).map fun i=>Classical.choose (h i),by simp,fun i x hx=>by
  obtain⟨hi,rfl⟩:=fin_at _ hx;exact P5 (h ⟨i,hi⟩)⟩
theorem A1.sl {B:Nat}{w:World}{v:Value}(h:A1 B w v):∃l:List Int,AL (fun k=>B≤k) w v l:=by
 obtain⟨n,_,h⟩:=h;obtain⟨l,_,h⟩:=h.sl;exact⟨l,h⟩
theorem A2.sl {B k:Nat}{w:World}{v:Value}(h:A2 B w k v):∃l:List (List Int),AP (fun k=>B≤k) w v l:=by
 obtain⟨us,h1,h2,h3⟩:=h;obtain⟨xs,hl,hx⟩:=ACJ (R:=fun i x=>∃u,us[i]?=some u∧AL (fun k=>B≤k) w u x) fun i:Fin k=>by
  have hi:i.1<us.length:=by rw[h1];exact i.2
  obtain⟨l,h4⟩:=A1.sl (h3 i.1 _ (AO hi));exact⟨l,_,AO hi,h4⟩
 exact⟨xs,gG h2 xs hl hx⟩
theorem A3.sl {B:Nat}{K:List Nat}{w:World}{v:Value}(h:A3 B w K v):∃l:List (List (List Int)),GA (fun k=>B≤k) w v l:=by
 obtain⟨us,h1,h2,h3⟩:=h;obtain⟨xs,hl,hx⟩:=ACJ (R:=fun i x=>∃u,us[i]?=some u∧AP (fun k=>B≤k) w u x) fun i:Fin K.length=>by
  have hi:i.1<us.length:=by rw[h1];exact i.2
  obtain⟨l,h4⟩:=A2.sl (h3 i.1 _ _ (AO hi) (AO i.2));exact⟨l,_,AO hi,h4⟩
 exact⟨xs,gG h2 xs hl hx⟩
theorem ACt {B:Nat}{w:World}{vO vP vC:Value}(h:PA B w vO vP vC):∃P:Bu,BC (fun k=>B≤k) w vO vP vC P:=by
 obtain⟨h1,⟨k,h2⟩,⟨K,h3⟩⟩:=h;obtain⟨a,h1⟩:=A1.sl h1;obtain⟨b,h2⟩:=A2.sl h2;obtain⟨c,h3⟩:=A3.sl h3;exact⟨⟨a,b,c⟩,h1,h2,h3⟩
end Go.Proofs.YtaadbccidfdniaaGreat.yK
