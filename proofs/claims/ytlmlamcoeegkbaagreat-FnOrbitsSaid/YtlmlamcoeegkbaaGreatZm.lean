import Derived.Test.YtlmlamcoeegkbaaGreatZ0
import Derived.Test.YtlmlamcoeegkbaaGreatZl
/-
  Lemmas for the law FnOrbits, in short spelling.
-/
open Go.Lib (hid)
set_option linter.unusedVariables false
set_option linter.unusedSimpArgs false
set_option maxRecDepth 100000
set_option maxHeartbeats 40000000
namespace Go.Proofs.YtlmlamcoeegkbaaGreat.DwZ
open Go.RowKit Go.Proofs.YtlmlamcoeegkbaaGreat Tow Val CyA CyB CyC DwT DwB DwD DwK DwS DwU DwW DwY DwX
open Go.Proofs.YtlmlamcoeegkbaaGreat.DwR (Ty.box Ty.box3)
theorem kc {w w':World}{g b:Nat}(h:w.grownBy w' (some g))(hb:g<b)(hl:b<w.heap.size)(o:Nat):w'.cell? ⟨b,o,none⟩=w.cell? ⟨b,o,none⟩:=(keep2 (gp:=g) h).cell (by omega) hl
theorem kh {w w':World}{g b:Nat}(h:w.grownBy w' (some g))(hb:g<b)(hl:b<w.heap.size):w'.heap[b]?=w.heap[b]?:=h.block b hl fun e=>by injection e with e;omega
theorem PX.set1 {B n b i g:Nat}{w:World}{vO vP vC:Value}{cur:Array Value}(h:PX B n w g vO vP vC)(hb:w.heap[b]?=some (.cells cur 2 (0,0)))(x:Int):PX B n (w.setCell ⟨b,i,none⟩ (.int .i64 x)) g vO vP vC:=
 ⟨by
  rw[zq53 w ⟨b,i,none⟩ g _ ?_]
  ·exact h.1
  ·intro e;have e:g=b:=e;subst e;rw[h.1]at hb;simp at hb,h.2.1,h.2.2.ty (Ty.set1 hb x)⟩
theorem row_w {B n j c:Nat}{w:World}{a:Option Addr}(h:R1 B w n (.slice a n c))(hj:j<n):∃b cur x,a=some ⟨b,0,none⟩∧w.heap[b]?=some (.cells cur 2 (0,0))∧cur[j]?=some (.int .i64 x)∧B≤b∧b<w.heap.size:=by
 obtain⟨b,cur,x,rfl,h1,h2,h3,h4,h5⟩:=DwP.r1at h hj;rw[zq15 w b j cur _ (0,0) h3]at h1;exact⟨b,cur,x,rfl,h3,h1,h4,h5⟩
theorem row_c {w:World}{b j:Nat}{cur:Array Value}{t:TypeId}{u:Value}(h:w.heap[b]?=some (.cells cur t (0,0)))(hu:cur[j]?=some u):w.cell? ⟨b,j,none⟩=some u∧w.frozen? ⟨b,j,none⟩=false∧b<w.heap.size:=
 ⟨(zq15 w b j cur _ (0,0) h).trans hu,zq25 w b j cur _ h,(zq10.1 h).1⟩
theorem FaS.al {b g len cap:Nat}{a:Option Addr}{w w':World}{e:Ending}{o:Obj}(hw:Sr g a len cap w w)(h:FaS b g a len cap (w.alloc o) e w'):FaS b g a len cap w e w':=by
 obtain⟨N,x1,x2,x3,y1,y2,y3,hN,rfl,hp,hs⟩:=h;exact⟨N,_,_,_,_,_,_,hN,rfl,hp.mono (by simp),(hw.alloc o).tr hs⟩
theorem turn_any (N:Nat)(hN:N≤24)(a1 a2 a3:Option Addr)(c1 c2 c3:Nat)(g:Nat)(a:Option Addr)(len cap:Nat)(w:World)(h:Sr g a len cap w w)(hA:PT 0 w N (.slice a1 N c1) (.slice a2 N c2) (.slice a3 N c3)):
  Calls Tryz.prog 118 #[.pointer (some ⟨g,0,none⟩),.agg #[.slice a1 N c1,.slice a2 N c2,.slice a3 N c3]] w (FaS 24 g a len cap w):=by
 obtain⟨w0,hw0⟩:∃w0,w0=w.alloc (.cells #[.slice a1 N c1,.slice a2 N c2,.slice a3 N c3] 28):=⟨_,rfl⟩;obtain⟨w1,hw1⟩:∃w1,w1=w0.alloc zbox:=⟨_,rfl⟩;obtain⟨g0,hg0⟩:∃g0,w.heap.size=g0:=⟨_,rfl⟩;have HX:=hid (show Bx g a len cap w0 w1 (g0+1) by
  have:=Bx.new (Sr.here (h.alloc (.cells #[.slice a1 N c1,.slice a2 N c2,.slice a3 N c3] 28)));rw[World.size_alloc,←hw0,←hw1,hg0]at this;exact this)
 have HA1:=hid (show PT 0 w1 N (.slice a1 N c1) (.slice a2 N c2) (.slice a3 N c3) by rw[hw1,hw0];exact(hA.ty (ty_al _ _)).ty (ty_al _ _));have HP:=hid (show w1.heap[g0]?=some (.cells #[.slice a1 N c1,.slice a2 N c2,.slice a3 N c3] 28 (0,0)) by rw[hw1,zq48 _ _ _ (by rw[hw0,←hg0];simp),hw0,←hg0];exact zq17 _ _);have HFA:=hid (fun e w' (hf:FaS 24 g a len cap w0 e w')=>show FaS 24 g a len cap w e w' by rw[hw0]at hf;exact FaS.al h hf);have HG1:=hid (show g<w1.heap.size from HX.out.s.lt);have HN:=hid hN;clear h hA;go_enter Tryz.func118,Tryz.ntmps118;go_upto_region 1 with fail;rw[←hw0,←hw1];clear hw1 hg0 hw0;obtain⟨⟨p0,p1,p2⟩,-⟩:=row3f HP.out;go_upto_region 2 with(go_at_call 164;refine(DwO.ownp_any N (by omega) a1 a2 a3 c1 c2 c3 w1 HA1.out).mono ?_;rintro e w2 ⟨vO,vP,vC,rfl,hpp,hb2⟩;obtain⟨x1,y1,x2,y2,x3,y3,rfl,rfl,rfl⟩:=hpp.form);obtain⟨gq,hgq⟩:∃gq,w2.heap.size=gq:=⟨_,rfl⟩;obtain⟨w3,hw3⟩:∃w3,w3=w2.alloc (.cells #[.slice x1 N y1,.slice x2 N y2,.slice x3 N y3] 28):=⟨_,rfl⟩;rw[←hw3,hgq];have HS3:=hid (show Sr g a len cap w1 w3 by rw[hw3];exact(HX.out.s.below hb2).alloc _);have HP3:=hid (show PX w1.heap.size N w3 gq (.slice x1 N y1) (.slice x2 N y2) (.slice x3 N y3) by rw[hw3,←hgq];exact box_new hpp zqN hb2.size);have hne:¬gq=g0+1:=by have h1:=HX.out.s1;have h2:=HP3.out.2.1;omega
 clear hpp hb2 hgq hw3 p0 p1 p2;have HE:=hid (fun(W:World) (hS:Sr g a len cap w1 W) (hP:PX w1.heap.size N W gq (.slice x1 N y1) (.slice x2 N y2) (.slice x3 N y3))=>HFA.out _ _ (HX.out.fin hS HN.out hP.2.2));obtain⟨⟨d0,d1,d2⟩,-⟩:=row3f HP3.out.1;have hgl:=HP3.out.lt;go_upto_region 4 with(go_at_call 52;refine(nx_any _ g a len cap w1 _ HS3.out).mono ?_;rintro e w4 ⟨i,rfl,hi,hS4⟩;have HS4:=hid (HS3.out.tr hS4);have HP4:=hid (pxgrown HP3.out hS4.2.2 HG1.out);clear hS4);have hi24:i≤24:=by omega
 have q1:IntKind.i64.wrap ((N:Int)-1)=(N:Int)-1:=zq6 _ (by omega);have q2:IntKind.i64.wrap ((N:Int)-1-(i:Int))=(N:Int)-1-(i:Int):=zq6 _ (by omega);have q3:IntKind.i64.wrap ((i:Int)+1)=(i:Int)+1:=zq6 _ (by omega);go_upto_region 5 with(go_at_call 52;refine(nx_any _ g a len cap w1 _ HS4.out).mono ?_;rintro e w5 ⟨k,rfl,hk,hS5⟩;have HS5:=hid (HS4.out.tr hS5);have HP5:=hid (pxgrown HP4.out hS5.2.2 HG1.out);have q4:IntKind.i64.wrap ((i:Int)+1+(k:Int))=(i:Int)+1+(k:Int):=(zq6 _ (by omega));clear hS5);obtain⟨j,hj⟩:∃j,i+1+k=j:=⟨_,rfl⟩;have hji:(i:Int)+1+(k:Int)=(j:Int):=by omega
 rw[hji];have HIJ:=hid (And.intro hi (And.intro hk hj));clear hi hk q4 d0 d1 d2 hgl HS3 HP3 HS4 HP4 hj hji;obtain⟨⟨d0,d1,d2⟩,-⟩:=row3f HP5.out.1;have hgl:=HP5.out.lt;by_cases hjN:N≤j
 ·have hjNi:(N:Int)≤(j:Int):=by omega
  obtain⟨⟨e0,e1,e2⟩,f0,f1,f2⟩:=row3f (HX.out.k HS5.out).1;have hgr:=(HX.out.k HS5.out).2;go_wp2_with fail;obtain⟨⟨z0,z1,z2⟩,-⟩:=row3f (put3 (x:=.slice x1 N y1) (y:=.slice x2 N y2) (z:=.slice x3 N y3) (HX.out.k HS5.out).1);exact zq12 (v:=.agg #[.slice x1 N y1,.slice x2 N y2,.slice x3 N y3]) (by simp[results,Tryz.results118,go_sem,z0,z1,z2]) rfl (HE.out _ HS5.out HP5.out)
 ·have hjNi:¬(N:Int)≤(j:Int):=by omega
  have hiN:i<N:=by have:=HIJ.out.2.2;omega
  go_upto_if 33 with(go_at_call 52;refine(nx_any _ g a len cap w1 _ HS5.out).mono ?_;rintro e w6 ⟨r,rfl,hr,hS6⟩;have HS6:=hid (HS5.out.tr hS6);have HP6:=hid (pxgrown HP5.out hS6.2.2 HG1.out);clear hS6);clear d0 d1 d2 hgl hr HS5 HP5;have hjN':j<N:=by omega
  have hiNi:(i:Int)<(N:Int):=by omega
  have hjNj:(j:Int)<(N:Int):=by omega
  by_cases hr0:r=0
  ·subst hr0;have HP6':=HP6;obtain⟨gp,u0,-, ep,p1,-, -, -, hrow,hBp,pl⟩:=HP6.out.2.2.2.1.at (rep_get hiN);obtain⟨ar,cr,rfl,-⟩:=hrow.len;obtain⟨gr,curr,xr,rfl,hr1,hr2,hBr,rl⟩:=row_w hrow hjN';obtain⟨go,curo,o,eo,ho1,ho2,hBo,-⟩:=row_w HP6.out.2.2.1 hjN';obtain⟨o1,-, ol⟩:=row_c ho1 ho2;obtain⟨⟨d0,d1,d2⟩,-⟩:=row3f HP6.out.1;have hgl:=HP6.out.lt;have HG1':=hid (And.intro (zq7 HG1.out hBp) (zq7 HG1.out hBr));have HRR:=hid (And.intro hr1 hr2);have HBR:=hid hBr;clear ho1 ho2 hr1 hr2 hrow hBp hBr hBo HP6';go_wp2_with fail;go_cut [5] (fun v W=>v= .pointer (some ⟨gq,0,none⟩)∧Hid (PX w1.heap.size N W gq (.slice x1 N y1) (.slice x2 N y2) (.slice x3 N y3))∧Hid (Sr g a len cap w1 W));case first=>
    subst ep;subst eo;go_region_law
     (first|(go_simp;go_at_call 52;refine(nx_any _ g a len cap w1 _ (by first|exact HS6.out|exact Sr.drew HS6.out)).mono ?_;rintro e w8 ⟨r8,rfl,-, hS8⟩;have G8:w6.grownBy w8 (some g):=(by first|exact hS8.2.2|exact gr_drewl hS8.2.2);have HS8:=hid (show Sr g a len cap w1 w8 from Sr.next HS6.out hS8.1 G8);have HP8:=hid (pxgrown HP6.out G8 HG1.out);have p1':=(kc G8 HG1'.out.1 pl i).trans p1;have pl':=zq7 pl G8.size;have hr8:=(kh G8 HG1'.out.2 rl).trans HRR.out.1;obtain⟨k1,k2,rl'⟩:=row_c hr8 HRR.out.2;have HR8:=hid hr8;obtain⟨⟨b0,b1,b2⟩,-⟩:=row3f HP8.out.1;have hgl8:=HP8.out.lt;clear hS8 G8 hr8)|(fail))
    all_goals
     go_wp2_with fail;go_meet;exact⟨rfl,hid (PX.set1 HP8.out HR8.out _),hid (HS8.out.set HX.out.s HBR.out _)⟩
   case rest=>
    obtain⟨rfl,HP9,HS9⟩:=hcut;rename World=>w9;clear p1 pl rl o1 ol d0 d1 d2 hgl ep eo;obtain⟨⟨d0,d1,d2⟩,-⟩:=row3f HP9.out.1;have hgl:=HP9.out.lt;obtain⟨⟨e0,e1,e2⟩,f0,f1,f2⟩:=row3f (HX.out.k HS9.out).1;have hgr:=(HX.out.k HS9.out).2;go_wp2_with fail;obtain⟨⟨z0,z1,z2⟩,-⟩:=row3f (put3 (x:=.slice x1 N y1) (y:=.slice x2 N y2) (z:=.slice x3 N y3) (HX.out.k HS9.out).1);exact zq12 (v:=.agg #[.slice x1 N y1,.slice x2 N y2,.slice x3 N y3]) (by simp[results,Tryz.results118,go_sem,z0,z1,z2]) rfl (HE.out _ HS9.out HP9.out)
  ·have hri:((r:Int)==0)=false:=zq79.2 (by omega);go_upto_region 11 with(go_at_call 52;refine(nx_any _ g a len cap w1 _ HS6.out).mono ?_;rintro e w7 ⟨m,rfl,hm,hS7⟩;have HS7:=hid (HS6.out.tr hS7);have HP7:=hid (pxgrown HP6.out hS7.2.2 HG1.out);have q4:IntKind.i64.wrap ((i:Int)+1+(m:Int))=(i:Int)+1+(m:Int):=(zq6 _ (by omega));clear hS7);have hmN:i+1+m<N:=by have:=HIJ.out;omega
   obtain⟨q,hq⟩:∃q,i+1+m=q:=⟨_,rfl⟩;have hqi:(i:Int)+1+(m:Int)=(q:Int):=by omega
   rw[hqi];have q5:IntKind.i64.wrap ((q:Int)-(i:Int))=(q:Int)-(i:Int):=zq6 _ (by omega);have q6:IntKind.i64.wrap ((q:Int)-(i:Int)-1)=(m:Int):=by rw[zq6 _ (by omega)];omega
   obtain⟨ln,hln⟩:∃ln,N-(i+1)=ln:=⟨_,rfl⟩;have hml:m<ln:=by omega
   have hmli:(m:Int)<(ln:Int):=by omega
   obtain⟨gc,uc,ec,s1,hcr,hBc,sl⟩:=HP7.out.2.2.2.2.at (cshape_get hiN);obtain⟨ac,cc,rfl,-⟩:=hcr.form;rw[zq29]at s1 hcr;rw[hln]at s1 hcr;obtain⟨gp,u0,-, ep,p1,-, -, -, hrow,hBp,pl⟩:=hcr.at (rep_get hml);obtain⟨ar,cr,rfl,-⟩:=hrow.len;obtain⟨gr,curr,xr,rfl,hr1,hr2,hBr,rl⟩:=row_w hrow hjN';obtain⟨go,curo,o,eo,ho1,ho2,hBo,-⟩:=row_w HP7.out.2.2.1 hjN';subst ep;obtain⟨o1,-, ol⟩:=row_c ho1 ho2;obtain⟨⟨d0,d1,d2⟩,-⟩:=row3f HP7.out.1;have hgl:=HP7.out.lt;have HG1':=hid (And.intro (zq7 HG1.out hBp) (And.intro (zq7 HG1.out hBr) (zq7 HG1.out hBc)));have HRR:=hid (And.intro hr1 hr2);have HBR:=hid hBr;clear ho1 ho2 hr1 hr2 hrow hBp hBr hBo hcr hBc hm HS6 HP6 q4 hq hqi hln;go_upto_region 11 with fail;go_cut [5] (fun v W=>v= .pointer (some ⟨gq,0,none⟩)∧Hid (PX w1.heap.size N W gq (.slice x1 N y1) (.slice x2 N y2) (.slice x3 N y3))∧Hid (Sr g a len cap w1 W));case first=>
    subst ec;subst eo;go_region_law
     (first|(go_simp;go_at_call 52;refine(nx_any _ g a len cap w1 _ (by first|exact HS7.out|exact Sr.drew HS7.out)).mono ?_;rintro e w8 ⟨r8,rfl,-, hS8⟩;have G8:w7.grownBy w8 (some g):=(by first|exact hS8.2.2|exact gr_drewl hS8.2.2);have HS8:=hid (show Sr g a len cap w1 w8 from Sr.next HS7.out hS8.1 G8);have HP8:=hid (pxgrown HP7.out G8 HG1.out);have s1':=(kc G8 HG1'.out.2.2 sl i).trans s1;have sl':=zq7 sl G8.size;have p1':=(kc G8 HG1'.out.1 pl m).trans p1;have pl':=zq7 pl G8.size;have hr8:=(kh G8 HG1'.out.2.1 rl).trans HRR.out.1;obtain⟨k1,k2,rl'⟩:=row_c hr8 HRR.out.2;have HR8:=hid hr8;obtain⟨⟨b0,b1,b2⟩,-⟩:=row3f HP8.out.1;have hgl8:=HP8.out.lt;clear hS8 G8 hr8)|(fail))
    all_goals
     go_wp2_with fail;go_meet;exact⟨rfl,hid (PX.set1 HP8.out HR8.out _),hid (HS8.out.set HX.out.s HBR.out _)⟩
   case rest=>
    obtain⟨rfl,HP9,HS9⟩:=hcut;rename World=>w9;clear s1 sl p1 pl rl o1 ol d0 d1 d2 hgl ec eo q5 q6;obtain⟨⟨d0,d1,d2⟩,-⟩:=row3f HP9.out.1;have hgl:=HP9.out.lt;obtain⟨⟨e0,e1,e2⟩,f0,f1,f2⟩:=row3f (HX.out.k HS9.out).1;have hgr:=(HX.out.k HS9.out).2;go_wp2_with fail;obtain⟨⟨z0,z1,z2⟩,-⟩:=row3f (put3 (x:=.slice x1 N y1) (y:=.slice x2 N y2) (z:=.slice x3 N y3) (HX.out.k HS9.out).1);exact zq12 (v:=.agg #[.slice x1 N y1,.slice x2 N y2,.slice x3 N y3]) (by simp[results,Tryz.results118,go_sem,z0,z1,z2]) rfl (HE.out _ HS9.out HP9.out)
end Go.Proofs.YtlmlamcoeegkbaaGreat.DwZ
namespace Go.Proofs.YtlmlamcoeegkbaaGreat.DxA
open Go.RowKit Go.Proofs.YtlmlamcoeegkbaaGreat Tow Val CyA CyB CyC DwT DwB DwD DwH DwK DwS DwU DwW DwX DwZ
def PaS (g:Nat)(a:Option Addr)(len cap:Nat)(w:World)(e:Ending)(w':World):Prop:=∃(x1 x2 x3:Option Addr) (n1 n2 n3 y1 y2 y3:Nat),e= .returned (.agg #[.slice x1 n1 y1,.slice x2 n2 y2,.slice x3 n3 y3])∧PA w.heap.size w' (.slice x1 n1 y1) (.slice x2 n2 y2) (.slice x3 n3 y3)∧Sr g a len cap w w'
theorem PaS.of {b g len cap:Nat}{a:Option Addr}{w w':World}{e:Ending}(hb:b≤100)(h:DwY.FaS b g a len cap w e w'):PaS g a len cap w e w':=by
 obtain⟨N,x1,x2,x3,y1,y2,y3,hN,rfl,hp,hs⟩:=h;exact⟨_,_,_,_,_,_,_,_,_,rfl,PA.of (zq11 hN hb) hp,hs⟩
theorem PaS.al {g len cap:Nat}{a:Option Addr}{w w':World}{e:Ending}{o:Obj}(hw:Sr g a len cap w w)(h:PaS g a len cap (w.alloc o) e w'):PaS g a len cap w e w':=by
 obtain⟨x1,x2,x3,n1,n2,n3,y1,y2,y3,rfl,hp,hs⟩:=h;exact⟨_,_,_,_,_,_,_,_,_,rfl,PA.mono hp (by simp),(hw.alloc o).tr hs⟩
def PXA (B:Nat)(w:World)(g:Nat)(x y z:Value):Prop:=w.heap[g]?=some (.cells #[x,y,z] 28 (0,0))∧B≤g∧PA B w x y z
abbrev PXE (B:Nat)(w:World)(g:Nat):Prop:=∃X1 n1 Y1 X2 n2 Y2 X3 n3 Y3,PXA B w g (.slice X1 n1 Y1) (.slice X2 n2 Y2) (.slice X3 n3 Y3)
theorem PXE.of {B n g y1 y2 y3:Nat}{x1 x2 x3:Option Addr}{w:World}(hn:n≤100)(h:PX B n w g (.slice x1 n y1) (.slice x2 n y2) (.slice x3 n y3)):PXE B w g:=⟨_,_,_,_,_,_,_,_,_,h.1,h.2.1,PA.of hn h.2.2⟩
theorem PX.lt' {B:Nat}{w:World}{g:Nat}{x y z:Value}(h:PXA B w g x y z):g<w.heap.size:=(zq10.1 h.1).1
theorem box_st {w:World}{g b i:Nat}{x y z u:Value}(h:w.heap[g]?=some (.cells #[x,y,z] 28 (0,0)))(hne:g≠b):(w.setCell ⟨b,i,none⟩ u).heap[g]?=some (.cells #[x,y,z] 28 (0,0)):=
 (zq53 w ⟨b,i,none⟩ g u hne).trans h
theorem TyA.box3 {B g:Nat}{w:World}{a b c x y z:Value}(h:w.heap[g]?=some (.cells #[a,b,c] 28 (0,0))):TyA B w (((w.setCell ⟨g,0,none⟩ x).setCell ⟨g,1,none⟩ y).setCell ⟨g,2,none⟩ z):=by
 have e1:(w.setCell ⟨g,0,none⟩ x).heap[g]?=some (.cells #[x,b,c] 28 (0,0)):=zq60 w g 0 _ _ _ h;have e2:((w.setCell ⟨g,0,none⟩ x).setCell ⟨g,1,none⟩ y).heap[g]?=some (.cells #[x,y,c] 28 (0,0)):=zq60 _ g 1 _ _ _ e1;exact((TyA.other h (by decide) (by decide) (by decide)).trans (TyA.other e1 (by decide) (by decide) (by decide))).trans (TyA.other e2 (by decide) (by decide) (by decide))
theorem px_row {B n g b i y1 y2 y3:Nat}{x1 x2 x3:Option Addr}{w:World}{cur:Array Value}{u:Value}(hn:n≤100)(h:PX B n w g (.slice x1 n y1) (.slice x2 n y2) (.slice x3 n y3))(hb:w.heap[b]?=some (.cells cur 24 (0,0)))(hu:A1 B w u):PXE B (w.setCell ⟨b,i,none⟩ u) g:=
 ⟨_,_,_,_,_,_,_,_,_,box_st h.1 (fun e=>by rw[←e,h.1]at hb;simp at hb),h.2.1,PA.ty (PA.of hn h.2.2) (TyA.set2 hb hu)⟩
theorem px_rows {B n g b i k y1 y2 y3:Nat}{x1 x2 x3:Option Addr}{w:World}{cur:Array Value}{u:Value}(hn:n≤100)(h:PX B n w g (.slice x1 n y1) (.slice x2 n y2) (.slice x3 n y3))(hb:w.heap[b]?=some (.cells cur 25 (0,0)))(hu:A2 B w k u):PXE B (w.setCell ⟨b,i,none⟩ u) g:=by
 obtain⟨K,hK⟩:=(PA.of hn h.2.2).2.2;exact⟨_,_,_,_,_,_,_,_,_,box_st h.1 (fun e=>by rw[←e,h.1]at hb;simp at hb),h.2.1,⟨_,hn,h.2.2.1.other hb (by decide)⟩,⟨_,A2.of (h.2.2.2.1.other hb (by decide) (by decide)) fun m hm=>by rw[(zq82.1 hm).2];exact hn⟩,A3.set3 hb hu hK⟩
theorem px_ord {B n m g c y1 y2 y3:Nat}{x1 x2 x3 o:Option Addr}{w w':World}(hn:n≤100)(hm:m≤100)(h:PX B n w g (.slice x1 n y1) (.slice x2 n y2) (.slice x3 n y3))(hb:w'.heap[g]?=w.heap[g]?)(ht:Ty B w w')(hu:R1 B w' m (.slice o m c)):PXE B (w'.setCell ⟨g,0,none⟩ (.slice o m c)) g:=by
 have hg:=hb.trans h.1;have t:=TyA.other (B:=B) (i:=0) (c:=.slice o m c) hg (by decide) (by decide) (by decide);have hA:=PA.of hn (h.2.2.ty ht);exact⟨_,_,_,_,_,_,_,_,_,zq60 w' g 0 _ _ _ hg,h.2.1,t.one _ ⟨_,hm,hu⟩,hA.2.1.imp fun k h=>t.two k _ h,hA.2.2.imp fun k h=>t.three k _ h⟩
theorem Bx.finA {g len cap g0 n1 n2 n3 y1 y2 y3:Nat}{a x1 x2 x3:Option Addr}{w w1 W:World}(h:Bx g a len cap w w1 g0)(hS:Sr g a len cap w1 W)(hP:PA w1.heap.size W (.slice x1 n1 y1) (.slice x2 n2 y2) (.slice x3 n3 y3)):
  PaS g a len cap w (.returned (.agg #[.slice x1 n1 y1,.slice x2 n2 y2,.slice x3 n3 y3])) (((W.setCell ⟨g0,0,none⟩ (.slice x1 n1 y1)).setCell ⟨g0,1,none⟩ (.slice x2 n2 y2)).setCell ⟨g0,2,none⟩ (.slice x3 n3 y3)):=
 ⟨_,_,_,_,_,_,_,_,_,rfl,PA.mono (PA.ty hP (TyA.box3 (h.k hS).1)) (by rw[h.s1,h.z];omega),h.sr hS _ _ _⟩
theorem lit_old {w w':World}{x:Int}(h:Below (w.alloc (.cells #[.int .i64 x] 2)).heap.size (w.alloc (.cells #[.int .i64 x] 2)) w'):w'.cell? ⟨w.heap.size,0,none⟩=some (.int .i64 x):=by
 rw[(Keep.of_below (S:=Any) h).cell trivial (by simp),zq15 _ _ _ _ _ (0,0) (zq17 _ _)];rfl
theorem lit_new (w:World)(x:Int):(w.alloc (.cells #[.int .i64 x] 2)).cell? ⟨w.heap.size,0,none⟩=some (.int .i64 x):=by
 rw[zq15 _ _ _ _ _ (0,0) (zq17 _ _)];rfl
theorem pk_v (L:List Int)(m:Nat)(hm:L.length=m)(hm2:2≤m)(hm8:m≤12)(g:Nat)(a:Option Addr)(len cap:Nat)(w W V:World)(h:Sr g a len cap w W)(hV:V=W.alloc (DwY.o1 L)∨V=(W.alloc (DwY.o1 L)).drew∨V=W.drew.alloc (DwY.o1 L)):
  Calls Tryz.prog 74 #[.pointer (some ⟨g,0,none⟩),.slice (some ⟨W.heap.size,0,none⟩) m m] V fun e W'=>∃x:Int,x∈L∧e= .returned (.int .i64 x)∧CyB.Src W' g a len cap∧W.grownBy W' (some g):=by
 subst hm;have key:∀V:World,Keep (fun k=>k≠g) (W.alloc (DwY.o1 L)) V→Sr g a len cap w V→W.grownBy V (some g)→Calls Tryz.prog 74 #[.pointer (some ⟨g,0,none⟩),.slice (some ⟨W.heap.size,0,none⟩) L.length L.length] V fun e W'=>∃x:Int,x∈L∧e= .returned (.int .i64 x)∧CyB.Src W' g a len cap∧W.grownBy W' (some g):=fun V hk hS hg=>by
  refine(pick_any L _ rfl hm2 hm8 V W.heap.size g a len cap ((lit_sl h.lt (by omega)).keep hk) hS.1 hS.2.1).mono ?_;rintro e W' ⟨x,hx,rfl,hS',hg'⟩;exact⟨x,hx,rfl,hS',gr_tr hg hg'⟩
 rcases hV with rfl|rfl|rfl
 ·exact key _ zqK (h.alloc _) (CyC.gr_alloc _ _ _)
 ·exact key _ zqK.drew (h.alloc _).drew (gr_drew (CyC.gr_alloc _ _ _))
 ·exact key _ zqK.drew (h.drew.alloc _) (gr_drew (CyC.gr_alloc _ _ _))
theorem step_app1 {ops:Array Oper}{o:Oper}{a:Act}{w:World}{K:Act→World→Prop}{Q:Exit→Act→World→Prop}{E:Prop}(hgd:o.guard=none)(s x:Operand)
  (ho:o.op= .call { callee:=.builtin .append,args:= #[s,x],argTypes:= #[24,24] }) (base n g c:Nat) (v:Value) (xs:List Value) (y:Int) (hs:a.eval s=v) (hown:w.ownsRow base 2 1 v n xs)
  (hx:a.eval x= .slice (some ⟨g,0,none⟩) 1 c) (hy:w.cell? ⟨g,0,none⟩=some (.int .i64 y)) (h63:n+1≤1000000) (hbase:base≤w.heap.size)
  (h:∀v' w',w'.ownsRow base 2 1 v' (n+1) (xs++[.int .i64 y])→w.grownBy w' v.ownBlock→(∀B,Ty B w w')→K (a.put o.dst v') w'):
  if Region.wanted o (yielded ops a.tmps)=true then Oper.wp Tryz.prog o a w K Q else E:=by
 have hw:Region.wanted o (yielded ops a.tmps)=true:=by simp[Region.wanted,hgd]
 rw[zq57 hw];obtain⟨v',w',hr,h2,h3,h4⟩:=app_ty w base o.type n v xs hown g c y hy h63 hbase;unfold Oper.wp execOp;simp only[ho,resolve,invoke,builtin,Sem.run_bind,Sem.run_pure,zq122,zq132,zq81,zq129,hs,hx,hr];exact h v' w' h2 h3 h4
def C6 (w W:World)(n m:Nat)(v:Value):Prop:=Below w.heap.size w W∧∃us:List Value,W.ownsRow w.heap.size 24 1 v n us∧∀(i:Nat) u,us[i]?=some u→R1 w.heap.size W m u
theorem C6.alloc {w W:World}{n m:Nat}{v:Value}(h:C6 w W n m v)(o:Obj):C6 w (W.alloc o) n m v:=by
 obtain⟨hB,us,h1,h2⟩:=h;exact⟨hB.alloc hB.size _,us,ownsRow_keep h1 (S:=Any) ((Keep.refl _ W).alloc _) (fun _ _=>trivial),fun i u hu=>(Ty.keep (S:=Any) ((Keep.refl _ W).alloc _) fun _ _=>trivial).one _ _ (h2 i u hu)⟩
theorem own2_v (w V:World)(n m:Nat)(a:Option Addr)(c:Nat)(hn:n≤100)(hm:m≤100)(hV:Below w.heap.size w V)(hA:R2 0 w (List.replicate n m) (.slice a n c)):
  Calls Tryz.prog 134 #[.slice a n c] V fun e W=>∃a6 c6,e= .returned (.slice a6 n c6)∧C6 w W n m (.slice a6 n c6)∧Keep Any V W:=by
 refine(own2_r n m hn hm a c V ((Ty.below hV).two _ _ hA)).mono ?_;rintro e W ⟨a6,c6,rfl,hr,hb⟩;obtain⟨us,h1,h2⟩:=hr.mono hV.size;rw[zq29]at h1;refine⟨a6,c6,rfl,⟨hV.trans (hb.mono hV.size),us,h1,fun i u hu=>?_⟩,Keep.of_below hb⟩;obtain⟨u',e1,e2⟩:=h2 i m (rep_get (by have:=(zq2.1 hu).1;have:=h1.1;omega));rw[hu]at e1;injection e1 with e1;rw[e1];exact e2
theorem step_app4 {ops:Array Oper}{o:Oper}{a:Act}{w U:World}{K:Act→World→Prop}{Q:Exit→Act→World→Prop}{E:Prop}(hgd:o.guard=none)(s x:Operand)
  (ho:o.op= .call { callee:=.builtin .append,args:= #[s,x],argTypes:= #[25,25] }) (n m gL gR:Nat) (a6:Option Addr) (c6:Nat) (hn:n≤100) (hs:a.eval s= .slice a6 n c6) (hC:C6 w U n m (.slice a6 n c6))
  (hx:a.eval x= .slice (some ⟨gL,0,none⟩) 1 1) (hL:U.heap[gL]?=some (.cells #[rowV m gR] 24 (0,0))) (hR:R1 w.heap.size U m (rowV m gR))
  (h:∀g7 c7 w10,Below w.heap.size w w10→R2 w.heap.size w10 (List.replicate (n+1) m) (.slice (some ⟨g7,0,none⟩) (n+1) c7)→K (a.put o.dst (.slice (some ⟨g7,0,none⟩) (n+1) c7)) w10):
  if Region.wanted o (yielded ops a.tmps)=true then Oper.wp Tryz.prog o a U K Q else E:=by
 obtain⟨hB,us,h1,h2⟩:=hC;obtain⟨i0,hi0,hz0,hz1,hz2⟩:=zq41 infoR;refine zq119 _ hgd _ _ _ ho w.heap.size 24 i0 (.slice none 0 0) 1 24 Tryz.underlying25 hi0 hz0 hz1 hz2 rfl (by omega) (.slice a6 n c6) n us hs h1 ⟨gL,0,none⟩ 1 1 [rowV m gR] hx rfl (zq50 (cs:= #[rowV m gR]) (t:=24) (fr:=(0,0)) hL) (by simp[Value.oneCell']) (by omega) (by unfold maxLen;omega) (by omega) hB.size _ rfl ?_;intro g7 c7 w10 ho10 hg10 _ _;exact h g7 c7 w10 (hB.grown hg10 hB.size fun q e=>(zq8 h1 q e).1) (R2.push h1 h2 hR ho10 hg10)
theorem rowk {w V W:World}{N:Nat}(hN:N≤100)(hk:Keep Any V W)(hl:w.heap.size<V.heap.size)(h:V.heap[w.heap.size]?=(w.alloc (.cells (madeCells #[.int .i64 0] N) 2)).heap[w.heap.size]?):R1 w.heap.size W N (rowV N w.heap.size):=by
 refine⟨List.replicate N 0,by simp,?_⟩;have h1:=Own.made (B:=w.heap.size) w N zqN (by unfold maxLen;omega);unfold Own at h1;rw[zq29]at h1;refine⟨h1.1,?_⟩;rcases h1.2 with h2|⟨g,cap,cur,e,hb,hg,r⟩
 ·exact .inl h2
 ·refine .inr ⟨g,cap,cur,e,hb,?_,r⟩;have e1:=zq38 Value.ownBlock e;simp[Value.ownBlock]at e1;subst e1;rw[hk.block _ trivial hl,h];exact hg
theorem made1 (B:Nat)(w:World)(n:Nat)(hB:B≤w.heap.size)(hn:n≤100):R1 B (w.alloc (.cells (madeCells #[.int .i64 0] n) 2)) n (rowV n w.heap.size):=
 ⟨List.replicate n 0,by simp,by
  have h:=Own.made (B:=B) w n hB (by unfold maxLen;omega);unfold Own at h;rw[zq29]at h;exact h⟩
theorem r1_k {B n:Nat}{w w':World}{v:Value}(h:R1 B w n v)(hk:Keep Any w w'):R1 B w' n v:=(Ty.keep hk fun _ _=>trivial).one _ _ h
theorem own_hd {B n c:Nat}{e:TypeId}{w:World}{a:Option Addr}{us:List Value}(h:w.ownsRow B e 1 (.slice a n c) n us)(hn:0<n):∃b cur,a=some ⟨b,0,none⟩∧w.heap[b]?=some (.cells cur e (0,0))∧B≤b:=by
 rcases id h.2 with⟨h3,h4⟩|⟨g,cap,cur,h3,hB,hg,_⟩
 ·omega
 ·simp only[zq40]at h3;exact⟨g,cur,h3.1,hg,hB⟩
end Go.Proofs.YtlmlamcoeegkbaaGreat.DxA
namespace Go.Proofs.YtlmlamcoeegkbaaGreat.DxF
open Go.RowKit Go.Proofs.YtlmlamcoeegkbaaGreat Tow Val CyA CyB CyC DwT DwB DwD DwH DwK DwS DwU DwW DwX DwZ DxA
theorem bend_any (N:Nat)(hN:N≤24)(a1 a2 a3:Option Addr)(c1 c2 c3:Nat)(g:Nat)(a:Option Addr)(len cap:Nat)(w:World)(h:Sr g a len cap w w)(hA:PT 0 w N (.slice a1 N c1) (.slice a2 N c2) (.slice a3 N c3)):
  Calls Tryz.prog 117 #[.pointer (some ⟨g,0,none⟩),.agg #[.slice a1 N c1,.slice a2 N c2,.slice a3 N c3]] w (PaS g a len cap w):=by
 obtain⟨w0,hw0⟩:∃w0,w0=w.alloc (.cells #[.slice a1 N c1,.slice a2 N c2,.slice a3 N c3] 28):=⟨_,rfl⟩;obtain⟨w1,hw1⟩:∃w1,w1=w0.alloc zbox:=⟨_,rfl⟩;obtain⟨g0,hg0⟩:∃g0,w.heap.size=g0:=⟨_,rfl⟩;have HX:=hid (show Bx g a len cap w0 w1 (g0+1) by
  have:=Bx.new (Sr.here (h.alloc (.cells #[.slice a1 N c1,.slice a2 N c2,.slice a3 N c3] 28)));rw[World.size_alloc,←hw0,←hw1,hg0]at this;exact this)
 have HA1:=hid (show PT 0 w1 N (.slice a1 N c1) (.slice a2 N c2) (.slice a3 N c3) by rw[hw1,hw0];exact(hA.ty (ty_al _ _)).ty (ty_al _ _));have HP:=hid (show w1.heap[g0]?=some (.cells #[.slice a1 N c1,.slice a2 N c2,.slice a3 N c3] 28 (0,0)) by rw[hw1,zq48 _ _ _ (by rw[hw0,←hg0];simp),hw0,←hg0];exact zq17 _ _);have HFA:=hid (fun e w' (hf:PaS g a len cap w0 e w')=>show PaS g a len cap w e w' by rw[hw0]at hf;exact PaS.al h hf);have HG1:=hid (show g<w1.heap.size from HX.out.s.lt);have HN24:=hid (show N≤100 by omega);have HN24b:=hid hN;clear h hA;go_enter Tryz.func117,Tryz.ntmps117;go_upto_region 1 with fail;rw[←hw0,←hw1];clear hw1 hg0 hw0;obtain⟨⟨p0,p1,p2⟩,-⟩:=row3f HP.out;go_upto_region 2 with(go_at_call 164;refine(DwO.ownp_any N (by omega) a1 a2 a3 c1 c2 c3 w1 HA1.out).mono ?_;rintro e w2 ⟨vO,vP,vC,rfl,hpp,hb2⟩;obtain⟨x1,y1,x2,y2,x3,y3,rfl,rfl,rfl⟩:=hpp.form);obtain⟨gq,hgq⟩:∃gq,w2.heap.size=gq:=⟨_,rfl⟩;obtain⟨w3,hw3⟩:∃w3,w3=w2.alloc (.cells #[.slice x1 N y1,.slice x2 N y2,.slice x3 N y3] 28):=⟨_,rfl⟩;rw[←hw3,hgq];have HS3:=hid (show Sr g a len cap w1 w3 by rw[hw3];exact(HX.out.s.below hb2).alloc _);have HP3:=hid (show PX w1.heap.size N w3 gq (.slice x1 N y1) (.slice x2 N y2) (.slice x3 N y3) by rw[hw3,←hgq];exact box_new hpp zqN hb2.size);have HGQ:=hid HP3.out.2.1;have hne:¬gq=g0+1:=by have h1:=HX.out.s1;have h2:=HP3.out.2.1;omega
 clear hpp hb2 hgq hw3 p0 p1 p2;go_upto_block 0 with(go_at_call 52;refine(nx_any _ g a len cap w1 _ HS3.out).mono ?_;rintro e w4 ⟨r,rfl,hr,hS4⟩;have HS4:=hid (HS3.out.tr hS4);have HP4:=hid (pxgrown HP3.out hS4.2.2 HG1.out);clear hS4);clear HS3 HP3;go_cut [5] (fun v W=>v= .pointer (some ⟨gq,0,none⟩)∧Hid (PXE w1.heap.size W gq)∧Hid (Sr g a len cap w1 W));case rest=>
  obtain⟨rfl,HP9,HS9⟩:=hcut;rename World=>w9;clear HP4 HS4 hr;obtain⟨X1,n1,Y1,X2,n2,Y2,X3,n3,Y3,hP9⟩:=HP9.out;have HP:=hid hP9;clear HP9 hP9;obtain⟨⟨d0,d1,d2⟩,-⟩:=row3f HP.out.1;have hgl:=PX.lt' HP.out;obtain⟨⟨e0,e1,e2⟩,f0,f1,f2⟩:=row3f (HX.out.k HS9.out).1;have hgr:=(HX.out.k HS9.out).2;go_wp2_with fail;obtain⟨⟨z0,z1,z2⟩,-⟩:=row3f (put3 (x:=.slice X1 n1 Y1) (y:=.slice X2 n2 Y2) (z:=.slice X3 n3 Y3) (HX.out.k HS9.out).1);exact zq12 (v:=.agg #[.slice X1 n1 Y1,.slice X2 n2 Y2,.slice X3 n3 Y3]) (by simp[results,Tryz.results117,go_sem,z0,z1,z2]) rfl (HFA.out _ _ (Bx.finA HX.out HS9.out HP.out.2.2))
 case first=>
  have hr6:r=0∨r=1∨r=2∨r=3∨r=4∨r=5:=by omega
  obtain⟨⟨d0,d1,d2⟩,s0,s1,s2⟩:=row3f HP4.out.1;have hgl:=HP4.out.lt;clear hr;rcases hr6 with rfl|rfl|rfl|rfl|rfl|rfl
  ·obtain⟨l,hl,ho⟩:=HP4.out.2.2.1;have ho':=ownsRow_keep ho (S:=Any) ((Keep.refl _ w4).alloc (.cells #[.int .i64 2] 2)) fun _ _=>trivial;have hnb:(Value.slice x1 N y1).ownBlock≠some gq:=owns_ne ho HP4.out.1 (by decide);clear ho;go_wp2_with (at_builtin;refine wpList_app1 rfl _ _ rfl w1.heap.size N w4.heap.size 1 (.slice x1 N y1) (vals l) 2 rfl ho' rfl (lit_new _ _) (by omega) (zq11 HS4.out.2.2.size (by simp)) ?_;intro v' w5 ho5 hg5 ht5;obtain⟨b5,c5,rfl⟩:=owns_form ho5;have hq5:=(hg5.block gq (by simp;omega) (fun e=>hnb e.symm)).trans (zq48 w4 (.cells #[.int .i64 2] 2) gq hgl);obtain⟨⟨u0,u1,u2⟩,v0,v1,v2⟩:=row3f (hq5.trans HP4.out.1);have hgl5:=(zq10.1 (hq5.trans HP4.out.1)).1);go_meet;refine⟨rfl,hid (px_ord HN24.out (by have:=HN24.out;have:=HN24b.out;omega) HP4.out hq5 ((ty_al w4 _).trans (ht5 _)) ⟨l++[2],by simp[hl],by simpa[vals]using ho5⟩),hid (((HS4.out.alloc _).own HX.out.s hg5 fun q e=>(zq8 ho' q e).1).set HX.out.s HGQ.out _)⟩
  ·by_cases hN0:N=0
   ·subst hN0;have hn0:¬(0:Int)<((0:Nat):Int):=by omega
    go_wp2_with fail;go_meet;exact⟨rfl,hid (PXE.of HN24.out HP4.out),HS4⟩
   ·have hn0:(0:Int)<(N:Int):=by omega
    have hn1:0<N:=by omega
    obtain⟨go,curo,o,rfl,ho1,ho2,hBo,ol⟩:=row_w HP4.out.2.2.1 hn1;have HOO:=hid (And.intro ho1 (And.intro ho2 (zq7 HG1.out hBo)));have HBO:=hid hBo;clear ho1 ho2 hN0 hBo;go_upto_region 10 with fail;go_region_law
     (first|(go_simp;go_at_call 74;refine(pk_v [4,1,11,0,-2] 5 rfl (by decide) (by decide) g a len cap w1 w4 _ HS4.out (by first|exact .inl rfl|exact .inr (.inl rfl)|exact .inr (.inr rfl))).mono ?_;rintro e w8 ⟨x8,hx8,rfl,hS8,G8⟩;have HS8:=hid (show Sr g a len cap w1 w8 from Sr.next HS4.out hS8 G8);have HP8:=hid (pxgrown HP4.out G8 HG1.out);have hr8:=(kh G8 HOO.out.2.2 ol).trans HOO.out.1;obtain⟨k1,k2,rl'⟩:=row_c hr8 HOO.out.2.1;have HR8:=hid hr8;obtain⟨⟨b0,b1,b2⟩,-⟩:=row3f HP8.out.1;have hgl8:=HP8.out.lt;clear hS8 G8 hr8 hx8)|(fail))
    all_goals
     go_wp2_with fail;go_meet;exact⟨rfl,hid (PXE.of HN24.out (PX.set1 HP8.out HR8.out _)),hid (HS8.out.set HX.out.s HBO.out _)⟩
  ·by_cases hN0:N=0
   ·subst hN0;have hn0:¬(0:Int)<((0:Nat):Int):=by omega
    go_wp2_with fail;go_meet;exact⟨rfl,hid (PXE.of HN24.out HP4.out),HS4⟩
   ·have hn0:(0:Int)<(N:Int):=by omega
    have hn1:0<N:=by omega
    obtain⟨gp,u0,curp,rfl,p1,pf,ph,pc,hrow,hBp,pl⟩:=HP4.out.2.2.2.1.at (rep_get hn1);obtain⟨ar,cr,rfl,-⟩:=hrow.len;obtain⟨lr,hlr,hsr⟩:=hrow.sl;have HOW:=hid (fun(W:World) (hk:Keep Any w4 W)=>own_r N (by omega) ar cr lr hlr W ((hsr.mono fun _ _=>trivial).keep hk));have HPH:=hid (And.intro ph (And.intro hBp pl));have HNN:=hid hN;clear hrow hlr hsr ph pc hBp hN0;go_upto_region 13 with fail;go_region_law
     (first|(go_simp;go_at_call 97;refine(HOW.out _ (by repeat(first|exact Keep.refl _ _|refine Keep.drew ?_|refine Keep.alloc ?_ _))).mono ?_;rintro e w6 ⟨g6,c6,rfl,ho6,hb6⟩;have K6:Keep Any w4 w6:=(by first|exact Keep.of_below hb6|exact((Keep.refl _ w4).drew).trans (Keep.of_below hb6)|exact((Keep.refl _ w4).alloc _).trans (Keep.of_below hb6)|exact(((Keep.refl _ w4).drew).alloc _).trans (Keep.of_below hb6)|exact(((Keep.refl _ w4).alloc _).drew).trans (Keep.of_below hb6));have HO6:=hid (ownsRow_mono (B':=w4.heap.size) ho6 (by simp));have HB6:=hid (show Below w4.heap.size w4 w6 from(by first|exact hb6|exact((zq3 _ w4).drew).trans hb6|exact(((zq3 _ w4).alloc zqN _).trans (hb6.mono (by simp)))|exact((((zq3 _ w4).drew).alloc zqN _).trans (hb6.mono (by simp)))|exact((((zq3 _ w4).alloc zqN _).drew).trans (hb6.mono (by simp)))));(first|have hlit:=lit_old hb6|have hlit:=lit_old ((zqB.drew).trans hb6)|skip);have hp6:=((K6.cell trivial pl).trans p1);have hpl6:=zq7 pl K6.size;have HX6:=HP4.out.below HB6.out;obtain⟨⟨b0,b1,b2⟩,-⟩:=row3f HX6.1;have hgl6:=HX6.lt;clear HX6 ho6 hb6)|(refine step_app1 (by rfl) _ _ (by rfl) w4.heap.size N w6.heap.size 1 (.slice (some ⟨g6,0,none⟩) N c6) (vals lr) 0 rfl (ownsRow_keep HO6.out (S:=Any) ((Keep.refl _ w6).alloc _) fun _ _=>trivial) rfl (lit_new _ _) (by have:=HNN.out;omega) (zq11 HB6.out.size (by simp)) ?_;intro v' w7 ho7 hg7 ht7;obtain⟨b7,c7,rfl⟩:=owns_form ho7;have HB7:=hid ((HB6.out.alloc HB6.out.size (.cells #[.int .i64 0] 2)).grown hg7 (by have:=HB6.out.size;simp;omega) fun q e=>(zq8 HO6.out q e).1);have HO7:=hid (DwC.R1.ofv ho7 (l:=lr++[0]) (by simp[vals]));have h7:=(HB7.out.block gp pl).trans HPH.out.1;have k1:=zq25 w7 gp 0 curp _ h7;have k2:=zq7 pl HB7.out.size;have k3:=((Keep.of_below (S:=Any) HB7.out).cell trivial pl).trans p1;have HX7:=HP4.out.below HB7.out;obtain⟨⟨b0,b1,b2⟩,-⟩:=row3f HX7.1;have hgl7:=HX7.lt;have H7:=hid h7;clear HX7 ho7 hg7 ht7 h7)|(refine step_app1 (by rfl) _ _ (by rfl) w4.heap.size N w4.heap.size 1 (.slice (some ⟨g6,0,none⟩) N c6) (vals lr) 0 rfl HO6.out rfl hlit (by have:=HNN.out;omega) HB6.out.size ?_;intro v' w7 ho7 hg7 ht7;obtain⟨b7,c7,rfl⟩:=owns_form ho7;have HB7:=hid (HB6.out.grown hg7 HB6.out.size fun q e=>(zq8 HO6.out q e).1);have HO7:=hid (DwC.R1.ofv ho7 (l:=lr++[0]) (by simp[vals]));have h7:=(HB7.out.block gp pl).trans HPH.out.1;have k1:=zq25 w7 gp 0 curp _ h7;have k2:=zq7 pl HB7.out.size;have k3:=((Keep.of_below (S:=Any) HB7.out).cell trivial pl).trans p1;have HX7:=HP4.out.below HB7.out;obtain⟨⟨b0,b1,b2⟩,-⟩:=row3f HX7.1;have hgl7:=HX7.lt;have H7:=hid h7;clear HX7 ho7 hg7 ht7 h7)|(fail))
    all_goals
     go_wp2_with fail;go_meet;exact⟨rfl,hid (px_row HN24.out (HP4.out.below HB7.out) H7.out ⟨_,by have:=HN24b.out;omega,HO7.out.mono HS4.out.2.2.size⟩),hid ((HS4.out.below HB7.out).set HX.out.s HPH.out.2.1 _)⟩
  ·by_cases hN0:N=0
   ·subst hN0;have hn0:¬(0:Int)<((0:Nat):Int):=by omega
    go_wp2_with fail;go_meet;exact⟨rfl,hid (PXE.of HN24.out HP4.out),HS4⟩
   ·have hn0:(0:Int)<(N:Int):=by omega
    have hn1:0<N:=by omega
    obtain⟨gp,u0,curp,rfl,p1,pf,ph,pc,hrow,hBp,pl⟩:=HP4.out.2.2.2.1.at (rep_get hn1);obtain⟨ar,cr,rfl,-⟩:=hrow.len;obtain⟨gr,curr,xr,rfl,hr1,hr2,hBr,rl⟩:=row_w hrow hn1;obtain⟨k1,k2,-⟩:=row_c hr1 hr2;have HR1:=hid (And.intro hr1 hBr);clear hrow hr1 hr2 hBr ph pc hBp hN0;go_wp2_with fail;go_meet;exact⟨rfl,hid (PXE.of HN24.out (PX.set1 HP4.out HR1.out.1 _)),hid (HS4.out.set HX.out.s HR1.out.2 _)⟩
  ·by_cases hN0:N=0
   ·subst hN0;have hn0:¬(0:Int)<((0:Nat):Int):=by omega
    go_wp2_with fail;go_meet;exact⟨rfl,hid (PXE.of HN24.out HP4.out),HS4⟩
   ·have hn0:(0:Int)<(N:Int):=by omega
    have hn1:0<N:=by omega
    have hR3:=HP4.out.2.2.2.2;obtain⟨us3,ho3,-⟩:=id hR3;obtain⟨gc,uc,ec,s1,hcr,hBc,sl⟩:=hR3.at (cshape_get hn1);subst ec;have hlen:((List.range N).map fun i=>List.replicate (N-(i+1)) N).length=N:=by simp
    rw[hlen]at ho3;obtain⟨gc',curc,ec,hc1,hc2⟩:=own_hd ho3 hn1;obtain rfl:gc=gc':=by simpa using ec
    obtain⟨ac,cc,rfl,-⟩:=hcr.form;rw[zq29]at s1 hcr;obtain⟨ln,hln⟩:∃ln,N-(0+1)=ln:=⟨_,rfl⟩;rw[hln]at s1 hcr;have HLN:=hid (show ln≤100 by omega);have HA2:=hid (hcr.mono (zq4 _));have HPH:=hid (And.intro hc1 hc2);have hmk:=fun W=>mkE N (by omega) W;clear hcr hBc hc1 hc2 ho3 hR3 ec hlen hln hN0;have hgcq:¬gc=gq:=fun e=>by
     have h1:=HPH.out.1;rw[e]at h1;have:=h1.symm.trans HP4.out.1;simp at this
    have hgcq2:¬gq=gc:=fun e=>hgcq e.symm;go_upto_region 19 with fail;refine wp_region_held_drew (S:=fun w'=>w'.cell? ⟨gq,0,none⟩=some (.slice x1 N y1)∧w'.cell? ⟨gq,2,none⟩=some (.slice (some ⟨gc,0,none⟩) N y3)) (by kernel_rfl) ⟨d0,d2⟩ (fun hHeld=>?_);refine zq115 (i:=0) (v:=?vq1) (by simp only[zq19,zq14,zq16];rfl) ?_ ?_ ?_ ?_ (Or.inl ⟨?_,?yq1⟩) ?_ ?rq1;case yq1=>(intro w hSw;(try dsimp only at hSw);go_simp;try with_reducible rfl)
    iterate 3 (kernel_rfl)
    ·exact fun _ _ _ h=>h
    ·rfl
    ·assumption
    try simp only[Act.put,zq13,zq22,zq26]
    refine zq115 (i:=1) (v:=?vq2) (by simp only[zq19,zq14,zq16];rfl) ?_ ?_ ?_ ?_ (Or.inl ⟨?_,?yq2⟩) ?_ ?rq2;case yq2=>(intro w hSw;(try dsimp only at hSw);go_simp;try with_reducible rfl)
    iterate 3 (kernel_rfl)
    ·exact fun _ _ _ h=>h
    ·rfl
    ·assumption
    try simp only[Act.put,zq13,zq22,zq26]
    refine zq115 (i:=2) (v:=?vq3) (by simp only[zq19,zq14,zq16];rfl) ?_ ?_ ?_ ?_ (Or.inl ⟨?_,?yq3⟩) ?_ ?rq3;case yq3=>(intro w hSw;(try dsimp only at hSw);go_simp;try with_reducible rfl)
    iterate 3 (kernel_rfl)
    ·exact fun _ _ _ h=>h
    ·rfl
    ·assumption
    try simp only[Act.put,zq13,zq22,zq26]
    refine zq115 (i:=3) (v:=?vq4) (by simp only[zq19,zq14,zq16];rfl) ?_ ?_ ?_ ?_ (Or.inl ⟨?_,?yq4⟩) ?_ ?rq4;case yq4=>(intro w hSw;(try dsimp only at hSw);go_simp;try with_reducible rfl)
    iterate 3 (kernel_rfl)
    ·exact fun _ _ _ h=>h
    ·rfl
    ·assumption
    try simp only[Act.put,zq13,zq22,zq26]
    refine zq115 (i:=4) (v:=?vq5) (by simp only[zq19,zq14,zq16];rfl) ?_ ?_ ?_ ?_ (Or.inl ⟨?_,?yq5⟩) ?_ ?rq5;case yq5=>(intro w hSw;(try dsimp only at hSw);go_simp;try with_reducible rfl)
    iterate 3 (kernel_rfl)
    ·exact fun _ _ _ h=>h
    ·rfl
    ·assumption
    try simp only[Act.put,zq13,zq22,zq26]
    refine zq115 (i:=7) (v:=?vq6) (by simp only[zq19,zq14,zq16];rfl) ?_ ?_ ?_ ?_ (Or.inl ⟨?_,?yq6⟩) ?_ ?rq6;case yq6=>(intro w hSw;(try dsimp only at hSw);go_simp;try with_reducible rfl)
    iterate 3 (kernel_rfl)
    ·exact fun _ _ _ h=>h
    ·rfl
    ·assumption
    try simp only[Act.put,zq13,zq22,zq26]
    refine zq115 (i:=8) (v:=?vq7) (by simp only[zq19,zq14,zq16];rfl) ?_ ?_ ?_ ?_ (Or.inl ⟨?_,?yq7⟩) ?_ ?rq7;case yq7=>(intro w hSw;(try dsimp only at hSw);go_simp;try with_reducible rfl)
    iterate 3 (kernel_rfl)
    ·exact fun _ _ _ h=>h
    ·rfl
    ·assumption
    try simp only[Act.put,zq13,zq22,zq26]
    refine zq115 (i:=9) (v:=?vq8) (by simp only[zq19,zq14,zq16];rfl) ?_ ?_ ?_ ?_ (Or.inl ⟨?_,?yq8⟩) ?_ ?rq8;case yq8=>(intro w hSw;(try dsimp only at hSw);go_simp;try with_reducible rfl)
    iterate 3 (kernel_rfl)
    ·exact fun _ _ _ h=>h
    ·rfl
    ·assumption
    try simp only[Act.put,zq13,zq22,zq26]
    refine zq73 (rs:=[5,10]) (by kernel_rfl) (by simp) ?_;refine zq49 (by simp only[zq19,zq14,zq16];rfl) (fun K hK=>?_) ?_
    ·go_simp;refine hK.out _ _ ?_ (fun hHeld2=>?_)
     ·first|exact⟨d0,d2⟩|exact⟨b0,b2⟩|go_keep
     clear hK K hHeld;have hHeld:=hHeld2;clear hHeld2;try simp only[Act.put,zq13,zq22,zq26]
     refine zq73 (rs:=[6,10]) (by kernel_rfl) (by simp) ?_;refine zq49 (by simp only[zq19,zq14,zq16];rfl) (fun K hK=>?_) ?_
     ·(go_simp;go_at_call 134;refine(own2_v w4 _ ln N ac cc HLN.out HN24.out (by repeat(first|with_reducible exact zq3 _ _|with_reducible refine Below.drew ?_|with_reducible refine Below.alloc ?_ (by simp<;>omega) _)) HA2.out).mono ?_;rintro e w6 ⟨a6,c6,rfl,hC6,hk6⟩;have HC6:=hid hC6;(first|have hKR:=hid (rowk (w:=w4) HN24.out hk6 (by simp<;>omega) (by first|rfl|exact zq48 _ _ _ (by simp)))|skip);(first|have hKL:=(hk6.block (w4.heap.size+1) trivial (by simp)).trans (show _=some (.cells #[rowV N w4.heap.size] 24 (0,0)) from new2 w4 _ _)|skip);have s6:=((Keep.of_below (S:=Any) hC6.1).cell (o:=0) trivial sl).trans s1;have sl6:=zq7 sl hC6.1.size;have HX6:=HP4.out.below hC6.1;obtain⟨⟨b0,b1,b2⟩,-⟩:=row3f HX6.1;have hgl6:=HX6.lt;clear HX6 hk6 hC6)
      refine hK.out _ _ ?_ (fun hHeld2=>?_)
      ·first|exact⟨d0,d2⟩|exact⟨b0,b2⟩|go_keep
      clear hK K hHeld;have hHeld:=hHeld2;clear hHeld2;try simp only[Act.put,zq13,zq22,zq26]
      refine zq73 (rs:=[10]) (by kernel_rfl) (by simp) ?_;refine zq49 (by simp only[zq19,zq14,zq16];rfl) (fun K hK=>?_) ?_
      ·go_simp;refine hK.out _ _ ?_ (fun hHeld2=>?_)
       ·first|exact⟨d0,d2⟩|exact⟨b0,b2⟩|go_keep
       clear hK K hHeld;have hHeld:=hHeld2;clear hHeld2;try simp only[Act.put,zq13,zq22,zq26]
       refine zq73 (rs:=[11]) (by kernel_rfl) (by simp) ?_;refine zq49 (by simp only[zq19,zq14,zq16];rfl) (fun K hK=>?_) ?_
       ·go_simp;refine hK.out _ _ ?_ (fun hHeld2=>?_)
        ·first|exact⟨d0,d2⟩|exact⟨b0,b2⟩|go_keep
        clear hK K hHeld;have hHeld:=hHeld2;clear hHeld2;try simp only[Act.put,zq13,zq22,zq26]
        refine zq73 (rs:=[12]) (by kernel_rfl) (by simp) ?_;refine zq49 (by simp only[zq19,zq14,zq16];rfl) (fun K hK=>?_) ?_
        ·(refine step_app4 (w:=w4) (by rfl) _ _ (by rfl) ln N (w6.heap.size+1) w6.heap.size a6 c6 HLN.out (by rfl) ((HC6.out.alloc _).alloc _) (by rfl) (new2 w6 _ _) (r1_k (made1 _ w6 N HC6.out.1.size HN24.out) (zqK.alloc _)) ?_;intro gg c7 w10 hb10 hr10;have HB10:=hid hb10;have HR10:=hid hr10;have t1:=zq25 w10 gc 0 curc _ ((hb10.block gc sl).trans HPH.out.1);have t2:=zq7 sl hb10.size;have t3:=((Keep.of_below (S:=Any) hb10).cell (o:=0) trivial sl).trans s1;have HX10:=HP4.out.below hb10;obtain⟨⟨b0,b1,b2⟩,-⟩:=row3f HX10.1;have hgl10:=HX10.lt;clear HX10 hb10 hr10)
         refine hK.out _ _ ?_ (fun hHeld2=>?_)
         ·first|exact⟨d0,d2⟩|exact⟨b0,b2⟩|go_keep
         clear hK K hHeld;have hHeld:=hHeld2;clear hHeld2;try simp only[Act.put,zq13,zq22,zq26]
         refine zq115 (i:=13) (v:=?vq9) (by simp only[zq19,zq14,zq16];rfl) ?_ ?_ ?_ ?_ (Or.inl ⟨?_,?yq9⟩) ?_ ?rq9;case yq9=>(intro w hSw;(try dsimp only at hSw);go_simp;try with_reducible rfl)
         iterate 3 (kernel_rfl)
         ·exact fun _ _ _ h=>h
         ·rfl
         ·assumption
         try simp only[Act.put,zq13,zq22,zq26]
         refine zq73 (rs:=[14]) (by kernel_rfl) (by simp) ?_;refine zq49 (by simp only[zq19,zq14,zq16];rfl) (fun K hK=>?_) ?_
         ·go_simp;refine hK.out _ _ ?_ (fun hHeld2=>?_)
          ·first|exact⟨d0,d2⟩|exact⟨b0,b2⟩|go_keep
          clear hK K hHeld;have hHeld:=hHeld2;clear hHeld2;try simp only[Act.put,zq13,zq22,zq26]
          refine wpAnyH_done (by kernel_rfl) ?_ _
          (go_wp2_with fail;go_meet;exact⟨rfl,hid (px_rows HN24.out (HP4.out.below HB10.out) ((HB10.out.block gc sl).trans HPH.out.1) (A2.of (HR10.out.mono HS4.out.2.2.size) fun m hm=>by rw[(zq82.1 hm).2];exact HN24.out)),hid ((HS4.out.below HB10.out).set HX.out.s HPH.out.2 _)⟩)
         exact zq65
        exact zq65
       exact zq65
      exact zq65
     refine zq49 (by simp only[zq19,zq14,zq16];rfl) (fun K hK=>?_) ?_
     ·go_simp;refine hK.out _ _ ?_ (fun hHeld2=>?_)
      ·first|exact⟨d0,d2⟩|exact⟨b0,b2⟩|go_keep
      clear hK K hHeld;have hHeld:=hHeld2;clear hHeld2;try simp only[Act.put,zq13,zq22,zq26]
      refine zq73 (rs:=[6,11]) (by kernel_rfl) (by simp) ?_;refine zq49 (by simp only[zq19,zq14,zq16];rfl) (fun K hK=>?_) ?_
      ·(go_simp;go_at_call 134;refine(own2_v w4 _ ln N ac cc HLN.out HN24.out (by repeat(first|with_reducible exact zq3 _ _|with_reducible refine Below.drew ?_|with_reducible refine Below.alloc ?_ (by simp<;>omega) _)) HA2.out).mono ?_;rintro e w6 ⟨a6,c6,rfl,hC6,hk6⟩;have HC6:=hid hC6;(first|have hKR:=hid (rowk (w:=w4) HN24.out hk6 (by simp<;>omega) (by first|rfl|exact zq48 _ _ _ (by simp)))|skip);(first|have hKL:=(hk6.block (w4.heap.size+1) trivial (by simp)).trans (show _=some (.cells #[rowV N w4.heap.size] 24 (0,0)) from new2 w4 _ _)|skip);have s6:=((Keep.of_below (S:=Any) hC6.1).cell (o:=0) trivial sl).trans s1;have sl6:=zq7 sl hC6.1.size;have HX6:=HP4.out.below hC6.1;obtain⟨⟨b0,b1,b2⟩,-⟩:=row3f HX6.1;have hgl6:=HX6.lt;clear HX6 hk6 hC6)
       refine hK.out _ _ ?_ (fun hHeld2=>?_)
       ·first|exact⟨d0,d2⟩|exact⟨b0,b2⟩|go_keep
       clear hK K hHeld;have hHeld:=hHeld2;clear hHeld2;try simp only[Act.put,zq13,zq22,zq26]
       refine zq73 (rs:=[11]) (by kernel_rfl) (by simp) ?_;refine zq49 (by simp only[zq19,zq14,zq16];rfl) (fun K hK=>?_) ?_
       ·go_simp;refine hK.out _ _ ?_ (fun hHeld2=>?_)
        ·first|exact⟨d0,d2⟩|exact⟨b0,b2⟩|go_keep
        clear hK K hHeld;have hHeld:=hHeld2;clear hHeld2;try simp only[Act.put,zq13,zq22,zq26]
        refine zq73 (rs:=[12]) (by kernel_rfl) (by simp) ?_;refine zq49 (by simp only[zq19,zq14,zq16];rfl) (fun K hK=>?_) ?_
        ·(refine step_app4 (w:=w4) (by rfl) _ _ (by rfl) ln N w6.heap.size w4.heap.size a6 c6 HLN.out (by rfl) (HC6.out.alloc _) (by rfl) (zq17 w6 _) (r1_k hKR.out (zqK.alloc _)) ?_;intro gg c7 w10 hb10 hr10;have HB10:=hid hb10;have HR10:=hid hr10;have t1:=zq25 w10 gc 0 curc _ ((hb10.block gc sl).trans HPH.out.1);have t2:=zq7 sl hb10.size;have t3:=((Keep.of_below (S:=Any) hb10).cell (o:=0) trivial sl).trans s1;have HX10:=HP4.out.below hb10;obtain⟨⟨b0,b1,b2⟩,-⟩:=row3f HX10.1;have hgl10:=HX10.lt;clear HX10 hb10 hr10)
         refine hK.out _ _ ?_ (fun hHeld2=>?_)
         ·first|exact⟨d0,d2⟩|exact⟨b0,b2⟩|go_keep
         clear hK K hHeld;have hHeld:=hHeld2;clear hHeld2;try simp only[Act.put,zq13,zq22,zq26]
         refine zq115 (i:=13) (v:=?vq10) (by simp only[zq19,zq14,zq16];rfl) ?_ ?_ ?_ ?_ (Or.inl ⟨?_,?yq10⟩) ?_ ?rq10;case yq10=>(intro w hSw;(try dsimp only at hSw);go_simp;try with_reducible rfl)
         iterate 3 (kernel_rfl)
         ·exact fun _ _ _ h=>h
         ·rfl
         ·assumption
         try simp only[Act.put,zq13,zq22,zq26]
         refine zq73 (rs:=[14]) (by kernel_rfl) (by simp) ?_;refine zq49 (by simp only[zq19,zq14,zq16];rfl) (fun K hK=>?_) ?_
         ·go_simp;refine hK.out _ _ ?_ (fun hHeld2=>?_)
          ·first|exact⟨d0,d2⟩|exact⟨b0,b2⟩|go_keep
          clear hK K hHeld;have hHeld:=hHeld2;clear hHeld2;try simp only[Act.put,zq13,zq22,zq26]
          refine wpAnyH_done (by kernel_rfl) ?_ _
          (go_wp2_with fail;go_meet;exact⟨rfl,hid (px_rows HN24.out (HP4.out.below HB10.out) ((HB10.out.block gc sl).trans HPH.out.1) (A2.of (HR10.out.mono HS4.out.2.2.size) fun m hm=>by rw[(zq82.1 hm).2];exact HN24.out)),hid ((HS4.out.below HB10.out).set HX.out.s HPH.out.2 _)⟩)
         exact zq65
        exact zq65
       exact zq65
      refine zq49 (by simp only[zq19,zq14,zq16];rfl) (fun K hK=>?_) ?_
      ·go_simp;refine hK.out _ _ ?_ (fun hHeld2=>?_)
       ·first|exact⟨d0,d2⟩|exact⟨b0,b2⟩|go_keep
       clear hK K hHeld;have hHeld:=hHeld2;clear hHeld2;try simp only[Act.put,zq13,zq22,zq26]
       refine zq73 (rs:=[6]) (by kernel_rfl) (by simp) ?_;refine zq49 (by simp only[zq19,zq14,zq16];rfl) (fun K hK=>?_) ?_
       ·(go_simp;go_at_call 134;refine(own2_v w4 _ ln N ac cc HLN.out HN24.out (by repeat(first|with_reducible exact zq3 _ _|with_reducible refine Below.drew ?_|with_reducible refine Below.alloc ?_ (by simp<;>omega) _)) HA2.out).mono ?_;rintro e w6 ⟨a6,c6,rfl,hC6,hk6⟩;have HC6:=hid hC6;(first|have hKR:=hid (rowk (w:=w4) HN24.out hk6 (by simp<;>omega) (by first|rfl|exact zq48 _ _ _ (by simp)))|skip);(first|have hKL:=(hk6.block (w4.heap.size+1) trivial (by simp)).trans (show _=some (.cells #[rowV N w4.heap.size] 24 (0,0)) from new2 w4 _ _)|skip);have s6:=((Keep.of_below (S:=Any) hC6.1).cell (o:=0) trivial sl).trans s1;have sl6:=zq7 sl hC6.1.size;have HX6:=HP4.out.below hC6.1;obtain⟨⟨b0,b1,b2⟩,-⟩:=row3f HX6.1;have hgl6:=HX6.lt;clear HX6 hk6 hC6)
        refine hK.out _ _ ?_ (fun hHeld2=>?_)
        ·first|exact⟨d0,d2⟩|exact⟨b0,b2⟩|go_keep
        clear hK K hHeld;have hHeld:=hHeld2;clear hHeld2;try simp only[Act.put,zq13,zq22,zq26]
        refine zq73 (rs:=[12]) (by kernel_rfl) (by simp) ?_;refine zq49 (by simp only[zq19,zq14,zq16];rfl) (fun K hK=>?_) ?_
        ·(refine step_app4 (w:=w4) (by rfl) _ _ (by rfl) ln N (w4.heap.size+1) w4.heap.size a6 c6 HLN.out (by rfl) HC6.out (by rfl) hKL hKR.out ?_;intro gg c7 w10 hb10 hr10;have HB10:=hid hb10;have HR10:=hid hr10;have t1:=zq25 w10 gc 0 curc _ ((hb10.block gc sl).trans HPH.out.1);have t2:=zq7 sl hb10.size;have t3:=((Keep.of_below (S:=Any) hb10).cell (o:=0) trivial sl).trans s1;have HX10:=HP4.out.below hb10;obtain⟨⟨b0,b1,b2⟩,-⟩:=row3f HX10.1;have hgl10:=HX10.lt;clear HX10 hb10 hr10)
         refine hK.out _ _ ?_ (fun hHeld2=>?_)
         ·first|exact⟨d0,d2⟩|exact⟨b0,b2⟩|go_keep
         clear hK K hHeld;have hHeld:=hHeld2;clear hHeld2;try simp only[Act.put,zq13,zq22,zq26]
         refine zq115 (i:=13) (v:=?vq11) (by simp only[zq19,zq14,zq16];rfl) ?_ ?_ ?_ ?_ (Or.inl ⟨?_,?yq11⟩) ?_ ?rq11;case yq11=>(intro w hSw;(try dsimp only at hSw);go_simp;try with_reducible rfl)
         iterate 3 (kernel_rfl)
         ·exact fun _ _ _ h=>h
         ·rfl
         ·assumption
         try simp only[Act.put,zq13,zq22,zq26]
         refine zq73 (rs:=[14]) (by kernel_rfl) (by simp) ?_;refine zq49 (by simp only[zq19,zq14,zq16];rfl) (fun K hK=>?_) ?_
         ·go_simp;refine hK.out _ _ ?_ (fun hHeld2=>?_)
          ·first|exact⟨d0,d2⟩|exact⟨b0,b2⟩|go_keep
          clear hK K hHeld;have hHeld:=hHeld2;clear hHeld2;try simp only[Act.put,zq13,zq22,zq26]
          refine wpAnyH_done (by kernel_rfl) ?_ _
          (go_wp2_with fail;go_meet;exact⟨rfl,hid (px_rows HN24.out (HP4.out.below HB10.out) ((HB10.out.block gc sl).trans HPH.out.1) (A2.of (HR10.out.mono HS4.out.2.2.size) fun m hm=>by rw[(zq82.1 hm).2];exact HN24.out)),hid ((HS4.out.below HB10.out).set HX.out.s HPH.out.2 _)⟩)
         exact zq65
        exact zq65
       exact zq65
      exact zq65
     exact zq65
    refine zq49 (by simp only[zq19,zq14,zq16];rfl) (fun K hK=>?_) ?_
    ·go_simp;refine hK.out _ _ ?_ (fun hHeld2=>?_)
     ·first|exact⟨d0,d2⟩|exact⟨b0,b2⟩|go_keep
     clear hK K hHeld;have hHeld:=hHeld2;clear hHeld2;try simp only[Act.put,zq13,zq22,zq26]
     refine zq73 (rs:=[5,11]) (by kernel_rfl) (by simp) ?_;refine zq49 (by simp only[zq19,zq14,zq16];rfl) (fun K hK=>?_) ?_
     ·go_simp;refine hK.out _ _ ?_ (fun hHeld2=>?_)
      ·first|exact⟨d0,d2⟩|exact⟨b0,b2⟩|go_keep
      clear hK K hHeld;have hHeld:=hHeld2;clear hHeld2;try simp only[Act.put,zq13,zq22,zq26]
      refine zq73 (rs:=[6,11]) (by kernel_rfl) (by simp) ?_;refine zq49 (by simp only[zq19,zq14,zq16];rfl) (fun K hK=>?_) ?_
      ·(go_simp;go_at_call 134;refine(own2_v w4 _ ln N ac cc HLN.out HN24.out (by repeat(first|with_reducible exact zq3 _ _|with_reducible refine Below.drew ?_|with_reducible refine Below.alloc ?_ (by simp<;>omega) _)) HA2.out).mono ?_;rintro e w6 ⟨a6,c6,rfl,hC6,hk6⟩;have HC6:=hid hC6;(first|have hKR:=hid (rowk (w:=w4) HN24.out hk6 (by simp<;>omega) (by first|rfl|exact zq48 _ _ _ (by simp)))|skip);(first|have hKL:=(hk6.block (w4.heap.size+1) trivial (by simp)).trans (show _=some (.cells #[rowV N w4.heap.size] 24 (0,0)) from new2 w4 _ _)|skip);have s6:=((Keep.of_below (S:=Any) hC6.1).cell (o:=0) trivial sl).trans s1;have sl6:=zq7 sl hC6.1.size;have HX6:=HP4.out.below hC6.1;obtain⟨⟨b0,b1,b2⟩,-⟩:=row3f HX6.1;have hgl6:=HX6.lt;clear HX6 hk6 hC6)
       refine hK.out _ _ ?_ (fun hHeld2=>?_)
       ·first|exact⟨d0,d2⟩|exact⟨b0,b2⟩|go_keep
       clear hK K hHeld;have hHeld:=hHeld2;clear hHeld2;try simp only[Act.put,zq13,zq22,zq26]
       refine zq73 (rs:=[11]) (by kernel_rfl) (by simp) ?_;refine zq49 (by simp only[zq19,zq14,zq16];rfl) (fun K hK=>?_) ?_
       ·go_simp;refine hK.out _ _ ?_ (fun hHeld2=>?_)
        ·first|exact⟨d0,d2⟩|exact⟨b0,b2⟩|go_keep
        clear hK K hHeld;have hHeld:=hHeld2;clear hHeld2;try simp only[Act.put,zq13,zq22,zq26]
        refine zq73 (rs:=[12]) (by kernel_rfl) (by simp) ?_;refine zq49 (by simp only[zq19,zq14,zq16];rfl) (fun K hK=>?_) ?_
        ·(refine step_app4 (w:=w4) (by rfl) _ _ (by rfl) ln N w6.heap.size w4.heap.size a6 c6 HLN.out (by rfl) (HC6.out.alloc _) (by rfl) (zq17 w6 _) (r1_k hKR.out (zqK.alloc _)) ?_;intro gg c7 w10 hb10 hr10;have HB10:=hid hb10;have HR10:=hid hr10;have t1:=zq25 w10 gc 0 curc _ ((hb10.block gc sl).trans HPH.out.1);have t2:=zq7 sl hb10.size;have t3:=((Keep.of_below (S:=Any) hb10).cell (o:=0) trivial sl).trans s1;have HX10:=HP4.out.below hb10;obtain⟨⟨b0,b1,b2⟩,-⟩:=row3f HX10.1;have hgl10:=HX10.lt;clear HX10 hb10 hr10)
         refine hK.out _ _ ?_ (fun hHeld2=>?_)
         ·first|exact⟨d0,d2⟩|exact⟨b0,b2⟩|go_keep
         clear hK K hHeld;have hHeld:=hHeld2;clear hHeld2;try simp only[Act.put,zq13,zq22,zq26]
         refine zq115 (i:=13) (v:=?vq12) (by simp only[zq19,zq14,zq16];rfl) ?_ ?_ ?_ ?_ (Or.inl ⟨?_,?yq12⟩) ?_ ?rq12;case yq12=>(intro w hSw;(try dsimp only at hSw);go_simp;try with_reducible rfl)
         iterate 3 (kernel_rfl)
         ·exact fun _ _ _ h=>h
         ·rfl
         ·assumption
         try simp only[Act.put,zq13,zq22,zq26]
         refine zq73 (rs:=[14]) (by kernel_rfl) (by simp) ?_;refine zq49 (by simp only[zq19,zq14,zq16];rfl) (fun K hK=>?_) ?_
         ·go_simp;refine hK.out _ _ ?_ (fun hHeld2=>?_)
          ·first|exact⟨d0,d2⟩|exact⟨b0,b2⟩|go_keep
          clear hK K hHeld;have hHeld:=hHeld2;clear hHeld2;try simp only[Act.put,zq13,zq22,zq26]
          refine wpAnyH_done (by kernel_rfl) ?_ _
          (go_wp2_with fail;go_meet;exact⟨rfl,hid (px_rows HN24.out (HP4.out.below HB10.out) ((HB10.out.block gc sl).trans HPH.out.1) (A2.of (HR10.out.mono HS4.out.2.2.size) fun m hm=>by rw[(zq82.1 hm).2];exact HN24.out)),hid ((HS4.out.below HB10.out).set HX.out.s HPH.out.2 _)⟩)
         exact zq65
        exact zq65
       exact zq65
      refine zq49 (by simp only[zq19,zq14,zq16];rfl) (fun K hK=>?_) ?_
      ·go_simp;refine hK.out _ _ ?_ (fun hHeld2=>?_)
       ·first|exact⟨d0,d2⟩|exact⟨b0,b2⟩|go_keep
       clear hK K hHeld;have hHeld:=hHeld2;clear hHeld2;try simp only[Act.put,zq13,zq22,zq26]
       refine zq73 (rs:=[6]) (by kernel_rfl) (by simp) ?_;refine zq49 (by simp only[zq19,zq14,zq16];rfl) (fun K hK=>?_) ?_
       ·(go_simp;go_at_call 134;refine(own2_v w4 _ ln N ac cc HLN.out HN24.out (by repeat(first|with_reducible exact zq3 _ _|with_reducible refine Below.drew ?_|with_reducible refine Below.alloc ?_ (by simp<;>omega) _)) HA2.out).mono ?_;rintro e w6 ⟨a6,c6,rfl,hC6,hk6⟩;have HC6:=hid hC6;(first|have hKR:=hid (rowk (w:=w4) HN24.out hk6 (by simp<;>omega) (by first|rfl|exact zq48 _ _ _ (by simp)))|skip);(first|have hKL:=(hk6.block (w4.heap.size+1) trivial (by simp)).trans (show _=some (.cells #[rowV N w4.heap.size] 24 (0,0)) from new2 w4 _ _)|skip);have s6:=((Keep.of_below (S:=Any) hC6.1).cell (o:=0) trivial sl).trans s1;have sl6:=zq7 sl hC6.1.size;have HX6:=HP4.out.below hC6.1;obtain⟨⟨b0,b1,b2⟩,-⟩:=row3f HX6.1;have hgl6:=HX6.lt;clear HX6 hk6 hC6)
        refine hK.out _ _ ?_ (fun hHeld2=>?_)
        ·first|exact⟨d0,d2⟩|exact⟨b0,b2⟩|go_keep
        clear hK K hHeld;have hHeld:=hHeld2;clear hHeld2;try simp only[Act.put,zq13,zq22,zq26]
        refine zq73 (rs:=[12]) (by kernel_rfl) (by simp) ?_;refine zq49 (by simp only[zq19,zq14,zq16];rfl) (fun K hK=>?_) ?_
        ·(refine step_app4 (w:=w4) (by rfl) _ _ (by rfl) ln N (w4.heap.size+1) w4.heap.size a6 c6 HLN.out (by rfl) HC6.out (by rfl) hKL hKR.out ?_;intro gg c7 w10 hb10 hr10;have HB10:=hid hb10;have HR10:=hid hr10;have t1:=zq25 w10 gc 0 curc _ ((hb10.block gc sl).trans HPH.out.1);have t2:=zq7 sl hb10.size;have t3:=((Keep.of_below (S:=Any) hb10).cell (o:=0) trivial sl).trans s1;have HX10:=HP4.out.below hb10;obtain⟨⟨b0,b1,b2⟩,-⟩:=row3f HX10.1;have hgl10:=HX10.lt;clear HX10 hb10 hr10)
         refine hK.out _ _ ?_ (fun hHeld2=>?_)
         ·first|exact⟨d0,d2⟩|exact⟨b0,b2⟩|go_keep
         clear hK K hHeld;have hHeld:=hHeld2;clear hHeld2;try simp only[Act.put,zq13,zq22,zq26]
         refine zq115 (i:=13) (v:=?vq13) (by simp only[zq19,zq14,zq16];rfl) ?_ ?_ ?_ ?_ (Or.inl ⟨?_,?yq13⟩) ?_ ?rq13;case yq13=>(intro w hSw;(try dsimp only at hSw);go_simp;try with_reducible rfl)
         iterate 3 (kernel_rfl)
         ·exact fun _ _ _ h=>h
         ·rfl
         ·assumption
         try simp only[Act.put,zq13,zq22,zq26]
         refine zq73 (rs:=[14]) (by kernel_rfl) (by simp) ?_;refine zq49 (by simp only[zq19,zq14,zq16];rfl) (fun K hK=>?_) ?_
         ·go_simp;refine hK.out _ _ ?_ (fun hHeld2=>?_)
          ·first|exact⟨d0,d2⟩|exact⟨b0,b2⟩|go_keep
          clear hK K hHeld;have hHeld:=hHeld2;clear hHeld2;try simp only[Act.put,zq13,zq22,zq26]
          refine wpAnyH_done (by kernel_rfl) ?_ _
          (go_wp2_with fail;go_meet;exact⟨rfl,hid (px_rows HN24.out (HP4.out.below HB10.out) ((HB10.out.block gc sl).trans HPH.out.1) (A2.of (HR10.out.mono HS4.out.2.2.size) fun m hm=>by rw[(zq82.1 hm).2];exact HN24.out)),hid ((HS4.out.below HB10.out).set HX.out.s HPH.out.2 _)⟩)
         exact zq65
        exact zq65
       exact zq65
      exact zq65
     refine zq49 (by simp only[zq19,zq14,zq16];rfl) (fun K hK=>?_) ?_
     ·go_simp;refine hK.out _ _ ?_ (fun hHeld2=>?_)
      ·first|exact⟨d0,d2⟩|exact⟨b0,b2⟩|go_keep
      clear hK K hHeld;have hHeld:=hHeld2;clear hHeld2;try simp only[Act.put,zq13,zq22,zq26]
      refine zq73 (rs:=[5]) (by kernel_rfl) (by simp) ?_;refine zq49 (by simp only[zq19,zq14,zq16];rfl) (fun K hK=>?_) ?_
      ·go_simp;refine hK.out _ _ ?_ (fun hHeld2=>?_)
       ·first|exact⟨d0,d2⟩|exact⟨b0,b2⟩|go_keep
       clear hK K hHeld;have hHeld:=hHeld2;clear hHeld2;try simp only[Act.put,zq13,zq22,zq26]
       refine zq73 (rs:=[6]) (by kernel_rfl) (by simp) ?_;refine zq49 (by simp only[zq19,zq14,zq16];rfl) (fun K hK=>?_) ?_
       ·(go_simp;go_at_call 134;refine(own2_v w4 _ ln N ac cc HLN.out HN24.out (by repeat(first|with_reducible exact zq3 _ _|with_reducible refine Below.drew ?_|with_reducible refine Below.alloc ?_ (by simp<;>omega) _)) HA2.out).mono ?_;rintro e w6 ⟨a6,c6,rfl,hC6,hk6⟩;have HC6:=hid hC6;(first|have hKR:=hid (rowk (w:=w4) HN24.out hk6 (by simp<;>omega) (by first|rfl|exact zq48 _ _ _ (by simp)))|skip);(first|have hKL:=(hk6.block (w4.heap.size+1) trivial (by simp)).trans (show _=some (.cells #[rowV N w4.heap.size] 24 (0,0)) from new2 w4 _ _)|skip);have s6:=((Keep.of_below (S:=Any) hC6.1).cell (o:=0) trivial sl).trans s1;have sl6:=zq7 sl hC6.1.size;have HX6:=HP4.out.below hC6.1;obtain⟨⟨b0,b1,b2⟩,-⟩:=row3f HX6.1;have hgl6:=HX6.lt;clear HX6 hk6 hC6)
        refine hK.out _ _ ?_ (fun hHeld2=>?_)
        ·first|exact⟨d0,d2⟩|exact⟨b0,b2⟩|go_keep
        clear hK K hHeld;have hHeld:=hHeld2;clear hHeld2;try simp only[Act.put,zq13,zq22,zq26]
        refine zq73 (rs:=[12]) (by kernel_rfl) (by simp) ?_;refine zq49 (by simp only[zq19,zq14,zq16];rfl) (fun K hK=>?_) ?_
        ·(refine step_app4 (w:=w4) (by rfl) _ _ (by rfl) ln N (w4.heap.size+1) w4.heap.size a6 c6 HLN.out (by rfl) HC6.out (by rfl) hKL hKR.out ?_;intro gg c7 w10 hb10 hr10;have HB10:=hid hb10;have HR10:=hid hr10;have t1:=zq25 w10 gc 0 curc _ ((hb10.block gc sl).trans HPH.out.1);have t2:=zq7 sl hb10.size;have t3:=((Keep.of_below (S:=Any) hb10).cell (o:=0) trivial sl).trans s1;have HX10:=HP4.out.below hb10;obtain⟨⟨b0,b1,b2⟩,-⟩:=row3f HX10.1;have hgl10:=HX10.lt;clear HX10 hb10 hr10)
         refine hK.out _ _ ?_ (fun hHeld2=>?_)
         ·first|exact⟨d0,d2⟩|exact⟨b0,b2⟩|go_keep
         clear hK K hHeld;have hHeld:=hHeld2;clear hHeld2;try simp only[Act.put,zq13,zq22,zq26]
         refine zq115 (i:=13) (v:=?vq14) (by simp only[zq19,zq14,zq16];rfl) ?_ ?_ ?_ ?_ (Or.inl ⟨?_,?yq14⟩) ?_ ?rq14;case yq14=>(intro w hSw;(try dsimp only at hSw);go_simp;try with_reducible rfl)
         iterate 3 (kernel_rfl)
         ·exact fun _ _ _ h=>h
         ·rfl
         ·assumption
         try simp only[Act.put,zq13,zq22,zq26]
         refine zq73 (rs:=[14]) (by kernel_rfl) (by simp) ?_;refine zq49 (by simp only[zq19,zq14,zq16];rfl) (fun K hK=>?_) ?_
         ·go_simp;refine hK.out _ _ ?_ (fun hHeld2=>?_)
          ·first|exact⟨d0,d2⟩|exact⟨b0,b2⟩|go_keep
          clear hK K hHeld;have hHeld:=hHeld2;clear hHeld2;try simp only[Act.put,zq13,zq22,zq26]
          refine wpAnyH_done (by kernel_rfl) ?_ _
          (go_wp2_with fail;go_meet;exact⟨rfl,hid (px_rows HN24.out (HP4.out.below HB10.out) ((HB10.out.block gc sl).trans HPH.out.1) (A2.of (HR10.out.mono HS4.out.2.2.size) fun m hm=>by rw[(zq82.1 hm).2];exact HN24.out)),hid ((HS4.out.below HB10.out).set HX.out.s HPH.out.2 _)⟩)
         exact zq65
        exact zq65
       exact zq65
      exact zq65
     exact zq65
    exact zq65
  ·go_upto_region 4 with(go_at_call 96;refine(triv_l [7,7,7,7] 4 rfl (by decide) _).mono ?_;rintro e w6 ⟨M,X1,X2,X3,Y1,Y2,Y3,hM,rfl,hp,hb⟩;have HB6:=hid (show Below w4.heap.size w4 w6 from((zq3 _ w4).alloc zqN _).trans (hb.mono (by simp)));have HP6:=hid (show PT w1.heap.size w6 M (.slice X1 M Y1) (.slice X2 M Y2) (.slice X3 M Y3) from hp.mono (zq11 HS4.out.2.2.size (by simp)));have hX6:=HP4.out.below HB6.out;obtain⟨⟨u0,u1,u2⟩,v0,v1,v2⟩:=row3f hX6.1;have hgl6:=hX6.lt;have HM7:=hid hM;clear hp hb hM hX6);have HX7:=hid (PX.put3 (HP4.out.below HB6.out).1 HGQ.out HP6.out);have HS7:=hid ((HS4.out.below HB6.out).set3 HX.out.s HGQ.out (.slice X1 M Y1) (.slice X2 M Y2) (.slice X3 M Y3));obtain⟨w7,hw7⟩:∃w7,w7=(((w6.setCell ⟨gq,0,none⟩ (.slice X1 M Y1)).setCell ⟨gq,1,none⟩ (.slice X2 M Y2)).setCell ⟨gq,2,none⟩ (.slice X3 M Y3)):=⟨_,rfl⟩;rw[←hw7]at HX7 HS7 ⊢;clear hw7 d0 d1 d2 s0 s1 s2 hgl u0 u1 u2 v0 v1 v2 hgl6;go_upto_if 14 with(go_at_call 52;refine(nx_any _ g a len cap w1 _ HS7.out).mono ?_;rintro e w8 ⟨r,rfl,hr,hS8⟩;have HS8:=hid (HS7.out.tr hS8);have HX8:=hid (pxgrown HX7.out hS8.2.2 HG1.out);clear hS8);by_cases hr0:r=0
   ·subst hr0;go_wp2_with (go_at_call 96;refine(triv_l [2,2,2,2,2,2,2] 7 rfl (by decide) _).mono ?_;rintro e w9 ⟨K,Z1,Z2,Z3,V1,V2,V3,hK,rfl,hp,hb⟩;have HB9:=hid (show Below w8.heap.size w8 w9 from((zq3 _ w8).alloc zqN _).trans (hb.mono (by simp)));have HP9:=hid (show PT w1.heap.size w9 K (.slice Z1 K V1) (.slice Z2 K V2) (.slice Z3 K V3) from hp.mono (zq11 HS8.out.2.2.size (by simp)));have hX9:=HX8.out.below HB9.out;obtain⟨⟨u0,u1,u2⟩,v0,v1,v2⟩:=row3f hX9.1;have hgl9:=hX9.lt;have HK9:=hid hK;clear hp hb hK hX9);go_meet;exact⟨rfl,hid (PXE.of (zq11 HK9.out (by decide)) (PX.put3 (HX8.out.below HB9.out).1 HGQ.out HP9.out)),hid ((HS8.out.below HB9.out).set3 HX.out.s HGQ.out _ _ _)⟩
   ·have hri:((r:Int)==0)=false:=zq79.2 (by omega);go_wp2_with fail;go_meet;exact⟨rfl,hid (PXE.of (zq11 HM7.out (by decide)) HX8.out),HS8⟩
end Go.Proofs.YtlmlamcoeegkbaaGreat.DxF
