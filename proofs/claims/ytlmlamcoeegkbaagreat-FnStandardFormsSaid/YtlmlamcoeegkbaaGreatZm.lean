import Derived.Test.YtlmlamcoeegkbaaGreatZ0
import Derived.Test.YtlmlamcoeegkbaaGreatZl
/-
  Lemmas for the law FnStandardForms, in short spelling.
-/
open Go.Lib (hid)
set_option linter.unusedVariables false
set_option linter.unusedSimpArgs false
set_option maxRecDepth 100000
set_option maxHeartbeats 40000000
namespace Go.Proofs.YtlmlamcoeegkbaaGreat.SG
open Go.RowKit Go.Proofs.YtlmlamcoeegkbaaGreat AJ Val DC CY DV DD Bv Fv M0 OI OG M4 Qo QV
open Go.Proofs.YtlmlamcoeegkbaaGreat.VC (Ty.box Ty.GX)
theorem kc {w w':World}{g b:Nat}(h:w.grownBy w' (some g))(hb:g<b)(hl:b<w.heap.size)(o:Nat):w'.cell? ⟨b,o,none⟩=w.cell? ⟨b,o,none⟩:=(WY (gp:=g) h).cell (by omega) hl
theorem kh {w w':World}{g b:Nat}(h:w.grownBy w' (some g))(hb:g<b)(hl:b<w.heap.size):w'.heap[b]?=w.heap[b]?:=h.block b hl fun e=>by injection e with e;omega
theorem PX.set1 {B n b i g:Nat}{w:World}{vO vP vC:Value}{cur:Array Value}(h:PX B n w g vO vP vC)(hb:w.heap[b]?=some (.cells cur 2 (0,0)))(x:Int):PX B n (w.setCell ⟨b,i,none⟩ (.int .i64 x)) g vO vP vC:=
 ⟨by
  rw[DT w ⟨b,i,none⟩ g _ ?_]
  ·exact h.1
  ·intro e;have e:g=b:=e;subst e;rw[h.1]at hb;simp at hb,h.2.1,h.2.2.ty (Ty.set1 hb x)⟩
theorem UL {B n j c:Nat}{w:World}{a:Option Addr}(h:R1 B w n (.slice a n c))(hj:j<n):∃b cur x,a=some ⟨b,0,none⟩∧w.heap[b]?=some (.cells cur 2 (0,0))∧cur[j]?=some (.int .i64 x)∧B≤b∧b<w.heap.size:=by
 obtain⟨b,cur,x,rfl,h1,h2,h3,h4,h5⟩:=NI.QJ h hj;rw[Aq w b j cur _ (0,0) h3]at h1;exact⟨b,cur,x,rfl,h3,h1,h4,h5⟩
theorem KN {w:World}{b j:Nat}{cur:Array Value}{t:TypeId}{u:Value}(h:w.heap[b]?=some (.cells cur t (0,0)))(hu:cur[j]?=some u):w.cell? ⟨b,j,none⟩=some u∧w.frozen? ⟨b,j,none⟩=false∧b<w.heap.size:=
 ⟨(Aq w b j cur _ (0,0) h).trans hu,BP w b j cur _ h,(BX.1 h).1⟩
theorem Kw.al {b g len cap:Nat}{a:Option Addr}{w w':World}{e:Ending}{o:Obj}(hw:Sr g a len cap w w)(h:Kw b g a len cap (w.alloc o) e w'):Kw b g a len cap w e w':=by
 obtain⟨N,x1,x2,x3,y1,y2,y3,hN,rfl,hp,hs⟩:=h;exact⟨N,_,_,_,_,_,_,hN,rfl,hp.mono (by simp),(hw.alloc o).tr hs⟩
theorem AFu (N:Nat)(hN:N≤24)(a1 a2 a3:Option Addr)(c1 c2 c3:Nat)(g:Nat)(a:Option Addr)(len cap:Nat)(w:World)(h:Sr g a len cap w w)(hA:PT 0 w N (.slice a1 N c1) (.slice a2 N c2) (.slice a3 N c3)):
  Calls Tryz.prog 118 #[.pointer (some ⟨g,0,none⟩),.agg #[.slice a1 N c1,.slice a2 N c2,.slice a3 N c3]] w (Kw 24 g a len cap w):=by
 obtain⟨w0,hw0⟩:∃w0,w0=w.alloc (.cells #[.slice a1 N c1,.slice a2 N c2,.slice a3 N c3] 28):=⟨_,rfl⟩;obtain⟨w1,hw1⟩:∃w1,w1=w0.alloc Bu:=⟨_,rfl⟩;obtain⟨g0,hg0⟩:∃g0,w.heap.size=g0:=⟨_,rfl⟩;have HX:=hid (show Bx g a len cap w0 w1 (g0+1) by
  have:=Bx.new (Sr.here (h.alloc (.cells #[.slice a1 N c1,.slice a2 N c2,.slice a3 N c3] 28)));rw[World.size_alloc,←hw0,←hw1,hg0]at this;exact this)
 have HA1:=hid (show PT 0 w1 N (.slice a1 N c1) (.slice a2 N c2) (.slice a3 N c3) by rw[hw1,hw0];exact(hA.ty (WZ _ _)).ty (WZ _ _));have HP:=hid (show w1.heap[g0]?=some (.cells #[.slice a1 N c1,.slice a2 N c2,.slice a3 N c3] 28 (0,0)) by rw[hw1,EO _ _ _ (by rw[hw0,←hg0];simp),hw0,←hg0];exact Av _ _);have Kh:=hid (fun e w' (hf:Kw 24 g a len cap w0 e w')=>show Kw 24 g a len cap w e w' by rw[hw0]at hf;exact Kw.al h hf);have Cs:=hid (show g<w1.heap.size from HX.out.s.lt);have HN:=hid hN;clear h hA;go_enter Tryz.func118,Tryz.ntmps118;go_upto_region 1 with fail;rw[←hw0,←hw1];clear hw1 hg0 hw0;obtain⟨⟨p0,p1,p2⟩,-⟩:=AO HP.out;go_upto_region 2 with(go_at_call 164;refine(iI.kL N (by omega) a1 a2 a3 c1 c2 c3 w1 HA1.out).mono ?_;rintro e w2 ⟨vO,vP,vC,rfl,Iz,hb2⟩;obtain⟨x1,y1,x2,y2,x3,y3,rfl,rfl,rfl⟩:=Iz.form);obtain⟨gq,Iq⟩:∃gq,w2.heap.size=gq:=⟨_,rfl⟩;obtain⟨w3,hw3⟩:∃w3,w3=w2.alloc (.cells #[.slice x1 N y1,.slice x2 N y2,.slice x3 N y3] 28):=⟨_,rfl⟩;rw[←hw3,Iq];have Bo:=hid (show Sr g a len cap w1 w3 by rw[hw3];exact(HX.out.s.below hb2).alloc _);have Ei:=hid (show PX w1.heap.size N w3 gq (.slice x1 N y1) (.slice x2 N y2) (.slice x3 N y3) by rw[hw3,←Iq];exact KJ Iz AQ hb2.size);have hne:¬gq=g0+1:=by have h1:=HX.out.s1;have h2:=Ei.out.2.1;omega
 clear Iz hb2 Iq hw3 p0 p1 p2;have HE:=hid (fun(W:World) (hS:Sr g a len cap w1 W) (hP:PX w1.heap.size N W gq (.slice x1 N y1) (.slice x2 N y2) (.slice x3 N y3))=>Kh.out _ _ (HX.out.fin hS HN.out hP.2.2));obtain⟨⟨d0,d1,d2⟩,-⟩:=AO Ei.out.1;have hgl:=Ei.out.lt;go_upto_region 4 with(go_at_call 52;refine(Ja _ g a len cap w1 _ Bo.out).mono ?_;rintro e w4 ⟨i,rfl,hi,Fw⟩;have BR:=hid (Bo.out.tr Fw);have BJ:=hid (I7 Ei.out Fw.2.2 Cs.out);clear Fw);have ALs:i≤24:=by omega
 have q1:IntKind.i64.wrap ((N:Int)-1)=(N:Int)-1:=AY _ (by omega);have q2:IntKind.i64.wrap ((N:Int)-1-(i:Int))=(N:Int)-1-(i:Int):=AY _ (by omega);have q3:IntKind.i64.wrap ((i:Int)+1)=(i:Int)+1:=AY _ (by omega);go_upto_region 5 with(go_at_call 52;refine(Ja _ g a len cap w1 _ BR.out).mono ?_;rintro e w5 ⟨k,rfl,hk,hS5⟩;have Bi:=hid (BR.out.tr hS5);have C9:=hid (I7 BJ.out hS5.2.2 Cs.out);have q4:IntKind.i64.wrap ((i:Int)+1+(k:Int))=(i:Int)+1+(k:Int):=(AY _ (by omega));clear hS5);obtain⟨j,hj⟩:∃j,i+1+k=j:=⟨_,rfl⟩;have hji:(i:Int)+1+(k:Int)=(j:Int):=by omega
 rw[hji];have HIJ:=hid (And.intro hi (And.intro hk hj));clear hi hk q4 d0 d1 d2 hgl Bo Ei BR BJ hj hji;obtain⟨⟨d0,d1,d2⟩,-⟩:=AO C9.out.1;have hgl:=C9.out.lt;by_cases uQ:N≤j
 ·have AJr:(N:Int)≤(j:Int):=by omega
  obtain⟨⟨e0,e1,e2⟩,f0,f1,f2⟩:=AO (HX.out.k Bi.out).1;have hgr:=(HX.out.k Bi.out).2;go_wp2_with fail;obtain⟨⟨z0,z1,z2⟩,-⟩:=AO (BL (x:=.slice x1 N y1) (y:=.slice x2 N y2) (z:=.slice x3 N y3) (HX.out.k Bi.out).1);exact Am (v:=.agg #[.slice x1 N y1,.slice x2 N y2,.slice x3 N y3]) (by simp[results,Tryz.results118,go_sem,z0,z1,z2]) rfl (HE.out _ Bi.out C9.out)
 ·have AJr:¬(N:Int)≤(j:Int):=by omega
  have L9:i<N:=by have:=HIJ.out.2.2;omega
  go_upto_if 33 with(go_at_call 52;refine(Ja _ g a len cap w1 _ Bi.out).mono ?_;rintro e w6 ⟨r,rfl,hr,Lm⟩;have Ac:=hid (Bi.out.tr Lm);have Bt:=hid (I7 C9.out Lm.2.2 Cs.out);clear Lm);clear d0 d1 d2 hgl hr Bi C9;have dW:j<N:=by omega
  have ALt:(i:Int)<(N:Int):=by omega
  have ALu:(j:Int)<(N:Int):=by omega
  by_cases hr0:r=0
  ·subst hr0;have AJs:=Bt;obtain⟨gp,u0,-, ep,p1,-, -, -, hrow,Jl,pl⟩:=Bt.out.2.2.2.1.at (MN L9);obtain⟨ar,cr,rfl,-⟩:=hrow.len;obtain⟨gr,curr,xr,rfl,hr1,hr2,hBr,rl⟩:=UL hrow dW;obtain⟨go,og,o,eo,ho1,ho2,TA,-⟩:=UL Bt.out.2.2.1 dW;obtain⟨o1,-, ol⟩:=KN ho1 ho2;obtain⟨⟨d0,d1,d2⟩,-⟩:=AO Bt.out.1;have hgl:=Bt.out.lt;have Ud:=hid (And.intro (Ad Cs.out Jl) (Ad Cs.out hBr));have HRR:=hid (And.intro hr1 hr2);have NL:=hid hBr;clear ho1 ho2 hr1 hr2 hrow Jl hBr TA AJs;go_wp2_with fail;go_cut [5] (fun v W=>v= .pointer (some ⟨gq,0,none⟩)∧Hid (PX w1.heap.size N W gq (.slice x1 N y1) (.slice x2 N y2) (.slice x3 N y3))∧Hid (Sr g a len cap w1 W));case first=>
    subst ep;subst eo;go_region_law
     (first|(go_simp;go_at_call 52;refine(Ja _ g a len cap w1 _ (by first|exact Ac.out|exact Sr.drew Ac.out)).mono ?_;rintro e w8 ⟨r8,rfl,-, JS⟩;have G8:w6.grownBy w8 (some g):=(by first|exact JS.2.2|exact Vr JS.2.2);have EL:=hid (show Sr g a len cap w1 w8 from Sr.next Ac.out JS.1 G8);have IG:=hid (I7 Bt.out G8 Cs.out);have p1':=(kc G8 Ud.out.1 pl i).trans p1;have pl':=Ad pl G8.size;have KI:=(kh G8 Ud.out.2 rl).trans HRR.out.1;obtain⟨k1,k2,rl'⟩:=KN KI HRR.out.2;have Qn:=hid KI;obtain⟨⟨b0,b1,b2⟩,-⟩:=AO IG.out.1;have oh:=IG.out.lt;clear JS G8 KI)|(fail))
    all_goals
     go_wp2_with fail;go_meet;exact⟨rfl,hid (PX.set1 IG.out Qn.out _),hid (EL.out.set HX.out.s NL.out _)⟩
   case rest=>
    obtain⟨rfl,Jp,EU⟩:=hcut;rename World=>w9;clear p1 pl rl o1 ol d0 d1 d2 hgl ep eo;obtain⟨⟨d0,d1,d2⟩,-⟩:=AO Jp.out.1;have hgl:=Jp.out.lt;obtain⟨⟨e0,e1,e2⟩,f0,f1,f2⟩:=AO (HX.out.k EU.out).1;have hgr:=(HX.out.k EU.out).2;go_wp2_with fail;obtain⟨⟨z0,z1,z2⟩,-⟩:=AO (BL (x:=.slice x1 N y1) (y:=.slice x2 N y2) (z:=.slice x3 N y3) (HX.out.k EU.out).1);exact Am (v:=.agg #[.slice x1 N y1,.slice x2 N y2,.slice x3 N y3]) (by simp[results,Tryz.results118,go_sem,z0,z1,z2]) rfl (HE.out _ EU.out Jp.out)
  ·have Qe:((r:Int)==0)=false:=JG.2 (by omega);go_upto_region 11 with(go_at_call 52;refine(Ja _ g a len cap w1 _ Ac.out).mono ?_;rintro e w7 ⟨m,rfl,hm,VJ⟩;have EB:=hid (Ac.out.tr VJ);have IA:=hid (I7 Bt.out VJ.2.2 Cs.out);have q4:IntKind.i64.wrap ((i:Int)+1+(m:Int))=(i:Int)+1+(m:Int):=(AY _ (by omega));clear VJ);have hmN:i+1+m<N:=by have:=HIJ.out;omega
   obtain⟨q,hq⟩:∃q,i+1+m=q:=⟨_,rfl⟩;have hqi:(i:Int)+1+(m:Int)=(q:Int):=by omega
   rw[hqi];have q5:IntKind.i64.wrap ((q:Int)-(i:Int))=(q:Int)-(i:Int):=AY _ (by omega);have q6:IntKind.i64.wrap ((q:Int)-(i:Int)-1)=(m:Int):=by rw[AY _ (by omega)];omega
   obtain⟨ln,hln⟩:∃ln,N-(i+1)=ln:=⟨_,rfl⟩;have hml:m<ln:=by omega
   have ALv:(m:Int)<(ln:Int):=by omega
   obtain⟨gc,uc,ec,s1,hcr,iW,sl⟩:=IA.out.2.2.2.2.at (Qx L9);obtain⟨ac,cc,rfl,-⟩:=hcr.form;rw[Cf]at s1 hcr;rw[hln]at s1 hcr;obtain⟨gp,u0,-, ep,p1,-, -, -, hrow,Jl,pl⟩:=hcr.at (MN hml);obtain⟨ar,cr,rfl,-⟩:=hrow.len;obtain⟨gr,curr,xr,rfl,hr1,hr2,hBr,rl⟩:=UL hrow dW;obtain⟨go,og,o,eo,ho1,ho2,TA,-⟩:=UL IA.out.2.2.1 dW;subst ep;obtain⟨o1,-, ol⟩:=KN ho1 ho2;obtain⟨⟨d0,d1,d2⟩,-⟩:=AO IA.out.1;have hgl:=IA.out.lt;have Ud:=hid (And.intro (Ad Cs.out Jl) (And.intro (Ad Cs.out hBr) (Ad Cs.out iW)));have HRR:=hid (And.intro hr1 hr2);have NL:=hid hBr;clear ho1 ho2 hr1 hr2 hrow Jl hBr TA hcr iW hm Ac Bt q4 hq hqi hln;go_upto_region 11 with fail;go_cut [5] (fun v W=>v= .pointer (some ⟨gq,0,none⟩)∧Hid (PX w1.heap.size N W gq (.slice x1 N y1) (.slice x2 N y2) (.slice x3 N y3))∧Hid (Sr g a len cap w1 W));case first=>
    subst ec;subst eo;go_region_law
     (first|(go_simp;go_at_call 52;refine(Ja _ g a len cap w1 _ (by first|exact EB.out|exact Sr.drew EB.out)).mono ?_;rintro e w8 ⟨r8,rfl,-, JS⟩;have G8:w7.grownBy w8 (some g):=(by first|exact JS.2.2|exact Vr JS.2.2);have EL:=hid (show Sr g a len cap w1 w8 from Sr.next EB.out JS.1 G8);have IG:=hid (I7 IA.out G8 Cs.out);have s1':=(kc G8 Ud.out.2.2 sl i).trans s1;have sl':=Ad sl G8.size;have p1':=(kc G8 Ud.out.1 pl m).trans p1;have pl':=Ad pl G8.size;have KI:=(kh G8 Ud.out.2.1 rl).trans HRR.out.1;obtain⟨k1,k2,rl'⟩:=KN KI HRR.out.2;have Qn:=hid KI;obtain⟨⟨b0,b1,b2⟩,-⟩:=AO IG.out.1;have oh:=IG.out.lt;clear JS G8 KI)|(fail))
    all_goals
     go_wp2_with fail;go_meet;exact⟨rfl,hid (PX.set1 IG.out Qn.out _),hid (EL.out.set HX.out.s NL.out _)⟩
   case rest=>
    obtain⟨rfl,Jp,EU⟩:=hcut;rename World=>w9;clear s1 sl p1 pl rl o1 ol d0 d1 d2 hgl ec eo q5 q6;obtain⟨⟨d0,d1,d2⟩,-⟩:=AO Jp.out.1;have hgl:=Jp.out.lt;obtain⟨⟨e0,e1,e2⟩,f0,f1,f2⟩:=AO (HX.out.k EU.out).1;have hgr:=(HX.out.k EU.out).2;go_wp2_with fail;obtain⟨⟨z0,z1,z2⟩,-⟩:=AO (BL (x:=.slice x1 N y1) (y:=.slice x2 N y2) (z:=.slice x3 N y3) (HX.out.k EU.out).1);exact Am (v:=.agg #[.slice x1 N y1,.slice x2 N y2,.slice x3 N y3]) (by simp[results,Tryz.results118,go_sem,z0,z1,z2]) rfl (HE.out _ EU.out Jp.out)
end Go.Proofs.YtlmlamcoeegkbaaGreat.SG
namespace Go.Proofs.YtlmlamcoeegkbaaGreat.Kg
open Go.RowKit Go.Proofs.YtlmlamcoeegkbaaGreat AJ Val DC CY DV DD Bv Fv YZ M0 OI OG M4 QV SG
def JM (g:Nat)(a:Option Addr)(len cap:Nat)(w:World)(e:Ending)(w':World):Prop:=∃(x1 x2 x3:Option Addr) (n1 n2 n3 y1 y2 y3:Nat),e= .returned (.agg #[.slice x1 n1 y1,.slice x2 n2 y2,.slice x3 n3 y3])∧PA w.heap.size w' (.slice x1 n1 y1) (.slice x2 n2 y2) (.slice x3 n3 y3)∧Sr g a len cap w w'
theorem JM.of {b g len cap:Nat}{a:Option Addr}{w w':World}{e:Ending}(hb:b≤100)(h:Qo.Kw b g a len cap w e w'):JM g a len cap w e w':=by
 obtain⟨N,x1,x2,x3,y1,y2,y3,hN,rfl,hp,hs⟩:=h;exact⟨_,_,_,_,_,_,_,_,_,rfl,PA.of (Ab hN hb) hp,hs⟩
theorem JM.al {g len cap:Nat}{a:Option Addr}{w w':World}{e:Ending}{o:Obj}(hw:Sr g a len cap w w)(h:JM g a len cap (w.alloc o) e w'):JM g a len cap w e w':=by
 obtain⟨x1,x2,x3,n1,n2,n3,y1,y2,y3,rfl,hp,hs⟩:=h;exact⟨_,_,_,_,_,_,_,_,_,rfl,PA.mono hp (by simp),(hw.alloc o).tr hs⟩
def Eh (B:Nat)(w:World)(g:Nat)(x y z:Value):Prop:=w.heap[g]?=some (.cells #[x,y,z] 28 (0,0))∧B≤g∧PA B w x y z
abbrev Jq (B:Nat)(w:World)(g:Nat):Prop:=∃X1 n1 Y1 X2 n2 Y2 X3 n3 Y3,Eh B w g (.slice X1 n1 Y1) (.slice X2 n2 Y2) (.slice X3 n3 Y3)
theorem Jq.of {B n g y1 y2 y3:Nat}{x1 x2 x3:Option Addr}{w:World}(hn:n≤100)(h:PX B n w g (.slice x1 n y1) (.slice x2 n y2) (.slice x3 n y3)):Jq B w g:=⟨_,_,_,_,_,_,_,_,_,h.1,h.2.1,PA.of hn h.2.2⟩
theorem PX.lt' {B:Nat}{w:World}{g:Nat}{x y z:Value}(h:Eh B w g x y z):g<w.heap.size:=(BX.1 h.1).1
theorem AAm {w:World}{g b i:Nat}{x y z u:Value}(h:w.heap[g]?=some (.cells #[x,y,z] 28 (0,0)))(hne:g≠b):(w.setCell ⟨b,i,none⟩ u).heap[g]?=some (.cells #[x,y,z] 28 (0,0)):=
 (DT w ⟨b,i,none⟩ g u hne).trans h
theorem Bh.GX {B g:Nat}{w:World}{a b c x y z:Value}(h:w.heap[g]?=some (.cells #[a,b,c] 28 (0,0))):Bh B w (((w.setCell ⟨g,0,none⟩ x).setCell ⟨g,1,none⟩ y).setCell ⟨g,2,none⟩ z):=by
 have e1:(w.setCell ⟨g,0,none⟩ x).heap[g]?=some (.cells #[x,b,c] 28 (0,0)):=Ho w g 0 _ _ _ h;have e2:((w.setCell ⟨g,0,none⟩ x).setCell ⟨g,1,none⟩ y).heap[g]?=some (.cells #[x,y,c] 28 (0,0)):=Ho _ g 1 _ _ _ e1;exact((Bh.other h (by decide) (by decide) (by decide)).trans (Bh.other e1 (by decide) (by decide) (by decide))).trans (Bh.other e2 (by decide) (by decide) (by decide))
theorem AHf {B n g b i y1 y2 y3:Nat}{x1 x2 x3:Option Addr}{w:World}{cur:Array Value}{u:Value}(hn:n≤100)(h:PX B n w g (.slice x1 n y1) (.slice x2 n y2) (.slice x3 n y3))(hb:w.heap[b]?=some (.cells cur 24 (0,0)))(hu:A1 B w u):Jq B (w.setCell ⟨b,i,none⟩ u) g:=
 ⟨_,_,_,_,_,_,_,_,_,AAm h.1 (fun e=>by rw[←e,h.1]at hb;simp at hb),h.2.1,PA.ty (PA.of hn h.2.2) (Bh.set2 hb hu)⟩
theorem Ti {B n g b i k y1 y2 y3:Nat}{x1 x2 x3:Option Addr}{w:World}{cur:Array Value}{u:Value}(hn:n≤100)(h:PX B n w g (.slice x1 n y1) (.slice x2 n y2) (.slice x3 n y3))(hb:w.heap[b]?=some (.cells cur 25 (0,0)))(hu:A2 B w k u):Jq B (w.setCell ⟨b,i,none⟩ u) g:=by
 obtain⟨K,hK⟩:=(PA.of hn h.2.2).2.2;exact⟨_,_,_,_,_,_,_,_,_,AAm h.1 (fun e=>by rw[←e,h.1]at hb;simp at hb),h.2.1,⟨_,hn,h.2.2.1.other hb (by decide)⟩,⟨_,A2.of (h.2.2.2.1.other hb (by decide) (by decide)) fun m hm=>by rw[(IQ.1 hm).2];exact hn⟩,A3.LU hb hu hK⟩
theorem AHg {B n m g c y1 y2 y3:Nat}{x1 x2 x3 o:Option Addr}{w w':World}(hn:n≤100)(hm:m≤100)(h:PX B n w g (.slice x1 n y1) (.slice x2 n y2) (.slice x3 n y3))(hb:w'.heap[g]?=w.heap[g]?)(ht:Ty B w w')(hu:R1 B w' m (.slice o m c)):Jq B (w'.setCell ⟨g,0,none⟩ (.slice o m c)) g:=by
 have hg:=hb.trans h.1;have t:=Bh.other (B:=B) (i:=0) (c:=.slice o m c) hg (by decide) (by decide) (by decide);have hA:=PA.of hn (h.2.2.ty ht);exact⟨_,_,_,_,_,_,_,_,_,Ho w' g 0 _ _ _ hg,h.2.1,t.one _ ⟨_,hm,hu⟩,hA.2.1.imp fun k h=>t.two k _ h,hA.2.2.imp fun k h=>t.three k _ h⟩
theorem Bx.XB {g len cap g0 n1 n2 n3 y1 y2 y3:Nat}{a x1 x2 x3:Option Addr}{w w1 W:World}(h:Bx g a len cap w w1 g0)(hS:Sr g a len cap w1 W)(hP:PA w1.heap.size W (.slice x1 n1 y1) (.slice x2 n2 y2) (.slice x3 n3 y3)):
  JM g a len cap w (.returned (.agg #[.slice x1 n1 y1,.slice x2 n2 y2,.slice x3 n3 y3])) (((W.setCell ⟨g0,0,none⟩ (.slice x1 n1 y1)).setCell ⟨g0,1,none⟩ (.slice x2 n2 y2)).setCell ⟨g0,2,none⟩ (.slice x3 n3 y3)):=
 ⟨_,_,_,_,_,_,_,_,_,rfl,PA.mono (PA.ty hP (Bh.GX (h.k hS).1)) (by rw[h.s1,h.z];omega),h.sr hS _ _ _⟩
theorem Tj {w w':World}{x:Int}(h:Below (w.alloc (.cells #[.int .i64 x] 2)).heap.size (w.alloc (.cells #[.int .i64 x] 2)) w'):w'.cell? ⟨w.heap.size,0,none⟩=some (.int .i64 x):=by
 rw[(AA.of_below (S:=Any) h).cell trivial (by simp),Aq _ _ _ _ _ (0,0) (Av _ _)];rfl
theorem ko (w:World)(x:Int):(w.alloc (.cells #[.int .i64 x] 2)).cell? ⟨w.heap.size,0,none⟩=some (.int .i64 x):=by
 rw[Aq _ _ _ _ _ (0,0) (Av _ _)];rfl
theorem AJt (L:List Int)(m:Nat)(hm:L.length=m)(hm2:2≤m)(U7:m≤12)(g:Nat)(a:Option Addr)(len cap:Nat)(w W V:World)(h:Sr g a len cap w W)(hV:V=W.alloc (Qo.o1 L)∨V=(W.alloc (Qo.o1 L)).drew∨V=W.drew.alloc (Qo.o1 L)):
  Calls Tryz.prog 74 #[.pointer (some ⟨g,0,none⟩),.slice (some ⟨W.heap.size,0,none⟩) m m] V fun e W'=>∃x:Int,x∈L∧e= .returned (.int .i64 x)∧CY.Src W' g a len cap∧W.grownBy W' (some g):=by
 subst hm;have key:∀V:World,AA (fun k=>k≠g) (W.alloc (Qo.o1 L)) V→Sr g a len cap w V→W.grownBy V (some g)→Calls Tryz.prog 74 #[.pointer (some ⟨g,0,none⟩),.slice (some ⟨W.heap.size,0,none⟩) L.length L.length] V fun e W'=>∃x:Int,x∈L∧e= .returned (.int .i64 x)∧CY.Src W' g a len cap∧W.grownBy W' (some g):=fun V hk hS hg=>by
  refine(y8 L _ rfl hm2 U7 V W.heap.size g a len cap ((AAc h.lt (by omega)).keep hk) hS.1 hS.2.1).mono ?_;rintro e W' ⟨x,hx,rfl,hS',hg'⟩;exact⟨x,hx,rfl,hS',UG hg hg'⟩
 rcases hV with rfl|rfl|rfl
 ·exact key _ AB (h.alloc _) (DV.kJ _ _ _)
 ·exact key _ AB.drew (h.alloc _).drew (Tf (DV.kJ _ _ _))
 ·exact key _ AB.drew (h.drew.alloc _) (Tf (DV.kJ _ _ _))
theorem jy {ops:Array Oper}{o:Oper}{a:Act}{w:World}{K:Act→World→Prop}{Q:Exit→Act→World→Prop}{E:Prop}(hgd:o.guard=none)(s x:Operand)
  (ho:o.op= .call { callee:=.builtin .append,args:= #[s,x],argTypes:= #[24,24] }) (base n g c:Nat) (v:Value) (xs:List Value) (y:Int) (hs:a.eval s=v) (hown:w.ownsRow base 2 1 v n xs)
  (hx:a.eval x= .slice (some ⟨g,0,none⟩) 1 c) (hy:w.cell? ⟨g,0,none⟩=some (.int .i64 y)) (h63:n+1≤1000000) (hbase:base≤w.heap.size)
  (h:∀v' w',w'.ownsRow base 2 1 v' (n+1) (xs++[.int .i64 y])→w.grownBy w' v.ownBlock→(∀B,Ty B w w')→K (a.put o.dst v') w'):
  if Region.wanted o (yielded ops a.tmps)=true then Oper.wp Tryz.prog o a w K Q else E:=by
 have hw:Region.wanted o (yielded ops a.tmps)=true:=by simp[Region.wanted,hgd]
 rw[CU hw];obtain⟨v',w',hr,h2,h3,h4⟩:=AAl w base o.type n v xs hown g c y hy h63 hbase;unfold Oper.wp execOp;simp only[ho,resolve,invoke,builtin,Sem.run_bind,Sem.run_pure,Tx,T9,FN,P6,hs,hx,hr];exact h v' w' h2 h3 h4
def C6 (w W:World)(n m:Nat)(v:Value):Prop:=Below w.heap.size w W∧∃us:List Value,W.ownsRow w.heap.size 24 1 v n us∧∀(i:Nat) u,us[i]?=some u→R1 w.heap.size W m u
theorem C6.alloc {w W:World}{n m:Nat}{v:Value}(h:C6 w W n m v)(o:Obj):C6 w (W.alloc o) n m v:=by
 obtain⟨hB,us,h1,h2⟩:=h;exact⟨hB.alloc hB.size _,us,BM h1 (S:=Any) ((AA.refl _ W).alloc _) (fun _ _=>trivial),fun i u hu=>(Ty.keep (S:=Any) ((AA.refl _ W).alloc _) fun _ _=>trivial).one _ _ (h2 i u hu)⟩
theorem Tu (w V:World)(n m:Nat)(a:Option Addr)(c:Nat)(hn:n≤100)(hm:m≤100)(hV:Below w.heap.size w V)(hA:R2 0 w (List.replicate n m) (.slice a n c)):
  Calls Tryz.prog 134 #[.slice a n c] V fun e W=>∃a6 c6,e= .returned (.slice a6 n c6)∧C6 w W n m (.slice a6 n c6)∧AA Any V W:=by
 refine(Zp n m hn hm a c V ((Ty.below hV).two _ _ hA)).mono ?_;rintro e W ⟨a6,c6,rfl,hr,hb⟩;obtain⟨us,h1,h2⟩:=hr.mono hV.size;rw[Cf]at h1;refine⟨a6,c6,rfl,⟨hV.trans (hb.mono hV.size),us,h1,fun i u hu=>?_⟩,AA.of_below hb⟩;obtain⟨u',e1,e2⟩:=h2 i m (MN (by have:=(Ak.1 hu).1;have:=h1.1;omega));rw[hu]at e1;injection e1 with e1;rw[e1];exact e2
theorem TR {ops:Array Oper}{o:Oper}{a:Act}{w U:World}{K:Act→World→Prop}{Q:Exit→Act→World→Prop}{E:Prop}(hgd:o.guard=none)(s x:Operand)
  (ho:o.op= .call { callee:=.builtin .append,args:= #[s,x],argTypes:= #[25,25] }) (n m gL gR:Nat) (a6:Option Addr) (c6:Nat) (hn:n≤100) (hs:a.eval s= .slice a6 n c6) (hC:C6 w U n m (.slice a6 n c6))
  (hx:a.eval x= .slice (some ⟨gL,0,none⟩) 1 1) (hL:U.heap[gL]?=some (.cells #[Ez m gR] 24 (0,0))) (hR:R1 w.heap.size U m (Ez m gR))
  (h:∀g7 c7 Co,Below w.heap.size w Co→R2 w.heap.size Co (List.replicate (n+1) m) (.slice (some ⟨g7,0,none⟩) (n+1) c7)→K (a.put o.dst (.slice (some ⟨g7,0,none⟩) (n+1) c7)) Co):
  if Region.wanted o (yielded ops a.tmps)=true then Oper.wp Tryz.prog o a U K Q else E:=by
 obtain⟨hB,us,h1,h2⟩:=hC;obtain⟨i0,hi0,hz0,hz1,hz2⟩:=CO JC;refine Ot _ hgd _ _ _ ho w.heap.size 24 i0 (.slice none 0 0) 1 24 Tryz.underlying25 hi0 hz0 hz1 hz2 rfl (by omega) (.slice a6 n c6) n us hs h1 ⟨gL,0,none⟩ 1 1 [Ez m gR] hx rfl (Ea (cs:= #[Ez m gR]) (t:=24) (fr:=(0,0)) hL) (by simp[Value.oneCell']) (by omega) (by unfold maxLen;omega) (by omega) hB.size _ rfl ?_;intro g7 c7 Co AJu ACu _ _;exact h g7 c7 Co (hB.grown ACu hB.size fun q e=>(BH h1 q e).1) (R2.push h1 h2 hR AJu ACu)
theorem Ue {w V W:World}{N:Nat}(hN:N≤100)(hk:AA Any V W)(hl:w.heap.size<V.heap.size)(h:V.heap[w.heap.size]?=(w.alloc (.cells (madeCells #[.int .i64 0] N) 2)).heap[w.heap.size]?):R1 w.heap.size W N (Ez N w.heap.size):=by
 refine⟨List.replicate N 0,by simp,?_⟩;have h1:=Own.made (B:=w.heap.size) w N AQ (by unfold maxLen;omega);unfold Own at h1;rw[Cf]at h1;refine⟨h1.1,?_⟩;rcases h1.2 with h2|⟨g,cap,cur,e,hb,hg,r⟩
 ·exact .inl h2
 ·refine .inr ⟨g,cap,cur,e,hb,?_,r⟩;have e1:=Bp Value.ownBlock e;simp[Value.ownBlock]at e1;subst e1;rw[hk.block _ trivial hl,h];exact hg
theorem AIH (B:Nat)(w:World)(n:Nat)(hB:B≤w.heap.size)(hn:n≤100):R1 B (w.alloc (.cells (madeCells #[.int .i64 0] n) 2)) n (Ez n w.heap.size):=
 ⟨List.replicate n 0,by simp,by
  have h:=Own.made (B:=B) w n hB (by unfold maxLen;omega);unfold Own at h;rw[Cf]at h;exact h⟩
theorem pJ {B n:Nat}{w w':World}{v:Value}(h:R1 B w n v)(hk:AA Any w w'):R1 B w' n v:=(Ty.keep hk fun _ _=>trivial).one _ _ h
theorem lJ {B n c:Nat}{e:TypeId}{w:World}{a:Option Addr}{us:List Value}(h:w.ownsRow B e 1 (.slice a n c) n us)(hn:0<n):∃b cur,a=some ⟨b,0,none⟩∧w.heap[b]?=some (.cells cur e (0,0))∧B≤b:=by
 rcases id h.2 with⟨h3,h4⟩|⟨g,cap,cur,h3,hB,hg,_⟩
 ·omega
 ·simp only[C8]at h3;exact⟨g,cur,h3.1,hg,hB⟩
end Go.Proofs.YtlmlamcoeegkbaaGreat.Kg
namespace Go.Proofs.YtlmlamcoeegkbaaGreat.DxF
open Go.RowKit Go.Proofs.YtlmlamcoeegkbaaGreat AJ Val DC CY DV DD Bv Fv YZ M0 OI OG M4 QV SG Kg
theorem AFv (N:Nat)(hN:N≤24)(a1 a2 a3:Option Addr)(c1 c2 c3:Nat)(g:Nat)(a:Option Addr)(len cap:Nat)(w:World)(h:Sr g a len cap w w)(hA:PT 0 w N (.slice a1 N c1) (.slice a2 N c2) (.slice a3 N c3)):
  Calls Tryz.prog 117 #[.pointer (some ⟨g,0,none⟩),.agg #[.slice a1 N c1,.slice a2 N c2,.slice a3 N c3]] w (JM g a len cap w):=by
 obtain⟨w0,hw0⟩:∃w0,w0=w.alloc (.cells #[.slice a1 N c1,.slice a2 N c2,.slice a3 N c3] 28):=⟨_,rfl⟩;obtain⟨w1,hw1⟩:∃w1,w1=w0.alloc Bu:=⟨_,rfl⟩;obtain⟨g0,hg0⟩:∃g0,w.heap.size=g0:=⟨_,rfl⟩;have HX:=hid (show Bx g a len cap w0 w1 (g0+1) by
  have:=Bx.new (Sr.here (h.alloc (.cells #[.slice a1 N c1,.slice a2 N c2,.slice a3 N c3] 28)));rw[World.size_alloc,←hw0,←hw1,hg0]at this;exact this)
 have HA1:=hid (show PT 0 w1 N (.slice a1 N c1) (.slice a2 N c2) (.slice a3 N c3) by rw[hw1,hw0];exact(hA.ty (WZ _ _)).ty (WZ _ _));have HP:=hid (show w1.heap[g0]?=some (.cells #[.slice a1 N c1,.slice a2 N c2,.slice a3 N c3] 28 (0,0)) by rw[hw1,EO _ _ _ (by rw[hw0,←hg0];simp),hw0,←hg0];exact Av _ _);have Kh:=hid (fun e w' (hf:JM g a len cap w0 e w')=>show JM g a len cap w e w' by rw[hw0]at hf;exact JM.al h hf);have Cs:=hid (show g<w1.heap.size from HX.out.s.lt);have DU:=hid (show N≤100 by omega);have ABN:=hid hN;clear h hA;go_enter Tryz.func117,Tryz.ntmps117;go_upto_region 1 with fail;rw[←hw0,←hw1];clear hw1 hg0 hw0;obtain⟨⟨p0,p1,p2⟩,-⟩:=AO HP.out;go_upto_region 2 with(go_at_call 164;refine(iI.kL N (by omega) a1 a2 a3 c1 c2 c3 w1 HA1.out).mono ?_;rintro e w2 ⟨vO,vP,vC,rfl,Iz,hb2⟩;obtain⟨x1,y1,x2,y2,x3,y3,rfl,rfl,rfl⟩:=Iz.form);obtain⟨gq,Iq⟩:∃gq,w2.heap.size=gq:=⟨_,rfl⟩;obtain⟨w3,hw3⟩:∃w3,w3=w2.alloc (.cells #[.slice x1 N y1,.slice x2 N y2,.slice x3 N y3] 28):=⟨_,rfl⟩;rw[←hw3,Iq];have Bo:=hid (show Sr g a len cap w1 w3 by rw[hw3];exact(HX.out.s.below hb2).alloc _);have Ei:=hid (show PX w1.heap.size N w3 gq (.slice x1 N y1) (.slice x2 N y2) (.slice x3 N y3) by rw[hw3,←Iq];exact KJ Iz AQ hb2.size);have Li:=hid Ei.out.2.1;have hne:¬gq=g0+1:=by have h1:=HX.out.s1;have h2:=Ei.out.2.1;omega
 clear Iz hb2 Iq hw3 p0 p1 p2;go_upto_block 0 with(go_at_call 52;refine(Ja _ g a len cap w1 _ Bo.out).mono ?_;rintro e w4 ⟨r,rfl,hr,Fw⟩;have BR:=hid (Bo.out.tr Fw);have BJ:=hid (I7 Ei.out Fw.2.2 Cs.out);clear Fw);clear Bo Ei;go_cut [5] (fun v W=>v= .pointer (some ⟨gq,0,none⟩)∧Hid (Jq w1.heap.size W gq)∧Hid (Sr g a len cap w1 W));case rest=>
  obtain⟨rfl,Jp,EU⟩:=hcut;rename World=>w9;clear BJ BR hr;obtain⟨X1,n1,Y1,X2,n2,Y2,X3,n3,Y3,hP9⟩:=Jp.out;have HP:=hid hP9;clear Jp hP9;obtain⟨⟨d0,d1,d2⟩,-⟩:=AO HP.out.1;have hgl:=PX.lt' HP.out;obtain⟨⟨e0,e1,e2⟩,f0,f1,f2⟩:=AO (HX.out.k EU.out).1;have hgr:=(HX.out.k EU.out).2;go_wp2_with fail;obtain⟨⟨z0,z1,z2⟩,-⟩:=AO (BL (x:=.slice X1 n1 Y1) (y:=.slice X2 n2 Y2) (z:=.slice X3 n3 Y3) (HX.out.k EU.out).1);exact Am (v:=.agg #[.slice X1 n1 Y1,.slice X2 n2 Y2,.slice X3 n3 Y3]) (by simp[results,Tryz.results117,go_sem,z0,z1,z2]) rfl (Kh.out _ _ (Bx.XB HX.out EU.out HP.out.2.2))
 case first=>
  have CJ:r=0∨r=1∨r=2∨r=3∨r=4∨r=5:=by omega
  obtain⟨⟨d0,d1,d2⟩,s0,s1,s2⟩:=AO BJ.out.1;have hgl:=BJ.out.lt;clear hr;rcases CJ with rfl|rfl|rfl|rfl|rfl|rfl
  ·obtain⟨l,hl,ho⟩:=BJ.out.2.2.1;have ho':=BM ho (S:=Any) ((AA.refl _ w4).alloc (.cells #[.int .i64 2] 2)) fun _ _=>trivial;have hnb:(Value.slice x1 N y1).ownBlock≠some gq:=Oe ho BJ.out.1 (by decide);clear ho;go_wp2_with (at_builtin;refine xQ rfl _ _ rfl w1.heap.size N w4.heap.size 1 (.slice x1 N y1) (vals l) 2 rfl ho' rfl (ko _ _) (by omega) (Ab BR.out.2.2.size (by simp)) ?_;intro v' w5 BF hg5 NA;obtain⟨b5,c5,rfl⟩:=FI BF;have uh:=(hg5.block gq (by simp;omega) (fun e=>hnb e.symm)).trans (EO w4 (.cells #[.int .i64 2] 2) gq hgl);obtain⟨⟨u0,u1,u2⟩,v0,v1,v2⟩:=AO (uh.trans BJ.out.1);have ACs:=(BX.1 (uh.trans BJ.out.1)).1);go_meet;refine⟨rfl,hid (AHg DU.out (by have:=DU.out;have:=ABN.out;omega) BJ.out uh ((WZ w4 _).trans (NA _)) ⟨l++[2],by simp[hl],by simpa[vals]using BF⟩),hid (((BR.out.alloc _).own HX.out.s hg5 fun q e=>(BH ho' q e).1).set HX.out.s Li.out _)⟩
  ·by_cases hN0:N=0
   ·subst hN0;have hn0:¬(0:Int)<((0:Nat):Int):=by omega
    go_wp2_with fail;go_meet;exact⟨rfl,hid (Jq.of DU.out BJ.out),BR⟩
   ·have hn0:(0:Int)<(N:Int):=by omega
    have hn1:0<N:=by omega
    obtain⟨go,og,o,rfl,ho1,ho2,TA,ol⟩:=UL BJ.out.2.2.1 hn1;have Js:=hid (And.intro ho1 (And.intro ho2 (Ad Cs.out TA)));have HBO:=hid TA;clear ho1 ho2 hN0 TA;go_upto_region 10 with fail;go_region_law
     (first|(go_simp;go_at_call 74;refine(AJt [4,1,11,0,-2] 5 rfl (by decide) (by decide) g a len cap w1 w4 _ BR.out (by first|exact .inl rfl|exact .inr (.inl rfl)|exact .inr (.inr rfl))).mono ?_;rintro e w8 ⟨x8,fE,rfl,JS,G8⟩;have EL:=hid (show Sr g a len cap w1 w8 from Sr.next BR.out JS G8);have IG:=hid (I7 BJ.out G8 Cs.out);have KI:=(kh G8 Js.out.2.2 ol).trans Js.out.1;obtain⟨k1,k2,rl'⟩:=KN KI Js.out.2.1;have Qn:=hid KI;obtain⟨⟨b0,b1,b2⟩,-⟩:=AO IG.out.1;have oh:=IG.out.lt;clear JS G8 KI fE)|(fail))
    all_goals
     go_wp2_with fail;go_meet;exact⟨rfl,hid (Jq.of DU.out (PX.set1 IG.out Qn.out _)),hid (EL.out.set HX.out.s HBO.out _)⟩
  ·by_cases hN0:N=0
   ·subst hN0;have hn0:¬(0:Int)<((0:Nat):Int):=by omega
    go_wp2_with fail;go_meet;exact⟨rfl,hid (Jq.of DU.out BJ.out),BR⟩
   ·have hn0:(0:Int)<(N:Int):=by omega
    have hn1:0<N:=by omega
    obtain⟨gp,u0,Wy,rfl,p1,pf,ph,pc,hrow,Jl,pl⟩:=BJ.out.2.2.2.1.at (MN hn1);obtain⟨ar,cr,rfl,-⟩:=hrow.len;obtain⟨lr,hlr,Xg⟩:=hrow.sl;have HOW:=hid (fun(W:World) (hk:AA Any w4 W)=>RO N (by omega) ar cr lr hlr W ((Xg.mono fun _ _=>trivial).keep hk));have EW:=hid (And.intro ph (And.intro Jl pl));have H8:=hid hN;clear hrow hlr Xg ph pc Jl hN0;go_upto_region 13 with fail;go_region_law
     (first|(go_simp;go_at_call 97;refine(HOW.out _ (by repeat(first|exact AA.refl _ _|refine AA.drew ?_|refine AA.alloc ?_ _))).mono ?_;rintro e w6 ⟨g6,c6,rfl,Al,hb6⟩;have K6:AA Any w4 w6:=(by first|exact AA.of_below hb6|exact((AA.refl _ w4).drew).trans (AA.of_below hb6)|exact((AA.refl _ w4).alloc _).trans (AA.of_below hb6)|exact(((AA.refl _ w4).drew).alloc _).trans (AA.of_below hb6)|exact(((AA.refl _ w4).alloc _).drew).trans (AA.of_below hb6));have Fy:=hid (EX (B':=w4.heap.size) Al (by simp));have Ao:=hid (show Below w4.heap.size w4 w6 from(by first|exact hb6|exact((Ag _ w4).drew).trans hb6|exact(((Ag _ w4).alloc AQ _).trans (hb6.mono (by simp)))|exact((((Ag _ w4).drew).alloc AQ _).trans (hb6.mono (by simp)))|exact((((Ag _ w4).alloc AQ _).drew).trans (hb6.mono (by simp)))));(first|have Ml:=Tj hb6|have Ml:=Tj ((AR.drew).trans hb6)|skip);have Fx:=((K6.cell trivial pl).trans p1);have pK:=Ad pl K6.size;have Cz:=BJ.out.below Ao.out;obtain⟨⟨b0,b1,b2⟩,-⟩:=AO Cz.1;have Nz:=Cz.lt;clear Cz Al hb6)|(refine jy (by rfl) _ _ (by rfl) w4.heap.size N w6.heap.size 1 (.slice (some ⟨g6,0,none⟩) N c6) (vals lr) 0 rfl (BM Fy.out (S:=Any) ((AA.refl _ w6).alloc _) fun _ _=>trivial) rfl (ko _ _) (by have:=H8.out;omega) (Ab Ao.out.size (by simp)) ?_;intro v' w7 Bz Dk Yg;obtain⟨b7,c7,rfl⟩:=FI Bz;have BK:=hid ((Ao.out.alloc Ao.out.size (.cells #[.int .i64 0] 2)).grown Dk (by have:=Ao.out.size;simp;omega) fun q e=>(BH Fy.out q e).1);have Lb:=hid (L6.R1.iC Bz (l:=lr++[0]) (by simp[vals]));have h7:=(BK.out.block gp pl).trans EW.out.1;have k1:=BP w7 gp 0 Wy _ h7;have k2:=Ad pl BK.out.size;have k3:=((AA.of_below (S:=Any) BK.out).cell trivial pl).trans p1;have DI:=BJ.out.below BK.out;obtain⟨⟨b0,b1,b2⟩,-⟩:=AO DI.1;have AJv:=DI.lt;have H7:=hid h7;clear DI Bz Dk Yg h7)|(refine jy (by rfl) _ _ (by rfl) w4.heap.size N w4.heap.size 1 (.slice (some ⟨g6,0,none⟩) N c6) (vals lr) 0 rfl Fy.out rfl Ml (by have:=H8.out;omega) Ao.out.size ?_;intro v' w7 Bz Dk Yg;obtain⟨b7,c7,rfl⟩:=FI Bz;have BK:=hid (Ao.out.grown Dk Ao.out.size fun q e=>(BH Fy.out q e).1);have Lb:=hid (L6.R1.iC Bz (l:=lr++[0]) (by simp[vals]));have h7:=(BK.out.block gp pl).trans EW.out.1;have k1:=BP w7 gp 0 Wy _ h7;have k2:=Ad pl BK.out.size;have k3:=((AA.of_below (S:=Any) BK.out).cell trivial pl).trans p1;have DI:=BJ.out.below BK.out;obtain⟨⟨b0,b1,b2⟩,-⟩:=AO DI.1;have AJv:=DI.lt;have H7:=hid h7;clear DI Bz Dk Yg h7)|(fail))
    all_goals
     go_wp2_with fail;go_meet;exact⟨rfl,hid (AHf DU.out (BJ.out.below BK.out) H7.out ⟨_,by have:=ABN.out;omega,Lb.out.mono BR.out.2.2.size⟩),hid ((BR.out.below BK.out).set HX.out.s EW.out.2.1 _)⟩
  ·by_cases hN0:N=0
   ·subst hN0;have hn0:¬(0:Int)<((0:Nat):Int):=by omega
    go_wp2_with fail;go_meet;exact⟨rfl,hid (Jq.of DU.out BJ.out),BR⟩
   ·have hn0:(0:Int)<(N:Int):=by omega
    have hn1:0<N:=by omega
    obtain⟨gp,u0,Wy,rfl,p1,pf,ph,pc,hrow,Jl,pl⟩:=BJ.out.2.2.2.1.at (MN hn1);obtain⟨ar,cr,rfl,-⟩:=hrow.len;obtain⟨gr,curr,xr,rfl,hr1,hr2,hBr,rl⟩:=UL hrow hn1;obtain⟨k1,k2,-⟩:=KN hr1 hr2;have HR1:=hid (And.intro hr1 hBr);clear hrow hr1 hr2 hBr ph pc Jl hN0;go_wp2_with fail;go_meet;exact⟨rfl,hid (Jq.of DU.out (PX.set1 BJ.out HR1.out.1 _)),hid (BR.out.set HX.out.s HR1.out.2 _)⟩
  ·by_cases hN0:N=0
   ·subst hN0;have hn0:¬(0:Int)<((0:Nat):Int):=by omega
    go_wp2_with fail;go_meet;exact⟨rfl,hid (Jq.of DU.out BJ.out),BR⟩
   ·have hn0:(0:Int)<(N:Int):=by omega
    have hn1:0<N:=by omega
    have uj:=BJ.out.2.2.2.2;obtain⟨us3,ho3,-⟩:=id uj;obtain⟨gc,uc,ec,s1,hcr,iW,sl⟩:=uj.at (Qx hn1);subst ec;have hlen:((List.range N).map fun i=>List.replicate (N-(i+1)) N).length=N:=by simp
    rw[hlen]at ho3;obtain⟨gc',Uf,ec,hc1,hc2⟩:=lJ ho3 hn1;obtain rfl:gc=gc':=by simpa using ec
    obtain⟨ac,cc,rfl,-⟩:=hcr.form;rw[Cf]at s1 hcr;obtain⟨ln,hln⟩:∃ln,N-(0+1)=ln:=⟨_,rfl⟩;rw[hln]at s1 hcr;have Cj:=hid (show ln≤100 by omega);have HA2:=hid (hcr.mono (AU _));have EW:=hid (And.intro hc1 hc2);have hmk:=fun W=>NF N (by omega) W;clear hcr iW hc1 hc2 ho3 uj ec hlen hln hN0;have AJw:¬gc=gq:=fun e=>by
     have h1:=EW.out.1;rw[e]at h1;have:=h1.symm.trans BJ.out.1;simp at this
    have AK2:¬gq=gc:=fun e=>AJw e.symm;go_upto_region 19 with fail;refine wp_region_held_drew (S:=fun w'=>w'.cell? ⟨gq,0,none⟩=some (.slice x1 N y1)∧w'.cell? ⟨gq,2,none⟩=some (.slice (some ⟨gc,0,none⟩) N y3)) (by kernel_rfl) ⟨d0,d2⟩ (fun hHeld=>?_);refine CK (i:=0) (v:=?vq1) (by simp only[BD,A9,A8];rfl) ?_ ?_ ?_ ?_ (Or.inl ⟨?_,?sI⟩) ?_ ?rq1;case sI=>(intro w hSw;(try dsimp only at hSw);go_simp;try with_reducible rfl)
    iterate 3 (kernel_rfl)
    ·exact fun _ _ _ h=>h
    ·rfl
    ·assumption
    try simp only[Act.put,BC,Az,BB]
    refine CK (i:=1) (v:=?vq2) (by simp only[BD,A9,A8];rfl) ?_ ?_ ?_ ?_ (Or.inl ⟨?_,?sJ⟩) ?_ ?rq2;case sJ=>(intro w hSw;(try dsimp only at hSw);go_simp;try with_reducible rfl)
    iterate 3 (kernel_rfl)
    ·exact fun _ _ _ h=>h
    ·rfl
    ·assumption
    try simp only[Act.put,BC,Az,BB]
    refine CK (i:=2) (v:=?vq3) (by simp only[BD,A9,A8];rfl) ?_ ?_ ?_ ?_ (Or.inl ⟨?_,?sK⟩) ?_ ?rq3;case sK=>(intro w hSw;(try dsimp only at hSw);go_simp;try with_reducible rfl)
    iterate 3 (kernel_rfl)
    ·exact fun _ _ _ h=>h
    ·rfl
    ·assumption
    try simp only[Act.put,BC,Az,BB]
    refine CK (i:=3) (v:=?vq4) (by simp only[BD,A9,A8];rfl) ?_ ?_ ?_ ?_ (Or.inl ⟨?_,?sM⟩) ?_ ?rq4;case sM=>(intro w hSw;(try dsimp only at hSw);go_simp;try with_reducible rfl)
    iterate 3 (kernel_rfl)
    ·exact fun _ _ _ h=>h
    ·rfl
    ·assumption
    try simp only[Act.put,BC,Az,BB]
    refine CK (i:=4) (v:=?vq5) (by simp only[BD,A9,A8];rfl) ?_ ?_ ?_ ?_ (Or.inl ⟨?_,?yq5⟩) ?_ ?rq5;case yq5=>(intro w hSw;(try dsimp only at hSw);go_simp;try with_reducible rfl)
    iterate 3 (kernel_rfl)
    ·exact fun _ _ _ h=>h
    ·rfl
    ·assumption
    try simp only[Act.put,BC,Az,BB]
    refine CK (i:=7) (v:=?vq6) (by simp only[BD,A9,A8];rfl) ?_ ?_ ?_ ?_ (Or.inl ⟨?_,?sN⟩) ?_ ?rq6;case sN=>(intro w hSw;(try dsimp only at hSw);go_simp;try with_reducible rfl)
    iterate 3 (kernel_rfl)
    ·exact fun _ _ _ h=>h
    ·rfl
    ·assumption
    try simp only[Act.put,BC,Az,BB]
    refine CK (i:=8) (v:=?vq7) (by simp only[BD,A9,A8];rfl) ?_ ?_ ?_ ?_ (Or.inl ⟨?_,?sO⟩) ?_ ?rq7;case sO=>(intro w hSw;(try dsimp only at hSw);go_simp;try with_reducible rfl)
    iterate 3 (kernel_rfl)
    ·exact fun _ _ _ h=>h
    ·rfl
    ·assumption
    try simp only[Act.put,BC,Az,BB]
    refine CK (i:=9) (v:=?vq8) (by simp only[BD,A9,A8];rfl) ?_ ?_ ?_ ?_ (Or.inl ⟨?_,?sP⟩) ?_ ?rq8;case sP=>(intro w hSw;(try dsimp only at hSw);go_simp;try with_reducible rfl)
    iterate 3 (kernel_rfl)
    ·exact fun _ _ _ h=>h
    ·rfl
    ·assumption
    try simp only[Act.put,BC,Az,BB]
    refine EI (rs:=[5,10]) (by kernel_rfl) (by simp) ?_;refine DY (by simp only[BD,A9,A8];rfl) (fun K hK=>?_) ?_
    ·go_simp;refine hK.out _ _ ?_ (fun Ai=>?_)
     ·first|exact⟨d0,d2⟩|exact⟨b0,b2⟩|go_keep
     clear hK K hHeld;have hHeld:=Ai;clear Ai;try simp only[Act.put,BC,Az,BB]
     refine EI (rs:=[6,10]) (by kernel_rfl) (by simp) ?_;refine DY (by simp only[BD,A9,A8];rfl) (fun K hK=>?_) ?_
     ·(go_simp;go_at_call 134;refine(Tu w4 _ ln N ac cc Cj.out DU.out (by repeat(first|with_reducible exact Ag _ _|with_reducible refine Below.drew ?_|with_reducible refine Below.alloc ?_ (by simp<;>omega) _)) HA2.out).mono ?_;rintro e w6 ⟨a6,c6,rfl,DJ,Da⟩;have MC:=hid DJ;(first|have OV:=hid (Ue (w:=w4) DU.out Da (by simp<;>omega) (by first|rfl|exact EO _ _ _ (by simp)))|skip);(first|have Qq:=(Da.block (w4.heap.size+1) trivial (by simp)).trans (show _=some (.cells #[Ez N w4.heap.size] 24 (0,0)) from new2 w4 _ _)|skip);have s6:=((AA.of_below (S:=Any) DJ.1).cell (o:=0) trivial sl).trans s1;have Yh:=Ad sl DJ.1.size;have Cz:=BJ.out.below DJ.1;obtain⟨⟨b0,b1,b2⟩,-⟩:=AO Cz.1;have Nz:=Cz.lt;clear Cz Da DJ)
      refine hK.out _ _ ?_ (fun Ai=>?_)
      ·first|exact⟨d0,d2⟩|exact⟨b0,b2⟩|go_keep
      clear hK K hHeld;have hHeld:=Ai;clear Ai;try simp only[Act.put,BC,Az,BB]
      refine EI (rs:=[10]) (by kernel_rfl) (by simp) ?_;refine DY (by simp only[BD,A9,A8];rfl) (fun K hK=>?_) ?_
      ·go_simp;refine hK.out _ _ ?_ (fun Ai=>?_)
       ·first|exact⟨d0,d2⟩|exact⟨b0,b2⟩|go_keep
       clear hK K hHeld;have hHeld:=Ai;clear Ai;try simp only[Act.put,BC,Az,BB]
       refine EI (rs:=[11]) (by kernel_rfl) (by simp) ?_;refine DY (by simp only[BD,A9,A8];rfl) (fun K hK=>?_) ?_
       ·go_simp;refine hK.out _ _ ?_ (fun Ai=>?_)
        ·first|exact⟨d0,d2⟩|exact⟨b0,b2⟩|go_keep
        clear hK K hHeld;have hHeld:=Ai;clear Ai;try simp only[Act.put,BC,Az,BB]
        refine EI (rs:=[12]) (by kernel_rfl) (by simp) ?_;refine DY (by simp only[BD,A9,A8];rfl) (fun K hK=>?_) ?_
        ·(refine TR (w:=w4) (by rfl) _ _ (by rfl) ln N (w6.heap.size+1) w6.heap.size a6 c6 Cj.out (by rfl) ((MC.out.alloc _).alloc _) (by rfl) (new2 w6 _ _) (pJ (AIH _ w6 N MC.out.1.size DU.out) (AB.alloc _)) ?_;intro gg c7 Co CF GZ;have Eo:=hid CF;have KW:=hid GZ;have t1:=BP Co gc 0 Uf _ ((CF.block gc sl).trans EW.out.1);have t2:=Ad sl CF.size;have t3:=((AA.of_below (S:=Any) CF).cell (o:=0) trivial sl).trans s1;have FO:=BJ.out.below CF;obtain⟨⟨b0,b1,b2⟩,-⟩:=AO FO.1;have Wd:=FO.lt;clear FO CF GZ)
         refine hK.out _ _ ?_ (fun Ai=>?_)
         ·first|exact⟨d0,d2⟩|exact⟨b0,b2⟩|go_keep
         clear hK K hHeld;have hHeld:=Ai;clear Ai;try simp only[Act.put,BC,Az,BB]
         refine CK (i:=13) (v:=?vq9) (by simp only[BD,A9,A8];rfl) ?_ ?_ ?_ ?_ (Or.inl ⟨?_,?yq9⟩) ?_ ?rq9;case yq9=>(intro w hSw;(try dsimp only at hSw);go_simp;try with_reducible rfl)
         iterate 3 (kernel_rfl)
         ·exact fun _ _ _ h=>h
         ·rfl
         ·assumption
         try simp only[Act.put,BC,Az,BB]
         refine EI (rs:=[14]) (by kernel_rfl) (by simp) ?_;refine DY (by simp only[BD,A9,A8];rfl) (fun K hK=>?_) ?_
         ·go_simp;refine hK.out _ _ ?_ (fun Ai=>?_)
          ·first|exact⟨d0,d2⟩|exact⟨b0,b2⟩|go_keep
          clear hK K hHeld;have hHeld:=Ai;clear Ai;try simp only[Act.put,BC,Az,BB]
          refine wpAnyH_done (by kernel_rfl) ?_ _
          (go_wp2_with fail;go_meet;exact⟨rfl,hid (Ti DU.out (BJ.out.below Eo.out) ((Eo.out.block gc sl).trans EW.out.1) (A2.of (KW.out.mono BR.out.2.2.size) fun m hm=>by rw[(IQ.1 hm).2];exact DU.out)),hid ((BR.out.below Eo.out).set HX.out.s EW.out.2 _)⟩)
         exact EH
        exact EH
       exact EH
      exact EH
     refine DY (by simp only[BD,A9,A8];rfl) (fun K hK=>?_) ?_
     ·go_simp;refine hK.out _ _ ?_ (fun Ai=>?_)
      ·first|exact⟨d0,d2⟩|exact⟨b0,b2⟩|go_keep
      clear hK K hHeld;have hHeld:=Ai;clear Ai;try simp only[Act.put,BC,Az,BB]
      refine EI (rs:=[6,11]) (by kernel_rfl) (by simp) ?_;refine DY (by simp only[BD,A9,A8];rfl) (fun K hK=>?_) ?_
      ·(go_simp;go_at_call 134;refine(Tu w4 _ ln N ac cc Cj.out DU.out (by repeat(first|with_reducible exact Ag _ _|with_reducible refine Below.drew ?_|with_reducible refine Below.alloc ?_ (by simp<;>omega) _)) HA2.out).mono ?_;rintro e w6 ⟨a6,c6,rfl,DJ,Da⟩;have MC:=hid DJ;(first|have OV:=hid (Ue (w:=w4) DU.out Da (by simp<;>omega) (by first|rfl|exact EO _ _ _ (by simp)))|skip);(first|have Qq:=(Da.block (w4.heap.size+1) trivial (by simp)).trans (show _=some (.cells #[Ez N w4.heap.size] 24 (0,0)) from new2 w4 _ _)|skip);have s6:=((AA.of_below (S:=Any) DJ.1).cell (o:=0) trivial sl).trans s1;have Yh:=Ad sl DJ.1.size;have Cz:=BJ.out.below DJ.1;obtain⟨⟨b0,b1,b2⟩,-⟩:=AO Cz.1;have Nz:=Cz.lt;clear Cz Da DJ)
       refine hK.out _ _ ?_ (fun Ai=>?_)
       ·first|exact⟨d0,d2⟩|exact⟨b0,b2⟩|go_keep
       clear hK K hHeld;have hHeld:=Ai;clear Ai;try simp only[Act.put,BC,Az,BB]
       refine EI (rs:=[11]) (by kernel_rfl) (by simp) ?_;refine DY (by simp only[BD,A9,A8];rfl) (fun K hK=>?_) ?_
       ·go_simp;refine hK.out _ _ ?_ (fun Ai=>?_)
        ·first|exact⟨d0,d2⟩|exact⟨b0,b2⟩|go_keep
        clear hK K hHeld;have hHeld:=Ai;clear Ai;try simp only[Act.put,BC,Az,BB]
        refine EI (rs:=[12]) (by kernel_rfl) (by simp) ?_;refine DY (by simp only[BD,A9,A8];rfl) (fun K hK=>?_) ?_
        ·(refine TR (w:=w4) (by rfl) _ _ (by rfl) ln N w6.heap.size w4.heap.size a6 c6 Cj.out (by rfl) (MC.out.alloc _) (by rfl) (Av w6 _) (pJ OV.out (AB.alloc _)) ?_;intro gg c7 Co CF GZ;have Eo:=hid CF;have KW:=hid GZ;have t1:=BP Co gc 0 Uf _ ((CF.block gc sl).trans EW.out.1);have t2:=Ad sl CF.size;have t3:=((AA.of_below (S:=Any) CF).cell (o:=0) trivial sl).trans s1;have FO:=BJ.out.below CF;obtain⟨⟨b0,b1,b2⟩,-⟩:=AO FO.1;have Wd:=FO.lt;clear FO CF GZ)
         refine hK.out _ _ ?_ (fun Ai=>?_)
         ·first|exact⟨d0,d2⟩|exact⟨b0,b2⟩|go_keep
         clear hK K hHeld;have hHeld:=Ai;clear Ai;try simp only[Act.put,BC,Az,BB]
         refine CK (i:=13) (v:=?AI7) (by simp only[BD,A9,A8];rfl) ?_ ?_ ?_ ?_ (Or.inl ⟨?_,?nM⟩) ?_ ?AI8;case nM=>(intro w hSw;(try dsimp only at hSw);go_simp;try with_reducible rfl)
         iterate 3 (kernel_rfl)
         ·exact fun _ _ _ h=>h
         ·rfl
         ·assumption
         try simp only[Act.put,BC,Az,BB]
         refine EI (rs:=[14]) (by kernel_rfl) (by simp) ?_;refine DY (by simp only[BD,A9,A8];rfl) (fun K hK=>?_) ?_
         ·go_simp;refine hK.out _ _ ?_ (fun Ai=>?_)
          ·first|exact⟨d0,d2⟩|exact⟨b0,b2⟩|go_keep
          clear hK K hHeld;have hHeld:=Ai;clear Ai;try simp only[Act.put,BC,Az,BB]
          refine wpAnyH_done (by kernel_rfl) ?_ _
          (go_wp2_with fail;go_meet;exact⟨rfl,hid (Ti DU.out (BJ.out.below Eo.out) ((Eo.out.block gc sl).trans EW.out.1) (A2.of (KW.out.mono BR.out.2.2.size) fun m hm=>by rw[(IQ.1 hm).2];exact DU.out)),hid ((BR.out.below Eo.out).set HX.out.s EW.out.2 _)⟩)
         exact EH
        exact EH
       exact EH
      refine DY (by simp only[BD,A9,A8];rfl) (fun K hK=>?_) ?_
      ·go_simp;refine hK.out _ _ ?_ (fun Ai=>?_)
       ·first|exact⟨d0,d2⟩|exact⟨b0,b2⟩|go_keep
       clear hK K hHeld;have hHeld:=Ai;clear Ai;try simp only[Act.put,BC,Az,BB]
       refine EI (rs:=[6]) (by kernel_rfl) (by simp) ?_;refine DY (by simp only[BD,A9,A8];rfl) (fun K hK=>?_) ?_
       ·(go_simp;go_at_call 134;refine(Tu w4 _ ln N ac cc Cj.out DU.out (by repeat(first|with_reducible exact Ag _ _|with_reducible refine Below.drew ?_|with_reducible refine Below.alloc ?_ (by simp<;>omega) _)) HA2.out).mono ?_;rintro e w6 ⟨a6,c6,rfl,DJ,Da⟩;have MC:=hid DJ;(first|have OV:=hid (Ue (w:=w4) DU.out Da (by simp<;>omega) (by first|rfl|exact EO _ _ _ (by simp)))|skip);(first|have Qq:=(Da.block (w4.heap.size+1) trivial (by simp)).trans (show _=some (.cells #[Ez N w4.heap.size] 24 (0,0)) from new2 w4 _ _)|skip);have s6:=((AA.of_below (S:=Any) DJ.1).cell (o:=0) trivial sl).trans s1;have Yh:=Ad sl DJ.1.size;have Cz:=BJ.out.below DJ.1;obtain⟨⟨b0,b1,b2⟩,-⟩:=AO Cz.1;have Nz:=Cz.lt;clear Cz Da DJ)
        refine hK.out _ _ ?_ (fun Ai=>?_)
        ·first|exact⟨d0,d2⟩|exact⟨b0,b2⟩|go_keep
        clear hK K hHeld;have hHeld:=Ai;clear Ai;try simp only[Act.put,BC,Az,BB]
        refine EI (rs:=[12]) (by kernel_rfl) (by simp) ?_;refine DY (by simp only[BD,A9,A8];rfl) (fun K hK=>?_) ?_
        ·(refine TR (w:=w4) (by rfl) _ _ (by rfl) ln N (w4.heap.size+1) w4.heap.size a6 c6 Cj.out (by rfl) MC.out (by rfl) Qq OV.out ?_;intro gg c7 Co CF GZ;have Eo:=hid CF;have KW:=hid GZ;have t1:=BP Co gc 0 Uf _ ((CF.block gc sl).trans EW.out.1);have t2:=Ad sl CF.size;have t3:=((AA.of_below (S:=Any) CF).cell (o:=0) trivial sl).trans s1;have FO:=BJ.out.below CF;obtain⟨⟨b0,b1,b2⟩,-⟩:=AO FO.1;have Wd:=FO.lt;clear FO CF GZ)
         refine hK.out _ _ ?_ (fun Ai=>?_)
         ·first|exact⟨d0,d2⟩|exact⟨b0,b2⟩|go_keep
         clear hK K hHeld;have hHeld:=Ai;clear Ai;try simp only[Act.put,BC,Az,BB]
         refine CK (i:=13) (v:=?AI9) (by simp only[BD,A9,A8];rfl) ?_ ?_ ?_ ?_ (Or.inl ⟨?_,?nN⟩) ?_ ?AJA;case nN=>(intro w hSw;(try dsimp only at hSw);go_simp;try with_reducible rfl)
         iterate 3 (kernel_rfl)
         ·exact fun _ _ _ h=>h
         ·rfl
         ·assumption
         try simp only[Act.put,BC,Az,BB]
         refine EI (rs:=[14]) (by kernel_rfl) (by simp) ?_;refine DY (by simp only[BD,A9,A8];rfl) (fun K hK=>?_) ?_
         ·go_simp;refine hK.out _ _ ?_ (fun Ai=>?_)
          ·first|exact⟨d0,d2⟩|exact⟨b0,b2⟩|go_keep
          clear hK K hHeld;have hHeld:=Ai;clear Ai;try simp only[Act.put,BC,Az,BB]
          refine wpAnyH_done (by kernel_rfl) ?_ _
          (go_wp2_with fail;go_meet;exact⟨rfl,hid (Ti DU.out (BJ.out.below Eo.out) ((Eo.out.block gc sl).trans EW.out.1) (A2.of (KW.out.mono BR.out.2.2.size) fun m hm=>by rw[(IQ.1 hm).2];exact DU.out)),hid ((BR.out.below Eo.out).set HX.out.s EW.out.2 _)⟩)
         exact EH
        exact EH
       exact EH
      exact EH
     exact EH
    refine DY (by simp only[BD,A9,A8];rfl) (fun K hK=>?_) ?_
    ·go_simp;refine hK.out _ _ ?_ (fun Ai=>?_)
     ·first|exact⟨d0,d2⟩|exact⟨b0,b2⟩|go_keep
     clear hK K hHeld;have hHeld:=Ai;clear Ai;try simp only[Act.put,BC,Az,BB]
     refine EI (rs:=[5,11]) (by kernel_rfl) (by simp) ?_;refine DY (by simp only[BD,A9,A8];rfl) (fun K hK=>?_) ?_
     ·go_simp;refine hK.out _ _ ?_ (fun Ai=>?_)
      ·first|exact⟨d0,d2⟩|exact⟨b0,b2⟩|go_keep
      clear hK K hHeld;have hHeld:=Ai;clear Ai;try simp only[Act.put,BC,Az,BB]
      refine EI (rs:=[6,11]) (by kernel_rfl) (by simp) ?_;refine DY (by simp only[BD,A9,A8];rfl) (fun K hK=>?_) ?_
      ·(go_simp;go_at_call 134;refine(Tu w4 _ ln N ac cc Cj.out DU.out (by repeat(first|with_reducible exact Ag _ _|with_reducible refine Below.drew ?_|with_reducible refine Below.alloc ?_ (by simp<;>omega) _)) HA2.out).mono ?_;rintro e w6 ⟨a6,c6,rfl,DJ,Da⟩;have MC:=hid DJ;(first|have OV:=hid (Ue (w:=w4) DU.out Da (by simp<;>omega) (by first|rfl|exact EO _ _ _ (by simp)))|skip);(first|have Qq:=(Da.block (w4.heap.size+1) trivial (by simp)).trans (show _=some (.cells #[Ez N w4.heap.size] 24 (0,0)) from new2 w4 _ _)|skip);have s6:=((AA.of_below (S:=Any) DJ.1).cell (o:=0) trivial sl).trans s1;have Yh:=Ad sl DJ.1.size;have Cz:=BJ.out.below DJ.1;obtain⟨⟨b0,b1,b2⟩,-⟩:=AO Cz.1;have Nz:=Cz.lt;clear Cz Da DJ)
       refine hK.out _ _ ?_ (fun Ai=>?_)
       ·first|exact⟨d0,d2⟩|exact⟨b0,b2⟩|go_keep
       clear hK K hHeld;have hHeld:=Ai;clear Ai;try simp only[Act.put,BC,Az,BB]
       refine EI (rs:=[11]) (by kernel_rfl) (by simp) ?_;refine DY (by simp only[BD,A9,A8];rfl) (fun K hK=>?_) ?_
       ·go_simp;refine hK.out _ _ ?_ (fun Ai=>?_)
        ·first|exact⟨d0,d2⟩|exact⟨b0,b2⟩|go_keep
        clear hK K hHeld;have hHeld:=Ai;clear Ai;try simp only[Act.put,BC,Az,BB]
        refine EI (rs:=[12]) (by kernel_rfl) (by simp) ?_;refine DY (by simp only[BD,A9,A8];rfl) (fun K hK=>?_) ?_
        ·(refine TR (w:=w4) (by rfl) _ _ (by rfl) ln N w6.heap.size w4.heap.size a6 c6 Cj.out (by rfl) (MC.out.alloc _) (by rfl) (Av w6 _) (pJ OV.out (AB.alloc _)) ?_;intro gg c7 Co CF GZ;have Eo:=hid CF;have KW:=hid GZ;have t1:=BP Co gc 0 Uf _ ((CF.block gc sl).trans EW.out.1);have t2:=Ad sl CF.size;have t3:=((AA.of_below (S:=Any) CF).cell (o:=0) trivial sl).trans s1;have FO:=BJ.out.below CF;obtain⟨⟨b0,b1,b2⟩,-⟩:=AO FO.1;have Wd:=FO.lt;clear FO CF GZ)
         refine hK.out _ _ ?_ (fun Ai=>?_)
         ·first|exact⟨d0,d2⟩|exact⟨b0,b2⟩|go_keep
         clear hK K hHeld;have hHeld:=Ai;clear Ai;try simp only[Act.put,BC,Az,BB]
         refine CK (i:=13) (v:=?ALw) (by simp only[BD,A9,A8];rfl) ?_ ?_ ?_ ?_ (Or.inl ⟨?_,?AJx⟩) ?_ ?ALx;case AJx=>(intro w hSw;(try dsimp only at hSw);go_simp;try with_reducible rfl)
         iterate 3 (kernel_rfl)
         ·exact fun _ _ _ h=>h
         ·rfl
         ·assumption
         try simp only[Act.put,BC,Az,BB]
         refine EI (rs:=[14]) (by kernel_rfl) (by simp) ?_;refine DY (by simp only[BD,A9,A8];rfl) (fun K hK=>?_) ?_
         ·go_simp;refine hK.out _ _ ?_ (fun Ai=>?_)
          ·first|exact⟨d0,d2⟩|exact⟨b0,b2⟩|go_keep
          clear hK K hHeld;have hHeld:=Ai;clear Ai;try simp only[Act.put,BC,Az,BB]
          refine wpAnyH_done (by kernel_rfl) ?_ _
          (go_wp2_with fail;go_meet;exact⟨rfl,hid (Ti DU.out (BJ.out.below Eo.out) ((Eo.out.block gc sl).trans EW.out.1) (A2.of (KW.out.mono BR.out.2.2.size) fun m hm=>by rw[(IQ.1 hm).2];exact DU.out)),hid ((BR.out.below Eo.out).set HX.out.s EW.out.2 _)⟩)
         exact EH
        exact EH
       exact EH
      refine DY (by simp only[BD,A9,A8];rfl) (fun K hK=>?_) ?_
      ·go_simp;refine hK.out _ _ ?_ (fun Ai=>?_)
       ·first|exact⟨d0,d2⟩|exact⟨b0,b2⟩|go_keep
       clear hK K hHeld;have hHeld:=Ai;clear Ai;try simp only[Act.put,BC,Az,BB]
       refine EI (rs:=[6]) (by kernel_rfl) (by simp) ?_;refine DY (by simp only[BD,A9,A8];rfl) (fun K hK=>?_) ?_
       ·(go_simp;go_at_call 134;refine(Tu w4 _ ln N ac cc Cj.out DU.out (by repeat(first|with_reducible exact Ag _ _|with_reducible refine Below.drew ?_|with_reducible refine Below.alloc ?_ (by simp<;>omega) _)) HA2.out).mono ?_;rintro e w6 ⟨a6,c6,rfl,DJ,Da⟩;have MC:=hid DJ;(first|have OV:=hid (Ue (w:=w4) DU.out Da (by simp<;>omega) (by first|rfl|exact EO _ _ _ (by simp)))|skip);(first|have Qq:=(Da.block (w4.heap.size+1) trivial (by simp)).trans (show _=some (.cells #[Ez N w4.heap.size] 24 (0,0)) from new2 w4 _ _)|skip);have s6:=((AA.of_below (S:=Any) DJ.1).cell (o:=0) trivial sl).trans s1;have Yh:=Ad sl DJ.1.size;have Cz:=BJ.out.below DJ.1;obtain⟨⟨b0,b1,b2⟩,-⟩:=AO Cz.1;have Nz:=Cz.lt;clear Cz Da DJ)
        refine hK.out _ _ ?_ (fun Ai=>?_)
        ·first|exact⟨d0,d2⟩|exact⟨b0,b2⟩|go_keep
        clear hK K hHeld;have hHeld:=Ai;clear Ai;try simp only[Act.put,BC,Az,BB]
        refine EI (rs:=[12]) (by kernel_rfl) (by simp) ?_;refine DY (by simp only[BD,A9,A8];rfl) (fun K hK=>?_) ?_
        ·(refine TR (w:=w4) (by rfl) _ _ (by rfl) ln N (w4.heap.size+1) w4.heap.size a6 c6 Cj.out (by rfl) MC.out (by rfl) Qq OV.out ?_;intro gg c7 Co CF GZ;have Eo:=hid CF;have KW:=hid GZ;have t1:=BP Co gc 0 Uf _ ((CF.block gc sl).trans EW.out.1);have t2:=Ad sl CF.size;have t3:=((AA.of_below (S:=Any) CF).cell (o:=0) trivial sl).trans s1;have FO:=BJ.out.below CF;obtain⟨⟨b0,b1,b2⟩,-⟩:=AO FO.1;have Wd:=FO.lt;clear FO CF GZ)
         refine hK.out _ _ ?_ (fun Ai=>?_)
         ·first|exact⟨d0,d2⟩|exact⟨b0,b2⟩|go_keep
         clear hK K hHeld;have hHeld:=Ai;clear Ai;try simp only[Act.put,BC,Az,BB]
         refine CK (i:=13) (v:=?ALy) (by simp only[BD,A9,A8];rfl) ?_ ?_ ?_ ?_ (Or.inl ⟨?_,?AJy⟩) ?_ ?ALz;case AJy=>(intro w hSw;(try dsimp only at hSw);go_simp;try with_reducible rfl)
         iterate 3 (kernel_rfl)
         ·exact fun _ _ _ h=>h
         ·rfl
         ·assumption
         try simp only[Act.put,BC,Az,BB]
         refine EI (rs:=[14]) (by kernel_rfl) (by simp) ?_;refine DY (by simp only[BD,A9,A8];rfl) (fun K hK=>?_) ?_
         ·go_simp;refine hK.out _ _ ?_ (fun Ai=>?_)
          ·first|exact⟨d0,d2⟩|exact⟨b0,b2⟩|go_keep
          clear hK K hHeld;have hHeld:=Ai;clear Ai;try simp only[Act.put,BC,Az,BB]
          refine wpAnyH_done (by kernel_rfl) ?_ _
          (go_wp2_with fail;go_meet;exact⟨rfl,hid (Ti DU.out (BJ.out.below Eo.out) ((Eo.out.block gc sl).trans EW.out.1) (A2.of (KW.out.mono BR.out.2.2.size) fun m hm=>by rw[(IQ.1 hm).2];exact DU.out)),hid ((BR.out.below Eo.out).set HX.out.s EW.out.2 _)⟩)
         exact EH
        exact EH
       exact EH
      exact EH
     refine DY (by simp only[BD,A9,A8];rfl) (fun K hK=>?_) ?_
     ·go_simp;refine hK.out _ _ ?_ (fun Ai=>?_)
      ·first|exact⟨d0,d2⟩|exact⟨b0,b2⟩|go_keep
      clear hK K hHeld;have hHeld:=Ai;clear Ai;try simp only[Act.put,BC,Az,BB]
      refine EI (rs:=[5]) (by kernel_rfl) (by simp) ?_;refine DY (by simp only[BD,A9,A8];rfl) (fun K hK=>?_) ?_
      ·go_simp;refine hK.out _ _ ?_ (fun Ai=>?_)
       ·first|exact⟨d0,d2⟩|exact⟨b0,b2⟩|go_keep
       clear hK K hHeld;have hHeld:=Ai;clear Ai;try simp only[Act.put,BC,Az,BB]
       refine EI (rs:=[6]) (by kernel_rfl) (by simp) ?_;refine DY (by simp only[BD,A9,A8];rfl) (fun K hK=>?_) ?_
       ·(go_simp;go_at_call 134;refine(Tu w4 _ ln N ac cc Cj.out DU.out (by repeat(first|with_reducible exact Ag _ _|with_reducible refine Below.drew ?_|with_reducible refine Below.alloc ?_ (by simp<;>omega) _)) HA2.out).mono ?_;rintro e w6 ⟨a6,c6,rfl,DJ,Da⟩;have MC:=hid DJ;(first|have OV:=hid (Ue (w:=w4) DU.out Da (by simp<;>omega) (by first|rfl|exact EO _ _ _ (by simp)))|skip);(first|have Qq:=(Da.block (w4.heap.size+1) trivial (by simp)).trans (show _=some (.cells #[Ez N w4.heap.size] 24 (0,0)) from new2 w4 _ _)|skip);have s6:=((AA.of_below (S:=Any) DJ.1).cell (o:=0) trivial sl).trans s1;have Yh:=Ad sl DJ.1.size;have Cz:=BJ.out.below DJ.1;obtain⟨⟨b0,b1,b2⟩,-⟩:=AO Cz.1;have Nz:=Cz.lt;clear Cz Da DJ)
        refine hK.out _ _ ?_ (fun Ai=>?_)
        ·first|exact⟨d0,d2⟩|exact⟨b0,b2⟩|go_keep
        clear hK K hHeld;have hHeld:=Ai;clear Ai;try simp only[Act.put,BC,Az,BB]
        refine EI (rs:=[12]) (by kernel_rfl) (by simp) ?_;refine DY (by simp only[BD,A9,A8];rfl) (fun K hK=>?_) ?_
        ·(refine TR (w:=w4) (by rfl) _ _ (by rfl) ln N (w4.heap.size+1) w4.heap.size a6 c6 Cj.out (by rfl) MC.out (by rfl) Qq OV.out ?_;intro gg c7 Co CF GZ;have Eo:=hid CF;have KW:=hid GZ;have t1:=BP Co gc 0 Uf _ ((CF.block gc sl).trans EW.out.1);have t2:=Ad sl CF.size;have t3:=((AA.of_below (S:=Any) CF).cell (o:=0) trivial sl).trans s1;have FO:=BJ.out.below CF;obtain⟨⟨b0,b1,b2⟩,-⟩:=AO FO.1;have Wd:=FO.lt;clear FO CF GZ)
         refine hK.out _ _ ?_ (fun Ai=>?_)
         ·first|exact⟨d0,d2⟩|exact⟨b0,b2⟩|go_keep
         clear hK K hHeld;have hHeld:=Ai;clear Ai;try simp only[Act.put,BC,Az,BB]
         refine CK (i:=13) (v:=?AL0) (by simp only[BD,A9,A8];rfl) ?_ ?_ ?_ ?_ (Or.inl ⟨?_,?AJz⟩) ?_ ?AL1;case AJz=>(intro w hSw;(try dsimp only at hSw);go_simp;try with_reducible rfl)
         iterate 3 (kernel_rfl)
         ·exact fun _ _ _ h=>h
         ·rfl
         ·assumption
         try simp only[Act.put,BC,Az,BB]
         refine EI (rs:=[14]) (by kernel_rfl) (by simp) ?_;refine DY (by simp only[BD,A9,A8];rfl) (fun K hK=>?_) ?_
         ·go_simp;refine hK.out _ _ ?_ (fun Ai=>?_)
          ·first|exact⟨d0,d2⟩|exact⟨b0,b2⟩|go_keep
          clear hK K hHeld;have hHeld:=Ai;clear Ai;try simp only[Act.put,BC,Az,BB]
          refine wpAnyH_done (by kernel_rfl) ?_ _
          (go_wp2_with fail;go_meet;exact⟨rfl,hid (Ti DU.out (BJ.out.below Eo.out) ((Eo.out.block gc sl).trans EW.out.1) (A2.of (KW.out.mono BR.out.2.2.size) fun m hm=>by rw[(IQ.1 hm).2];exact DU.out)),hid ((BR.out.below Eo.out).set HX.out.s EW.out.2 _)⟩)
         exact EH
        exact EH
       exact EH
      exact EH
     exact EH
    exact EH
  ·go_upto_region 4 with(go_at_call 96;refine(Zr [7,7,7,7] 4 rfl (by decide) _).mono ?_;rintro e w6 ⟨M,X1,X2,X3,Y1,Y2,Y3,hM,rfl,hp,hb⟩;have Ao:=hid (show Below w4.heap.size w4 w6 from((Ag _ w4).alloc AQ _).trans (hb.mono (by simp)));have Bt:=hid (show PT w1.heap.size w6 M (.slice X1 M Y1) (.slice X2 M Y2) (.slice X3 M Y3) from hp.mono (Ab BR.out.2.2.size (by simp)));have Sw:=BJ.out.below Ao.out;obtain⟨⟨u0,u1,u2⟩,v0,v1,v2⟩:=AO Sw.1;have Nz:=Sw.lt;have HM7:=hid hM;clear hp hb hM Sw);have DI:=hid (PX.BL (BJ.out.below Ao.out).1 Li.out Bt.out);have EB:=hid ((BR.out.below Ao.out).LU HX.out.s Li.out (.slice X1 M Y1) (.slice X2 M Y2) (.slice X3 M Y3));obtain⟨w7,hw7⟩:∃w7,w7=(((w6.setCell ⟨gq,0,none⟩ (.slice X1 M Y1)).setCell ⟨gq,1,none⟩ (.slice X2 M Y2)).setCell ⟨gq,2,none⟩ (.slice X3 M Y3)):=⟨_,rfl⟩;rw[←hw7]at DI EB ⊢;clear hw7 d0 d1 d2 s0 s1 s2 hgl u0 u1 u2 v0 v1 v2 Nz;go_upto_if 14 with(go_at_call 52;refine(Ja _ g a len cap w1 _ EB.out).mono ?_;rintro e w8 ⟨r,rfl,hr,JS⟩;have EL:=hid (EB.out.tr JS);have Dv:=hid (I7 DI.out JS.2.2 Cs.out);clear JS);by_cases hr0:r=0
   ·subst hr0;go_wp2_with (go_at_call 96;refine(Zr [2,2,2,2,2,2,2] 7 rfl (by decide) _).mono ?_;rintro e w9 ⟨K,Z1,Z2,Z3,V1,V2,V3,hK,rfl,hp,hb⟩;have MB:=hid (show Below w8.heap.size w8 w9 from((Ag _ w8).alloc AQ _).trans (hb.mono (by simp)));have Jp:=hid (show PT w1.heap.size w9 K (.slice Z1 K V1) (.slice Z2 K V2) (.slice Z3 K V3) from hp.mono (Ab EL.out.2.2.size (by simp)));have uk:=Dv.out.below MB.out;obtain⟨⟨u0,u1,u2⟩,v0,v1,v2⟩:=AO uk.1;have AL2:=uk.lt;have Yi:=hid hK;clear hp hb hK uk);go_meet;exact⟨rfl,hid (Jq.of (Ab Yi.out (by decide)) (PX.BL (Dv.out.below MB.out).1 Li.out Jp.out)),hid ((EL.out.below MB.out).LU HX.out.s Li.out _ _ _)⟩
   ·have Qe:((r:Int)==0)=false:=JG.2 (by omega);go_wp2_with fail;go_meet;exact⟨rfl,hid (Jq.of (Ab HM7.out (by decide)) Dv.out),EL⟩
end Go.Proofs.YtlmlamcoeegkbaaGreat.DxF
