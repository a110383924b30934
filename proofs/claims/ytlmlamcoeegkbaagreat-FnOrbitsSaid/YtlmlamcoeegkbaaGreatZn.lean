import Derived.Test.YtlmlamcoeegkbaaGreatZ0
import Derived.Test.YtlmlamcoeegkbaaGreatZm
import Derived.Test.YtlmlamcoeegkbaaGreatZg
/-
  Lemmas for the law FnOrbits, in short spelling.
-/
open Go.Lib (hid)
set_option linter.unusedVariables false
set_option linter.unusedSimpArgs false
set_option maxRecDepth 100000
set_option maxHeartbeats 40000000
namespace Go.Proofs.YtlmlamcoeegkbaaGreat.DxB
open Go.RowKit Go.Proofs.YtlmlamcoeegkbaaGreat Tow CyA CyB CyC DwT DwB DwD DwK DwS DwU DwW DwX DwZ DxA DxF
theorem draw_any (lim:Int)(g:Nat)(a:Option Addr)(len cap:Nat)(w:World)(h:Sr g a len cap w w):Calls Tryz.prog 64 #[.pointer (some ⟨g,0,none⟩),.int .i64 lim] w (PaS g a len cap w):=by
 obtain⟨w1,hw1⟩:∃w1,w1=w.alloc zbox:=⟨_,rfl⟩;obtain⟨g0,hg0⟩:∃g0,w.heap.size=g0:=⟨_,rfl⟩;have HX:=hid (show Bx g a len cap w w1 g0 by rw[hw1,←hg0];exact Bx.new h);have HG1:=hid (show g<w1.heap.size from HX.out.s.lt);clear h;go_enter Tryz.func64,Tryz.ntmps64;go_upto_region 1 with fail;rw[←hw1];clear hw1 hg0;go_upto_region 2 with(go_at_call 99;refine(grp_any lim g a len cap w1 HX.out.s).mono ?_;rintro e w2 ⟨N,x1,x2,x3,y1,y2,y3,hN,rfl,hp,hs⟩);obtain⟨gp,hgp⟩:∃gp,w2.heap.size=gp:=⟨_,rfl⟩;obtain⟨w3,hw3⟩:∃w3,w3=w2.alloc (.cells #[.slice x1 N y1,.slice x2 N y2,.slice x3 N y3] 28):=⟨_,rfl⟩;rw[←hw3,hgp];have HS3:=hid (show Sr g a len cap w1 w3 by rw[hw3];exact hs.alloc _);have HP3:=hid (show PX w1.heap.size N w3 gp (.slice x1 N y1) (.slice x2 N y2) (.slice x3 N y3) by rw[hw3,←hgp];exact box_new hp zqN hs.2.2.size);have hne:¬gp=g0:=by have h1:=HX.out.s1;have h2:=HP3.out.2.1;omega
 clear hp hs hgp hw3;go_upto_block 0 with(go_at_call 52;refine(nx_any _ g a len cap w1 _ HS3.out).mono ?_;rintro e w4 ⟨r,rfl,hr,hS4⟩;have HS4:=hid (HS3.out.tr hS4);have HP4:=hid (pxgrown HP3.out hS4.2.2 HG1.out);clear hS4);clear HS3 HP3;have HA4:=hid (HP4.out.2.2.mono (zq4 _));obtain⟨⟨d0,d1,d2⟩,-⟩:=row3f HP4.out.1;have hgl:=HP4.out.lt;by_cases hr0:r=0
 ·subst hr0;go_wp2_with (go_at_call 117;refine(bend_any N hN x1 x2 x3 y1 y2 y3 g a len cap w4 (Sr.here HS4.out) HA4.out).mono ?_;rintro e w6 ⟨X1,X2,X3,n1,n2,n3,Y1,Y2,Y3,rfl,hp,hs⟩;have HS6:=hid (HS4.out.tr hs);have HP6:=hid (PA.mono hp HS4.out.2.2.size);obtain⟨⟨e0,e1,e2⟩,f0,f1,f2⟩:=row3f (HX.out.k HS6.out).1;have hgr:=(HX.out.k HS6.out).2;clear hp hs);obtain⟨⟨z0,z1,z2⟩,-⟩:=row3f (put3 (x:=.slice X1 n1 Y1) (y:=.slice X2 n2 Y2) (z:=.slice X3 n3 Y3) (HX.out.k HS6.out).1);exact zq12 (v:=.agg #[.slice X1 n1 Y1,.slice X2 n2 Y2,.slice X3 n3 Y3]) (by simp[results,Tryz.results64,go_sem,z0,z1,z2]) rfl (Bx.finA HX.out HS6.out HP6.out)
 by_cases hr1:r=1∨r=2
 ·rcases hr1 with rfl|rfl;all_goals
   go_wp2_with (go_at_call 118;refine(turn_any N hN x1 x2 x3 y1 y2 y3 g a len cap w4 (Sr.here HS4.out) HA4.out).mono ?_;rintro e w6 ⟨M,X1,X2,X3,Y1,Y2,Y3,hM,rfl,hp,hs⟩;have HS6:=hid (HS4.out.tr hs);have HP6:=hid (PA.mono (PA.of (zq11 hM (by decide)) hp) HS4.out.2.2.size);obtain⟨⟨e0,e1,e2⟩,f0,f1,f2⟩:=row3f (HX.out.k HS6.out).1;have hgr:=(HX.out.k HS6.out).2;clear hp hs);obtain⟨⟨z0,z1,z2⟩,-⟩:=row3f (put3 (x:=.slice X1 M Y1) (y:=.slice X2 M Y2) (z:=.slice X3 M Y3) (HX.out.k HS6.out).1);exact zq12 (v:=.agg #[.slice X1 M Y1,.slice X2 M Y2,.slice X3 M Y3]) (by simp[results,Tryz.results64,go_sem,z0,z1,z2]) rfl (Bx.finA HX.out HS6.out HP6.out)
 ·have h0:((r:Int)==0)=false:=zq79.2 (by omega);have h1:((r:Int)==1)=false:=zq79.2 (by omega);have h2:((r:Int)==2)=false:=zq79.2 (by omega);obtain⟨⟨e0,e1,e2⟩,f0,f1,f2⟩:=row3f (HX.out.k HS4.out).1;have hgr:=(HX.out.k HS4.out).2;clear hr hr0 hr1;go_wp2_with fail;obtain⟨⟨z0,z1,z2⟩,-⟩:=row3f (put3 (x:=.slice x1 N y1) (y:=.slice x2 N y2) (z:=.slice x3 N y3) (HX.out.k HS4.out).1);exact zq12 (v:=.agg #[.slice x1 N y1,.slice x2 N y2,.slice x3 N y3]) (by simp[results,Tryz.results64,go_sem,z0,z1,z2]) rfl (Bx.finA HX.out HS4.out (PA.of (zq11 hN (by decide)) HP4.out.2.2))
end Go.Proofs.YtlmlamcoeegkbaaGreat.DxB
namespace Go.Proofs.YtlmlamcoeegkbaaGreat.DxG
open Go.RowKit Go.Proofs.YtlmlamcoeegkbaaGreat Tow CyA DwT DwB DwW DwP
theorem ch_list {α:Type}{n:Nat}{R:Nat→α→Prop}(h:∀i:Fin n,∃x,R i.1 x):∃xs:List α,xs.length=n∧∀(i:Nat) x,xs[i]?=some x→R i x:=
 ⟨(List.finRange n).map fun i=>Classical.choose (h i),by simp,fun i x hx=>by
  obtain⟨hi,rfl⟩:=fin_at _ hx;exact zq86 (h ⟨i,hi⟩)⟩
theorem A1.sl {B:Nat}{w:World}{v:Value}(h:A1 B w v):∃l:List Int,SlI (fun k=>B≤k) w v l:=by
 obtain⟨n,_,h⟩:=h;obtain⟨l,_,h⟩:=h.sl;exact⟨l,h⟩
theorem A2.sl {B k:Nat}{w:World}{v:Value}(h:A2 B w k v):∃l:List (List Int),Sl2 (fun k=>B≤k) w v l:=by
 obtain⟨us,h1,h2,h3⟩:=h;obtain⟨xs,hl,hx⟩:=ch_list (R:=fun i x=>∃u,us[i]?=some u∧SlI (fun k=>B≤k) w u x) fun i:Fin k=>by
  have hi:i.1<us.length:=by rw[h1];exact i.2
  obtain⟨l,h4⟩:=A1.sl (h3 i.1 _ (zq0 hi));exact⟨l,_,zq0 hi,h4⟩
 exact⟨xs,own_slg h2 xs hl hx⟩
theorem A3.sl {B:Nat}{K:List Nat}{w:World}{v:Value}(h:A3 B w K v):∃l:List (List (List Int)),Sl3 (fun k=>B≤k) w v l:=by
 obtain⟨us,h1,h2,h3⟩:=h;obtain⟨xs,hl,hx⟩:=ch_list (R:=fun i x=>∃u,us[i]?=some u∧Sl2 (fun k=>B≤k) w u x) fun i:Fin K.length=>by
  have hi:i.1<us.length:=by rw[h1];exact i.2
  obtain⟨l,h4⟩:=A2.sl (h3 i.1 _ _ (zq0 hi) (zq0 i.2));exact⟨l,_,zq0 hi,h4⟩
 exact⟨xs,own_slg h2 xs hl hx⟩
theorem pa_val {B:Nat}{w:World}{vO vP vC:Value}(h:PA B w vO vP vC):∃P:Pres,ValP (fun k=>B≤k) w vO vP vC P:=by
 obtain⟨h1,⟨k,h2⟩,⟨K,h3⟩⟩:=h;obtain⟨a,h1⟩:=A1.sl h1;obtain⟨b,h2⟩:=A2.sl h2;obtain⟨c,h3⟩:=A3.sl h3;exact⟨⟨a,b,c⟩,h1,h2,h3⟩
end Go.Proofs.YtlmlamcoeegkbaaGreat.DxG
