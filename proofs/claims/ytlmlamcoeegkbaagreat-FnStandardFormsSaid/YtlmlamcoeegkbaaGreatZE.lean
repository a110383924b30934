import Derived.Test.YtlmlamcoeegkbaaGreatZ0
import Derived.Test.YtlmlamcoeegkbaaGreatZD
import Derived.Test.YtlmlamcoeegkbaaGreatZn
import Derived.Test.YtlmlamcoeegkbaaGreatZC
import Derived.Test.YtlmlamcoeegkbaaGreatZz
/-
  Lemmas for the law FnStandardForms, in short spelling.
-/
open Go.Lib (hid)
set_option linter.unusedVariables false
set_option linter.unusedSimpArgs false
set_option maxRecDepth 100000
set_option maxHeartbeats 40000000
namespace Go.Proofs.YtlmlamcoeegkbaaGreat.ru
open Go.RowKit Go.Proofs.YtlmlamcoeegkbaaGreat AJ Cg CV DC CY DV DD Bv Fv M0 OI OG M4 QV SG Kg fI DxD
def SL (g:Nat)(a:Option Addr)(len cap:Nat)(w:World)(e:Ending)(w':World):Prop:=∃(x1 x2 x3 u1 u2 u3:Option Addr) (n1 n2 n3 y1 y2 y3 m1 m2 m3 v1 v2 v3:Nat),e= .returned (.tuple #[.agg #[.slice x1 n1 y1,.slice x2 n2 y2,.slice x3 n3 y3],.agg #[.slice u1 m1 v1,.slice u2 m2 v2,.slice u3 m3 v3]])∧PA w.heap.size w' (.slice x1 n1 y1) (.slice x2 n2 y2) (.slice x3 n3 y3)∧PA w.heap.size w' (.slice u1 m1 v1) (.slice u2 m2 v2) (.slice u3 m3 v3)∧Sr g a len cap w w'
theorem Eh.grown {B gx g:Nat}{w w':World}{x y z:Value}(h:Eh B w gx x y z)(hg:w.grownBy w' (some g))(hb:g<B):Eh B w' gx x y z:=
 ⟨(hg.block gx (BX.1 h.1).1 (fun e=>by injection e with e;have:=h.2.1;omega)).trans h.1,h.2.1,PA.ty h.2.2 (Bh.keep (S:=fun k=>k≠g) (kg hg) fun k hk e=>by omega)⟩
theorem Eh.BL {B gx:Nat}{w:World}{x y z x' y' z':Value}(h:Eh B w gx x y z)(hp:PA B w x' y' z'):Eh B (((w.setCell ⟨gx,0,none⟩ x').setCell ⟨gx,1,none⟩ y').setCell ⟨gx,2,none⟩ z') gx x' y' z':=
 ⟨Bv.BL h.1,h.2.1,PA.ty hp (Bh.GX h.1)⟩
theorem Eh.AI5 {B gx gy:Nat}{w:World}{x y z a b c x' y' z':Value}(h:Eh B w gx x y z)(hy:w.heap[gy]?=some (.cells #[a,b,c] 28 (0,0)))(hne:¬gx=gy):Eh B (((w.setCell ⟨gy,0,none⟩ x').setCell ⟨gy,1,none⟩ y').setCell ⟨gy,2,none⟩ z') gx x y z:=
 ⟨by rw[DT _ ⟨gy,2,none⟩ _ _ (by exact hne),DT _ ⟨gy,1,none⟩ _ _ (by exact hne),DT _ ⟨gy,0,none⟩ _ _ (by exact hne)];exact h.1,h.2.1,PA.ty h.2.2 (Bh.GX hy)⟩
theorem Eh.below {B gx:Nat}{w w':World}{x y z:Value}(h:Eh B w gx x y z)(hb:Below w.heap.size w w'):Eh B w' gx x y z:=
 ⟨(hb.block gx (PX.lt' h)).trans h.1,h.2.1,PA.ty h.2.2 (Bh.keep (S:=Any) (AA.of_below hb) fun _ _=>trivial)⟩
theorem SL.dr {g len cap:Nat}{a:Option Addr}{w w':World}{e:Ending}(h:SL g a len cap w e w'):SL g a len cap w e w'.drew:=by
 obtain⟨x1,x2,x3,u1,u2,u3,n1,n2,n3,y1,y2,y3,m1,m2,m3,v1,v2,v3,e,hp,hq,hs⟩:=h;have ht:∀B,Bh B w' w'.drew:=fun B=>Bh.keep (S:=Any) (AA.refl _ w').drew fun _ _=>trivial;exact⟨x1,x2,x3,u1,u2,u3,n1,n2,n3,y1,y2,y3,m1,m2,m3,v1,v2,v3,e,PA.ty hp (ht _),PA.ty hq (ht _),hs.drew⟩
theorem cZ {W:World}{g h:Nat}{t:TypeId}{a b c a' b' c' x y z x' y' z':Value}(hg:W.heap[g]?=some (.cells #[a,b,c] t (0,0)))(hh:W.heap[h]?=some (.cells #[a',b',c'] t (0,0)))(hne:¬g=h):
  ((((((W.setCell ⟨g,0,none⟩ x).setCell ⟨g,1,none⟩ y).setCell ⟨g,2,none⟩ z).setCell ⟨h,0,none⟩ x').setCell ⟨h,1,none⟩ y').setCell ⟨h,2,none⟩ z').heap[g]?=some (.cells #[x,y,z] t (0,0))∧
  ((((((W.setCell ⟨g,0,none⟩ x).setCell ⟨g,1,none⟩ y).setCell ⟨g,2,none⟩ z).setCell ⟨h,0,none⟩ x').setCell ⟨h,1,none⟩ y').setCell ⟨h,2,none⟩ z').heap[h]?=some (.cells #[x',y',z'] t (0,0)):=by
 have hne':¬h=g:=fun e=>hne e.symm;refine⟨?_,Bv.BL (a:=a') (b:=b') (c:=c') ?_⟩
 ·rw[DT _ ⟨h,2,none⟩ _ _ (by exact hne),DT _ ⟨h,1,none⟩ _ _ (by exact hne),DT _ ⟨h,0,none⟩ _ _ (by exact hne)];exact Bv.BL hg
 ·rw[DT _ ⟨g,2,none⟩ _ _ (by exact hne'),DT _ ⟨g,1,none⟩ _ _ (by exact hne'),DT _ ⟨g,0,none⟩ _ _ (by exact hne')];exact hh
theorem AGM (g:Nat)(a:Option Addr)(len cap:Nat)(w:World)(h:Sr g a len cap w w)
  (HDR:∀(lim:Int) W,Sr g a len cap W W→Calls Tryz.prog 64 #[.pointer (some ⟨g,0,none⟩),.int .i64 lim] W (JM g a len cap W)):
  Calls Tryz.prog 30 #[.pointer (some ⟨g,0,none⟩)] w (SL g a len cap w):=by
 have HDR:=hid HDR;obtain⟨w0,hw0⟩:∃w0,w0=w.alloc Bu:=⟨_,rfl⟩;obtain⟨w1,hw1⟩:∃w1,w1=w0.alloc Bu:=⟨_,rfl⟩;obtain⟨g0,hg0⟩:∃g0,w.heap.size=g0:=⟨_,rfl⟩;have HX:=hid (show Bx g a len cap w w0 g0 by rw[hw0,←hg0];exact Bx.new h);have HY:=hid (show Bx g a len cap w0 w1 (g0+1) by have:=Bx.new HX.out.s;rw[HX.out.s1,←hw1]at this;exact this);have HK:=hid (fun(W:World) (hS:Sr g a len cap w1 W)=>And.intro (HX.out.k (HY.out.sw.tr hS)) (HY.out.k hS));have Cs:=hid (show g<w1.heap.size from HY.out.s.lt);have HF:=hid (fun(W:World) (hS:Sr g a len cap w1 W) (x1 x2 x3 u1 u2 u3:Option Addr) (n1 n2 n3 y1 y2 y3 m1 m2 m3 v1 v2 v3:Nat) (hP:PA w1.heap.size W (.slice x1 n1 y1) (.slice x2 n2 y2) (.slice x3 n3 y3)) (hQ:PA w1.heap.size W (.slice u1 m1 v1) (.slice u2 m2 v2) (.slice u3 m3 v3))=>
  show SL g a len cap w (.returned (.tuple #[.agg #[.slice x1 n1 y1,.slice x2 n2 y2,.slice x3 n3 y3],.agg #[.slice u1 m1 v1,.slice u2 m2 v2,.slice u3 m3 v3]])) ((((((W.setCell ⟨g0,0,none⟩ (.slice x1 n1 y1)).setCell ⟨g0,1,none⟩ (.slice x2 n2 y2)).setCell ⟨g0,2,none⟩ (.slice x3 n3 y3)).setCell ⟨g0+1,0,none⟩ (.slice u1 m1 v1)).setCell ⟨g0+1,1,none⟩ (.slice u2 m2 v2)).setCell ⟨g0+1,2,none⟩ (.slice u3 m3 v3)) from by
  have hS0:=HY.out.sw.tr hS;have t1:=Bh.GX (B:=w1.heap.size) (x:=.slice x1 n1 y1) (y:=.slice x2 n2 y2) (z:=.slice x3 n3 y3) (HK.out W hS).1.1;have e1:(((W.setCell ⟨g0,0,none⟩ (.slice x1 n1 y1)).setCell ⟨g0,1,none⟩ (.slice x2 n2 y2)).setCell ⟨g0,2,none⟩ (.slice x3 n3 y3)).heap[g0+1]?=some Bu:=by
   rw[DT _ ⟨g0,2,none⟩ _ _ (by simp),DT _ ⟨g0,1,none⟩ _ _ (by simp),DT _ ⟨g0,0,none⟩ _ _ (by simp)];exact(HK.out W hS).2.1
  have t2:=Bh.GX (B:=w1.heap.size) (x:=.slice u1 m1 v1) (y:=.slice u2 m2 v2) (z:=.slice u3 m3 v3) e1;have hB:w.heap.size≤w1.heap.size:=by have h1:=HY.out.s1;have h2:=HX.out.z;omega
  have hw:w.heap.size≤g0+1:=by have:=HX.out.z;omega
  refine⟨_,_,_,_,_,_,_,_,_,_,_,_,_,_,_,_,_,_,rfl,PA.mono (PA.ty (PA.ty hP t1) t2) hB,PA.mono (PA.ty (PA.ty hQ t1) t2) hB,?_⟩;exact((HX.out.sw.tr hS0).LU HX.out.hh (Nat.le_of_eq HX.out.z) _ _ _).LU HX.out.hh hw _ _ _)
 have ry:=hid (fun(W:World) (hS:Sr g a len cap w1 W) (x1 x2 x3 u1 u2 u3:Option Addr) (n1 n2 n3 y1 y2 y3 m1 m2 m3 v1 v2 v3:Nat) (hP:PA w1.heap.size W (.slice x1 n1 y1) (.slice x2 n2 y2) (.slice x3 n3 y3)) (hQ:PA w1.heap.size W (.slice u1 m1 v1) (.slice u2 m2 v2) (.slice u3 m3 v3))=>
  show SL g a len cap w (.returned (.tuple #[.agg #[.slice x1 n1 y1,.slice x2 n2 y2,.slice x3 n3 y3],.agg #[.slice u1 m1 v1,.slice u2 m2 v2,.slice u3 m3 v3]])) ((((((W.setCell ⟨g0+1,0,none⟩ (.slice u1 m1 v1)).setCell ⟨g0+1,1,none⟩ (.slice u2 m2 v2)).setCell ⟨g0+1,2,none⟩ (.slice u3 m3 v3)).setCell ⟨g0,0,none⟩ (.slice x1 n1 y1)).setCell ⟨g0,1,none⟩ (.slice x2 n2 y2)).setCell ⟨g0,2,none⟩ (.slice x3 n3 y3)) from by
  have hS0:=HY.out.sw.tr hS;have t1:=Bh.GX (B:=w1.heap.size) (x:=.slice u1 m1 v1) (y:=.slice u2 m2 v2) (z:=.slice u3 m3 v3) (HK.out W hS).2.1;have e1:(((W.setCell ⟨g0+1,0,none⟩ (.slice u1 m1 v1)).setCell ⟨g0+1,1,none⟩ (.slice u2 m2 v2)).setCell ⟨g0+1,2,none⟩ (.slice u3 m3 v3)).heap[g0]?=some Bu:=by
   rw[DT _ ⟨g0+1,2,none⟩ _ _ (by simp),DT _ ⟨g0+1,1,none⟩ _ _ (by simp),DT _ ⟨g0+1,0,none⟩ _ _ (by simp)];exact(HK.out W hS).1.1
  have t2:=Bh.GX (B:=w1.heap.size) (x:=.slice x1 n1 y1) (y:=.slice x2 n2 y2) (z:=.slice x3 n3 y3) e1;have hB:w.heap.size≤w1.heap.size:=by have h1:=HY.out.s1;have h2:=HX.out.z;omega
  have hw:w.heap.size≤g0+1:=by have:=HX.out.z;omega
  refine⟨_,_,_,_,_,_,_,_,_,_,_,_,_,_,_,_,_,_,rfl,PA.mono (PA.ty (PA.ty hP t1) t2) hB,PA.mono (PA.ty (PA.ty hQ t1) t2) hB,?_⟩;exact((HX.out.sw.tr hS0).LU HX.out.hh hw _ _ _).LU HX.out.hh (Nat.le_of_eq HX.out.z) _ _ _)
 clear h;go_enter Tryz.func30,Tryz.ntmps30;go_upto_region 1 with fail;rw[←hw0,←hw1];clear hw1 hg0 hw0;go_upto_block 0 with(go_at_call 52;refine(Ja _ g a len cap w1 _ HY.out.s).mono ?_;rintro e w2 ⟨r,rfl,hr,hS2⟩;have HS2:=hid hS2;clear hS2);have AI6:r≤11:=by omega
 go_cut [4] (fun v W=>(∃lim:Int,v= .int .i64 lim)∧W=w2);case first=>
  by_cases h0:r=0
  ·subst h0;go_wp2_with fail;go_meet;exact⟨⟨_,rfl⟩,rfl⟩
  ·by_cases h1:r=1
   ·subst h1;go_wp2_with fail;go_meet;exact⟨⟨_,rfl⟩,rfl⟩
   ·have e0:((r:Int)==0)=false:=JG.2 (by omega);have e1:((r:Int)==1)=false:=JG.2 (by omega);cases e2:((r:Int)==2)<;>
     (go_wp2_with fail
      go_meet;exact⟨⟨_,rfl⟩,rfl⟩)
 case rest=>
  obtain⟨⟨lim,rfl⟩,rfl⟩:=hcut;rename World=>w2;clear hr AI6;go_upto_region 9 with(go_at_call 64;refine(HDR.out lim _ (Sr.here HS2.out)).mono ?_;rintro e w3 ⟨x1,x2,x3,n1,n2,n3,y1,y2,y3,rfl,hp,hs⟩);obtain⟨gp,Ck⟩:∃gp,w3.heap.size=gp:=⟨_,rfl⟩;obtain⟨w4,hw4⟩:∃w4,w4=w3.alloc (.cells #[.slice x1 n1 y1,.slice x2 n2 y2,.slice x3 n3 y3] 28):=⟨_,rfl⟩;rw[←hw4,Ck];have BR:=hid (show Sr g a len cap w1 w4 by rw[hw4];exact(HS2.out.tr hs).alloc _);have BJ:=hid (show Eh w1.heap.size w4 gp (.slice x1 n1 y1) (.slice x2 n2 y2) (.slice x3 n3 y3) by
   rw[hw4,←Ck];exact⟨Av _ _,(HS2.out.tr hs).2.2.size,PA.ty (PA.mono hp HS2.out.2.2.size) (Bh.keep (S:=Any) ((AA.refl _ w3).alloc _) fun _ _=>trivial)⟩)
  have hne:¬gp=g0+1:=by have h1:=HY.out.s1;have h2:=BJ.out.2.1;omega
  have hne':¬gp=g0:=by have h1:=HY.out.s1;have h2:=BJ.out.2.1;omega
  obtain⟨P,hP⟩:=V5 BJ.out.2.2;have HV:=hid hP;clear hp hs Ck hw4 hP;have HVW:=hid (fun(W:World) (hS:Sr g a len cap w4 W)=>HV.out.keep (AA.grown hS.2.2 fun k hk e=>by injection e with e;have:=Cs.out;omega));have Cy:=hid (fun(W:World) (hS:Sr g a len cap w4 W)=>Eh.grown BJ.out hS.2.2 Cs.out);have FQ:=hid (fun(W W':World) (hS:Sr g a len cap w4 W) (hk:AA Any W W')=>((HVW.out W hS).mono (S':=Any) fun _ _=>trivial).keep hk);have HGA:=hid (fun(W:World) (hS:Sr g a len cap w4 W)=>UA.Pn W _ _ _ P (FQ.out W W hS AB));have XC:=hid (Sr.here BR.out);obtain⟨⟨d0,d1,d2⟩,-⟩:=AO BJ.out.1;have hgl:=PX.lt' BJ.out;go_cut [24] (fun v W=>∃b,v= .bool b∧(b=true→CQ P)∧Hid (Sr g a len cap w4 W));case first=>
   by_cases hG:CQ P
   ·have HG:=hid hG;clear hG;go_wp2_with (first|(go_at_call 55;refine(HGA.out _ XC.out).mono ?_;rintro e w5 ⟨b,rfl,hb,hb5⟩;obtain rfl:b=true:=hb.2 HG.out;have Bi:=hid (XC.out.below hb5);clear hb hb5)|(go_at_call 52;refine(Ja _ g a len cap w4 _ Bi.out).mono ?_;rintro e w6 ⟨r,rfl,hr,Lm⟩;have Ac:=hid (Bi.out.tr Lm);clear hr Lm));go_meet;exact⟨_,rfl,fun _=>HG.out,Ac⟩
   ·have HG:=hid hG;clear hG;go_wp2_with (go_at_call 55;refine(HGA.out _ XC.out).mono ?_;rintro e w5 ⟨b,rfl,hb,hb5⟩;obtain rfl:b=false:=(by cases b with|false=>rfl|true=>exact absurd (hb.1 rfl) HG.out);have Bi:=hid (XC.out.below hb5);clear hb hb5);go_meet;exact⟨_,rfl,fun h=>Bool.noConfusion h,Bi⟩
  case rest=>
   obtain⟨b,rfl,hb,EB⟩:=hcut;rename World=>w7;clear d0 d1 d2 hgl XC;have IA:=hid (Cy.out w7 EB.out);have dA:=hid (BR.out.tr EB.out);obtain⟨⟨d0,d1,d2⟩,-⟩:=AO IA.out.1;have hgl:=PX.lt' IA.out;cases b with
   |true=>
    obtain⟨T,hT,D8,rfl,hVl,De⟩:=hb rfl;have dB:∀W,W=w7∨W=w7.drew→Sr g a len cap W W∧Aw (fun k=>k≠g) W (.slice x1 n1 y1) (.slice x2 n2 y2) (.slice x3 n3 y3) (AX T):=fun W hW=>by
     have h1:=(HVW.out w7 EB.out).mono (S':=fun k=>k≠g) (fun k hk=>by have:=Cs.out;omega);rcases hW with rfl|rfl
     ·exact⟨Sr.here EB.out,h1⟩
     ·exact⟨Sr.here EB.out.drew,h1.keep AB.drew⟩
    obtain⟨n,hn⟩:∃n,T.length=n:=⟨_,rfl⟩;have fJ:=(dB w7 (.inl rfl)).2;obtain rfl:n1=n:=by obtain⟨_,_,e,_⟩:=fJ.os;simp[AX]at e;omega
    obtain rfl:n2=n1:=by obtain⟨_,_,e,_⟩:=fJ.ps;simp[AX,VZ]at e;omega
    obtain rfl:n3=n2:=by obtain⟨_,_,e,_⟩:=fJ.cs;simp[AX,Va]at e;omega
    have HLK:=hid (fun W hW=>AFU T n3 hn hT D8 De (O6.Pw ⟨T,hT,D8,rfl,hVl,De⟩).1 g a x1 x2 x3 len cap y1 y2 y3 W (dB W hW).1 (dB W hW).2);have Jn:=hid (show¬gp=g0∧¬gp=g0+1 from⟨hne',hne⟩);have hb1:¬(g0:Nat)=g0+1:=by omega
    have hb2:¬(g0+1:Nat)=g0:=by omega
    clear dB fJ hb hT D8 hVl De hn;go_upto_region 10 with fail;go_region_law (first|(go_simp;go_at_call 53;refine(HLK.out _ (by first|exact .inl rfl|exact .inr rfl)).mono ?_;rintro e w8 ⟨U1,U2,U3,M1,M2,M3,V1,V2,V3,rfl,hp,hs⟩;have EL:=hid (show Sr g a len cap w4 w8 from by first|exact EB.out.tr hs|exact EB.out.drew.tr hs);have IB:=hid (BR.out.tr EL.out);have M9:=hid (Cy.out _ EL.out).2.2;have Kk:=hid (PA.mono hp dA.out.2.2.size);obtain⟨⟨c0,c1,c2⟩,-⟩:=AO (Cy.out _ EL.out).1;have Jo:=PX.lt' (Cy.out _ EL.out);obtain⟨⟨e0,e1,e2⟩,f0,f1,f2⟩:=AO (HK.out _ IB.out).1.1;obtain⟨⟨e3,e4,e5⟩,f3,f4,f5⟩:=AO (HK.out _ IB.out).2.1;have hg1:=(HK.out _ IB.out).1.2;have hg2:=(HK.out _ IB.out).2.2;clear hp hs)|(fail));all_goals
     go_wp2_with fail;have hpf:=HF.out _ IB.out _ _ _ _ _ _ _ _ _ _ _ _ _ _ _ _ _ _ M9.out Kk.out;obtain⟨z,z'⟩:=cZ (x:=.slice x1 n3 y1) (y:=.slice x2 n3 y2) (z:=.slice x3 n3 y3) (x':=.slice U1 M1 V1) (y':=.slice U2 M2 V2) (z':=.slice U3 M3 V3) (HK.out _ IB.out).1.1 (HK.out _ IB.out).2.1 (by omega);obtain⟨W6,JK⟩:∃W6,W6=((((((w8.setCell ⟨g0,0,none⟩ (.slice x1 n3 y1)).setCell ⟨g0,1,none⟩ (.slice x2 n3 y2)).setCell ⟨g0,2,none⟩ (.slice x3 n3 y3)).setCell ⟨g0+1,0,none⟩ (.slice U1 M1 V1)).setCell ⟨g0+1,1,none⟩ (.slice U2 M2 V2)).setCell ⟨g0+1,2,none⟩ (.slice U3 M3 V3)):=⟨_,rfl⟩;rw[←JK]at hpf z z';rw[←JK];clear JK e0 e1 e2 e3 e4 e5 f0 f1 f2 f3 f4 f5;obtain⟨⟨z0,z1,z2⟩,-⟩:=AO z;obtain⟨⟨z3,z4,z5⟩,-⟩:=AO z';exact Am (v:=.tuple #[.agg #[.slice x1 n3 y1,.slice x2 n3 y2,.slice x3 n3 y3],.agg #[.slice U1 M1 V1,.slice U2 M2 V2,.slice U3 M3 V3]]) (by simp[results,Tryz.results30,go_sem,z0,z1,z2,z3,z4,z5]) rfl hpf
   |false=>
    clear hb;go_upto_region 12 with(go_at_call 64;refine(HDR.out lim _ (Sr.here EB.out)).mono ?_;rintro e w8 ⟨u1,u2,u3,m1,m2,m3,v1,v2,v3,rfl,hp,hs⟩);obtain⟨gq,Iq⟩:∃gq,w8.heap.size=gq:=⟨_,rfl⟩;obtain⟨w9,Xz⟩:∃w9,w9=w8.alloc (.cells #[.slice u1 m1 v1,.slice u2 m2 v2,.slice u3 m3 v3] 28):=⟨_,rfl⟩;rw[←Xz,Iq];have EU:=hid (show Sr g a len cap w1 w9 by rw[Xz];exact(dA.out.tr hs).alloc _);have PS:=hid (show Eh w1.heap.size w9 gq (.slice u1 m1 v1) (.slice u2 m2 v2) (.slice u3 m3 v3) by
     rw[Xz,←Iq];exact⟨Av _ _,(dA.out.tr hs).2.2.size,PA.ty (PA.mono hp dA.out.2.2.size) (Bh.keep (S:=Any) ((AA.refl _ w8).alloc _) fun _ _=>trivial)⟩)
    have Jp:=hid (show Eh w1.heap.size w9 gp (.slice x1 n1 y1) (.slice x2 n2 y2) (.slice x3 n3 y3) by
     rw[Xz];have h1:=Eh.grown IA.out hs.2.2 Cs.out;exact⟨(EO _ _ _ (PX.lt' h1)).trans h1.1,h1.2.1,PA.ty h1.2.2 (Bh.keep (S:=Any) ((AA.refl _ w8).alloc _) fun _ _=>trivial)⟩)
    have hnq:¬gp=gq:=by have h1:=PX.lt' IA.out;have h2:=hs.2.2.size;omega
    have hne2:¬gq=g0+1:=by have h1:=HY.out.s1;have h2:=PS.out.2.1;omega
    have AKy:¬gq=g0:=by have h1:=HY.out.s1;have h2:=PS.out.2.1;omega
    clear hp hs Iq Xz d0 d1 d2 hgl;go_wp2_with fail;go_loopw [7] (fun tv wr=>∃t:Nat,t≤5∧tv= .int .i64 (t:Int)∧Hid (Sr g a len cap w1 wr)∧Hid (Eh w1.heap.size wr gp (.slice x1 n1 y1) (.slice x2 n2 y2) (.slice x3 n3 y3))∧Hid (Jq w1.heap.size wr gq)) (fun tv _=>5-(intOf tv).toNat);case atStart=>exact⟨0,by omega,rfl,EU,Jp,hid ⟨_,_,_,_,_,_,_,_,_,PS.out⟩⟩
    case round=>
     clear EU Jp PS;obtain⟨t,ht,rfl,HS,HP,Kk⟩:=hrel;rename World=>wq;obtain⟨u1,m1,v1,u2,m2,v2,u3,m3,v3,hQ⟩:=Kk.out;have HQ:=hid hQ;clear hQ Kk;obtain⟨P2,hP2⟩:=V5 HP.out.2.2;obtain⟨Q,hQ2⟩:=V5 HQ.out.2.2;have HPV:=hid (fun(W:World) (hk:AA Any wq W)=>(hP2.mono (S':=Any) fun _ _=>trivial).keep hk);have HQV:=hid (fun(W:World) (hk:AA Any wq W)=>(hQ2.mono (S':=Any) fun _ _=>trivial).keep hk);have JL:=hid (fun(W:World) (hk:AA Any wq W)=>UA.Pn W _ _ _ P2 (HPV.out W hk));have Li:=hid (fun(W:World) (hk:AA Any wq W)=>UA.Pn W _ _ _ Q (HQV.out W hk));obtain⟨⟨d0,d1,d2⟩,-⟩:=AO HP.out.1;obtain⟨⟨q0,q1,q2⟩,-⟩:=AO HQ.out.1;have hgl:=PX.lt' HP.out;have JH:=PX.lt' HQ.out;clear hP2 hQ2;go_upto_region 13 with fail;go_cut [48] (fun v W=>(∃b,v= .bool b∧(b=true→t<5))∧Hid (Below wq.heap.size wq W));case first=>
      by_cases NA:t<5
      ·have hti:(t:Int)<5:=by omega
       have H9:=hid NA;have hd1:decide ((t:Int)<5)=true:=En hti;have hd2:decide (t<5)=true:=En NA;by_cases hG:CQ P2
       ·by_cases hH:CQ Q
        ·have HG:=hid hG;have HH:=hid hH;obtain⟨T1,rfl⟩:∃T,P2=AX T:=by obtain⟨T,_,_,e,_⟩:=hG;exact⟨T,e⟩
         obtain⟨T2,rfl⟩:∃T,Q=AX T:=by obtain⟨T,_,_,e,_⟩:=hH;exact⟨T,e⟩
         have OJ:=hid (fun(W:World) (hk:AA Any wq W)=>Bf.I5 T1 (O6.Pw hG).1 W (.slice x1 n1 y1) (.slice x2 n2 y2) (.slice x3 n3 y3) (by have:=(HPV.out W hk).os;rwa[Bf.MJ]at this));have Mt:=hid (fun(W:World) (hk:AA Any wq W)=>Bf.I5 T2 (O6.Pw hH).1 W (.slice u1 m1 v1) (.slice u2 m2 v2) (.slice u3 m3 v3) (by have:=(HQV.out W hk).os;rwa[Bf.MJ]at this));clear hG hH NA;go_region_law (first|(go_simp;go_at_call_of 55 x1;refine(JL.out _ (by repeat(first|exact AB.drew|exact AA.refl _ _|refine AA.trans ?_ (AA.of_below (by assumption))))).mono ?_;rintro e w5 ⟨b,rfl,hb,hb5⟩;obtain rfl:b=true:=hb.2 HG.out;have K5:AA Any wq w5:=(by repeat(first|exact AB.drew|exact AA.refl _ _|refine AA.trans ?_ (AA.of_below (by assumption))));obtain⟨⟨X0,c51,X4⟩,X5,X6,X7⟩:=And.intro (AO ((K5.block _ trivial hgl).trans HP.out.1)).1 (AO ((K5.block _ trivial JH).trans HQ.out.1)).1;have lp5:=Ad hgl K5.size;have lq5:=Ad JH K5.size)|(go_simp;go_at_call_of 55 u1;refine(Li.out _ (by repeat(first|exact AB.drew|exact AA.refl _ _|refine AA.trans ?_ (AA.of_below (by assumption))))).mono ?_;rintro e w6 ⟨b,rfl,hb,hb6⟩;obtain rfl:b=true:=hb.2 HH.out;have K6:AA Any wq w6:=(by repeat(first|exact AB.drew|exact AA.refl _ _|refine AA.trans ?_ (AA.of_below (by assumption))));obtain⟨⟨rz,r9,sD⟩,sF,sG,sH⟩:=And.intro (AO ((K6.block _ trivial hgl).trans HP.out.1)).1 (AO ((K6.block _ trivial JH).trans HQ.out.1)).1;have lp6:=Ad hgl K6.size;have lq6:=Ad JH K6.size)|(go_simp;go_at_call_of 43 x1;refine(OJ.out _ (by repeat(first|exact AB.drew|exact AA.refl _ _|refine AA.trans ?_ (AA.of_below (by assumption))))).mono ?_;rintro e w7 ⟨rfl,Bd⟩;have K7:AA Any wq w7:=(by repeat(first|exact AB.drew|exact AA.refl _ _|refine AA.trans ?_ (AA.of_below (by assumption))));obtain⟨⟨c70,c71,c72⟩,b70,b71,b72⟩:=And.intro (AO ((K7.block _ trivial hgl).trans HP.out.1)).1 (AO ((K7.block _ trivial JH).trans HQ.out.1)).1;have lp7:=Ad hgl K7.size;have lq7:=Ad JH K7.size)|(go_simp;go_at_call_of 43 u1;refine(Mt.out _ (by repeat(first|exact AB.drew|exact AA.refl _ _|refine AA.trans ?_ (AA.of_below (by assumption))))).mono ?_;rintro e w8 ⟨rfl,CP⟩;have K8:AA Any wq w8:=(by repeat(first|exact AB.drew|exact AA.refl _ _|refine AA.trans ?_ (AA.of_below (by assumption))));obtain⟨⟨c80,c81,c82⟩,b80,b81,b82⟩:=And.intro (AO ((K8.block _ trivial hgl).trans HP.out.1)).1 (AO ((K8.block _ trivial JH).trans HQ.out.1)).1;have lp8:=Ad hgl K8.size;have lq8:=Ad JH K8.size));all_goals
          go_wp2_with fail;go_meet;exact⟨⟨_,rfl,fun _=>H9.out⟩,hid (by repeat(first|exact Ag _ _|exact AR.drew|refine SH.LH ?_ AQ (by assumption)))⟩
        ·have HG:=hid hG;have HH:=hid hH;clear hG hH NA;refine wp_region_held_drew (S:=fun w'=>w'.cell? ⟨gp,0,none⟩=some (.slice x1 n1 y1)∧w'.cell? ⟨gp,1,none⟩=some (.slice x2 n2 y2)∧w'.cell? ⟨gp,2,none⟩=some (.slice x3 n3 y3)∧w'.cell? ⟨gq,0,none⟩=some (.slice u1 m1 v1)∧w'.cell? ⟨gq,1,none⟩=some (.slice u2 m2 v2)∧w'.cell? ⟨gq,2,none⟩=some (.slice u3 m3 v3)) (by kernel_rfl) ⟨d0,d1,d2,q0,q1,q2⟩ (fun hHeld=>?_);refine CK (i:=0) (v:=?vq1) (by simp only[BD,A9,A8];rfl) ?_ ?_ ?_ ?_ (Or.inl ⟨?_,?sI⟩) ?_ ?rq1;case sI=>(intro w hSw;(try dsimp only at hSw);go_simp;try with_reducible rfl)
         iterate 3 (kernel_rfl)
         ·exact fun _ _ _ h=>h
         ·rfl
         ·assumption
         try simp only[Act.put,BC,Az,BB,Bool.false_eq_true,if_false]
         refine CK (i:=1) (v:=?vq2) (by simp only[BD,A9,A8];rfl) ?_ ?_ ?_ ?_ (Or.inl ⟨?_,?sJ⟩) ?_ ?rq2;case sJ=>(intro w hSw;(try dsimp only at hSw);go_simp;try with_reducible rfl)
         iterate 3 (kernel_rfl)
         ·exact fun _ _ _ h=>h
         ·rfl
         ·assumption
         try simp only[Act.put,BC,Az,BB,Bool.false_eq_true,if_false]
         refine CK (i:=2) (v:=?vq3) (by simp only[BD,A9,A8];rfl) ?_ ?_ ?_ ?_ (Or.inl ⟨?_,?sK⟩) ?_ ?rq3;case sK=>(intro w hSw;(try dsimp only at hSw);go_simp;try with_reducible rfl)
         iterate 3 (kernel_rfl)
         ·exact fun _ _ _ h=>h
         ·rfl
         ·assumption
         try simp only[Act.put,BC,Az,BB,Bool.false_eq_true,if_false]
         refine CK (i:=3) (v:=?vq4) (by simp only[BD,A9,A8];rfl) ?_ ?_ ?_ ?_ (Or.inl ⟨?_,?sM⟩) ?_ ?rq4;case sM=>(intro w hSw;(try dsimp only at hSw);go_simp;try with_reducible rfl)
         iterate 3 (kernel_rfl)
         ·exact fun _ _ _ h=>h
         ·rfl
         ·assumption
         try simp only[Act.put,BC,Az,BB,Bool.false_eq_true,if_false]
         refine EI (rs:=[4]) (by kernel_rfl) (by simp) ?_;refine DY (by simp only[BD,A9,A8];rfl) (fun K hK=>?_) EH
         (go_simp;go_at_call_of 55 x1;refine(JL.out _ (by repeat(first|exact AB.drew|exact AA.refl _ _|refine AA.trans ?_ (AA.of_below (by assumption))))).mono ?_;rintro e w5 ⟨b,rfl,hb,hb5⟩;obtain rfl:b=true:=hb.2 HG.out;have K5:AA Any wq w5:=(by repeat(first|exact AB.drew|exact AA.refl _ _|refine AA.trans ?_ (AA.of_below (by assumption))));obtain⟨⟨X0,c51,X4⟩,X5,X6,X7⟩:=And.intro (AO ((K5.block _ trivial hgl).trans HP.out.1)).1 (AO ((K5.block _ trivial JH).trans HQ.out.1)).1;have lp5:=Ad hgl K5.size;have lq5:=Ad JH K5.size)
         refine hK.out _ _ ?_ (fun Ai=>?_)
         ·first|exact⟨rz,r9,sD,sF,sG,sH⟩|exact⟨X0,c51,X4,X5,X6,X7⟩
         clear hK K hHeld;have hHeld:=Ai;clear Ai;try simp only[Act.put,BC,Az,BB,Bool.false_eq_true,if_false]
         refine CK (i:=5) (v:=?vq6) (by simp only[BD,A9,A8];rfl) ?_ ?_ ?_ ?_ (Or.inl ⟨?_,?sN⟩) ?_ ?rq6;case sN=>(intro w hSw;(try dsimp only at hSw);go_simp;try with_reducible rfl)
         iterate 3 (kernel_rfl)
         ·exact fun _ _ _ h=>h
         ·rfl
         ·assumption
         try simp only[Act.put,BC,Az,BB,Bool.false_eq_true,if_false]
         refine CK (i:=6) (v:=?vq7) (by simp only[BD,A9,A8];rfl) ?_ ?_ ?_ ?_ (Or.inl ⟨?_,?sO⟩) ?_ ?rq7;case sO=>(intro w hSw;(try dsimp only at hSw);go_simp;try with_reducible rfl)
         iterate 3 (kernel_rfl)
         ·exact fun _ _ _ h=>h
         ·rfl
         ·assumption
         try simp only[Act.put,BC,Az,BB,Bool.false_eq_true,if_false]
         refine CK (i:=7) (v:=?vq8) (by simp only[BD,A9,A8];rfl) ?_ ?_ ?_ ?_ (Or.inl ⟨?_,?sP⟩) ?_ ?rq8;case sP=>(intro w hSw;(try dsimp only at hSw);go_simp;try with_reducible rfl)
         iterate 3 (kernel_rfl)
         ·exact fun _ _ _ h=>h
         ·rfl
         ·assumption
         try simp only[Act.put,BC,Az,BB,Bool.false_eq_true,if_false]
         refine EI (rs:=[8]) (by kernel_rfl) (by simp) ?_;refine DY (by simp only[BD,A9,A8];rfl) (fun K hK=>?_) EH
         (go_simp;go_at_call_of 55 u1;refine(Li.out _ (by repeat(first|exact AB.drew|exact AA.refl _ _|refine AA.trans ?_ (AA.of_below (by assumption))))).mono ?_;rintro e w6 ⟨b,rfl,hb,hb6⟩;obtain rfl:b=false:=(by cases b with|false=>rfl|true=>exact absurd (hb.1 rfl) HH.out);have K6:AA Any wq w6:=(by repeat(first|exact AB.drew|exact AA.refl _ _|refine AA.trans ?_ (AA.of_below (by assumption))));obtain⟨⟨rz,r9,sD⟩,sF,sG,sH⟩:=And.intro (AO ((K6.block _ trivial hgl).trans HP.out.1)).1 (AO ((K6.block _ trivial JH).trans HQ.out.1)).1;have lp6:=Ad hgl K6.size;have lq6:=Ad JH K6.size)
         refine hK.out _ _ ?_ (fun Ai=>?_)
         ·first|exact⟨rz,r9,sD,sF,sG,sH⟩|exact⟨X0,c51,X4,X5,X6,X7⟩
         clear hK K hHeld;have hHeld:=Ai;clear Ai;try simp only[Act.put,BC,Az,BB,Bool.false_eq_true,if_false]
         refine CK (i:=9) (v:=?AI7) (by simp only[BD,A9,A8];rfl) ?_ ?_ ?_ ?_ (Or.inl ⟨?_,?nM⟩) ?_ ?AI8;case nM=>(intro w hSw;(try dsimp only at hSw);go_simp;try with_reducible rfl)
         iterate 3 (kernel_rfl)
         ·exact fun _ _ _ h=>h
         ·rfl
         ·assumption
         try simp only[Act.put,BC,Az,BB,Bool.false_eq_true,if_false]
         refine CK (i:=10) (v:=?AI9) (by simp only[BD,A9,A8];rfl) ?_ ?_ ?_ ?_ (Or.inl ⟨?_,?nN⟩) ?_ ?AJA;case nN=>(intro w hSw;(try dsimp only at hSw);go_simp;try with_reducible rfl)
         iterate 3 (kernel_rfl)
         ·exact fun _ _ _ h=>h
         ·rfl
         ·assumption
         try simp only[Act.put,BC,Az,BB,Bool.false_eq_true,if_false]
         refine CK (i:=11) (v:=undef) (by simp only[BD,A9,A8];rfl) ?_ ?_ ?_ ?_ (Or.inr ⟨?_,rfl⟩) ?_ ?_
         iterate 3 (kernel_rfl)
         ·exact fun _ _ _ h=>h
         ·rfl
         ·assumption
         try simp only[Act.put,BC,Az,BB,Bool.false_eq_true,if_false]
         refine CK (i:=12) (v:=undef) (by simp only[BD,A9,A8];rfl) ?_ ?_ ?_ ?_ (Or.inr ⟨?_,rfl⟩) ?_ ?_
         iterate 3 (kernel_rfl)
         ·exact fun _ _ _ h=>h
         ·rfl
         ·assumption
         try simp only[Act.put,BC,Az,BB,Bool.false_eq_true,if_false]
         refine CK (i:=13) (v:=undef) (by simp only[BD,A9,A8];rfl) ?_ ?_ ?_ ?_ (Or.inr ⟨?_,rfl⟩) ?_ ?_
         iterate 3 (kernel_rfl)
         ·exact fun _ _ _ h=>h
         ·rfl
         ·assumption
         try simp only[Act.put,BC,Az,BB,Bool.false_eq_true,if_false]
         refine CK (i:=14) (v:=undef) (by simp only[BD,A9,A8];rfl) ?_ ?_ ?_ ?_ (Or.inr ⟨?_,rfl⟩) ?_ ?_
         iterate 3 (kernel_rfl)
         ·exact fun _ _ _ h=>h
         ·rfl
         ·assumption
         try simp only[Act.put,BC,Az,BB,Bool.false_eq_true,if_false]
         refine CK (i:=15) (v:=undef) (by simp only[BD,A9,A8];rfl) ?_ ?_ ?_ ?_ (Or.inr ⟨?_,rfl⟩) ?_ ?_
         iterate 3 (kernel_rfl)
         ·exact fun _ _ _ h=>h
         ·rfl
         ·assumption
         try simp only[Act.put,BC,Az,BB,Bool.false_eq_true,if_false]
         refine CK (i:=16) (v:=?ALP) (by simp only[BD,A9,A8];rfl) ?_ ?_ ?_ ?_ (Or.inl ⟨?_,?AJB⟩) ?_ ?ALQ;case AJB=>(intro w hSw;(try dsimp only at hSw);go_simp;try with_reducible rfl)
         iterate 3 (kernel_rfl)
         ·exact fun _ _ _ h=>h
         ·rfl
         ·assumption
         try simp only[Act.put,BC,Az,BB,Bool.false_eq_true,if_false]
         refine wpAnyH_done (by kernel_rfl) ?_ _;go_wp2_with fail;go_meet;exact⟨⟨_,rfl,fun _=>H9.out⟩,hid (by repeat(first|exact Ag _ _|exact AR.drew|refine SH.LH ?_ AQ (by assumption)))⟩
       ·have HG:=hid hG;clear hG NA;refine wp_region_held_drew (S:=fun w'=>w'.cell? ⟨gp,0,none⟩=some (.slice x1 n1 y1)∧w'.cell? ⟨gp,1,none⟩=some (.slice x2 n2 y2)∧w'.cell? ⟨gp,2,none⟩=some (.slice x3 n3 y3)∧w'.cell? ⟨gq,0,none⟩=some (.slice u1 m1 v1)∧w'.cell? ⟨gq,1,none⟩=some (.slice u2 m2 v2)∧w'.cell? ⟨gq,2,none⟩=some (.slice u3 m3 v3)) (by kernel_rfl) ⟨d0,d1,d2,q0,q1,q2⟩ (fun hHeld=>?_);refine CK (i:=0) (v:=?vs1) (by simp only[BD,A9,A8];rfl) ?_ ?_ ?_ ?_ (Or.inl ⟨?_,?ys1⟩) ?_ ?rs1;case ys1=>(intro w hSw;(try dsimp only at hSw);go_simp;try with_reducible rfl)
        iterate 3 (kernel_rfl)
        ·exact fun _ _ _ h=>h
        ·rfl
        ·assumption
        try simp only[Act.put,BC,Az,BB,Bool.false_eq_true,if_false]
        refine CK (i:=1) (v:=?vs2) (by simp only[BD,A9,A8];rfl) ?_ ?_ ?_ ?_ (Or.inl ⟨?_,?ys2⟩) ?_ ?rs2;case ys2=>(intro w hSw;(try dsimp only at hSw);go_simp;try with_reducible rfl)
        iterate 3 (kernel_rfl)
        ·exact fun _ _ _ h=>h
        ·rfl
        ·assumption
        try simp only[Act.put,BC,Az,BB,Bool.false_eq_true,if_false]
        refine CK (i:=2) (v:=?vs3) (by simp only[BD,A9,A8];rfl) ?_ ?_ ?_ ?_ (Or.inl ⟨?_,?ys3⟩) ?_ ?rs3;case ys3=>(intro w hSw;(try dsimp only at hSw);go_simp;try with_reducible rfl)
        iterate 3 (kernel_rfl)
        ·exact fun _ _ _ h=>h
        ·rfl
        ·assumption
        try simp only[Act.put,BC,Az,BB,Bool.false_eq_true,if_false]
        refine CK (i:=3) (v:=?vs4) (by simp only[BD,A9,A8];rfl) ?_ ?_ ?_ ?_ (Or.inl ⟨?_,?ys4⟩) ?_ ?rs4;case ys4=>(intro w hSw;(try dsimp only at hSw);go_simp;try with_reducible rfl)
        iterate 3 (kernel_rfl)
        ·exact fun _ _ _ h=>h
        ·rfl
        ·assumption
        try simp only[Act.put,BC,Az,BB,Bool.false_eq_true,if_false]
        refine EI (rs:=[4]) (by kernel_rfl) (by simp) ?_;refine DY (by simp only[BD,A9,A8];rfl) (fun K hK=>?_) EH
        (go_simp;go_at_call_of 55 x1;refine(JL.out _ (by repeat(first|exact AB.drew|exact AA.refl _ _|refine AA.trans ?_ (AA.of_below (by assumption))))).mono ?_;rintro e w5 ⟨b,rfl,hb,hb5⟩;obtain rfl:b=false:=(by cases b with|false=>rfl|true=>exact absurd (hb.1 rfl) HG.out);have K5:AA Any wq w5:=(by repeat(first|exact AB.drew|exact AA.refl _ _|refine AA.trans ?_ (AA.of_below (by assumption))));obtain⟨⟨X0,c51,X4⟩,X5,X6,X7⟩:=And.intro (AO ((K5.block _ trivial hgl).trans HP.out.1)).1 (AO ((K5.block _ trivial JH).trans HQ.out.1)).1;have lp5:=Ad hgl K5.size;have lq5:=Ad JH K5.size)
        refine hK.out _ _ ?_ (fun Ai=>?_)
        ·exact⟨X0,c51,X4,X5,X6,X7⟩
        clear hK K hHeld;have hHeld:=Ai;clear Ai;try simp only[Act.put,BC,Az,BB,Bool.false_eq_true,if_false]
        refine CK (i:=5) (v:=?vs6) (by simp only[BD,A9,A8];rfl) ?_ ?_ ?_ ?_ (Or.inl ⟨?_,?ys6⟩) ?_ ?rs6;case ys6=>(intro w hSw;(try dsimp only at hSw);go_simp;try with_reducible rfl)
        iterate 3 (kernel_rfl)
        ·exact fun _ _ _ h=>h
        ·rfl
        ·assumption
        try simp only[Act.put,BC,Az,BB,Bool.false_eq_true,if_false]
        refine CK (i:=6) (v:=?vs7) (by simp only[BD,A9,A8];rfl) ?_ ?_ ?_ ?_ (Or.inl ⟨?_,?ys7⟩) ?_ ?rs7;case ys7=>(intro w hSw;(try dsimp only at hSw);go_simp;try with_reducible rfl)
        iterate 3 (kernel_rfl)
        ·exact fun _ _ _ h=>h
        ·rfl
        ·assumption
        try simp only[Act.put,BC,Az,BB,Bool.false_eq_true,if_false]
        refine CK (i:=7) (v:=undef) (by simp only[BD,A9,A8];rfl) ?_ ?_ ?_ ?_ (Or.inr ⟨?_,rfl⟩) ?_ ?_
        iterate 3 (kernel_rfl)
        ·exact fun _ _ _ h=>h
        ·rfl
        ·assumption
        try simp only[Act.put,BC,Az,BB,Bool.false_eq_true,if_false]
        refine CK (i:=8) (v:=undef) (by simp only[BD,A9,A8];rfl) ?_ ?_ ?_ ?_ (Or.inr ⟨?_,rfl⟩) ?_ ?_
        iterate 3 (kernel_rfl)
        ·exact fun _ _ _ h=>h
        ·rfl
        ·assumption
        try simp only[Act.put,BC,Az,BB,Bool.false_eq_true,if_false]
        refine CK (i:=9) (v:=?ALR) (by simp only[BD,A9,A8];rfl) ?_ ?_ ?_ ?_ (Or.inl ⟨?_,?AJC⟩) ?_ ?ALS;case AJC=>(intro w hSw;(try dsimp only at hSw);go_simp;try with_reducible rfl)
        iterate 3 (kernel_rfl)
        ·exact fun _ _ _ h=>h
        ·rfl
        ·assumption
        try simp only[Act.put,BC,Az,BB,Bool.false_eq_true,if_false]
        refine CK (i:=10) (v:=?ALT) (by simp only[BD,A9,A8];rfl) ?_ ?_ ?_ ?_ (Or.inl ⟨?_,?AJD⟩) ?_ ?ALU;case AJD=>(intro w hSw;(try dsimp only at hSw);go_simp;try with_reducible rfl)
        iterate 3 (kernel_rfl)
        ·exact fun _ _ _ h=>h
        ·rfl
        ·assumption
        try simp only[Act.put,BC,Az,BB,Bool.false_eq_true,if_false]
        refine CK (i:=11) (v:=undef) (by simp only[BD,A9,A8];rfl) ?_ ?_ ?_ ?_ (Or.inr ⟨?_,rfl⟩) ?_ ?_
        iterate 3 (kernel_rfl)
        ·exact fun _ _ _ h=>h
        ·rfl
        ·assumption
        try simp only[Act.put,BC,Az,BB,Bool.false_eq_true,if_false]
        refine CK (i:=12) (v:=undef) (by simp only[BD,A9,A8];rfl) ?_ ?_ ?_ ?_ (Or.inr ⟨?_,rfl⟩) ?_ ?_
        iterate 3 (kernel_rfl)
        ·exact fun _ _ _ h=>h
        ·rfl
        ·assumption
        try simp only[Act.put,BC,Az,BB,Bool.false_eq_true,if_false]
        refine CK (i:=13) (v:=undef) (by simp only[BD,A9,A8];rfl) ?_ ?_ ?_ ?_ (Or.inr ⟨?_,rfl⟩) ?_ ?_
        iterate 3 (kernel_rfl)
        ·exact fun _ _ _ h=>h
        ·rfl
        ·assumption
        try simp only[Act.put,BC,Az,BB,Bool.false_eq_true,if_false]
        refine CK (i:=14) (v:=undef) (by simp only[BD,A9,A8];rfl) ?_ ?_ ?_ ?_ (Or.inr ⟨?_,rfl⟩) ?_ ?_
        iterate 3 (kernel_rfl)
        ·exact fun _ _ _ h=>h
        ·rfl
        ·assumption
        try simp only[Act.put,BC,Az,BB,Bool.false_eq_true,if_false]
        refine CK (i:=15) (v:=undef) (by simp only[BD,A9,A8];rfl) ?_ ?_ ?_ ?_ (Or.inr ⟨?_,rfl⟩) ?_ ?_
        iterate 3 (kernel_rfl)
        ·exact fun _ _ _ h=>h
        ·rfl
        ·assumption
        try simp only[Act.put,BC,Az,BB,Bool.false_eq_true,if_false]
        refine CK (i:=16) (v:=?ALV) (by simp only[BD,A9,A8];rfl) ?_ ?_ ?_ ?_ (Or.inl ⟨?_,?AJE⟩) ?_ ?ALW;case AJE=>(intro w hSw;(try dsimp only at hSw);go_simp;try with_reducible rfl)
        iterate 3 (kernel_rfl)
        ·exact fun _ _ _ h=>h
        ·rfl
        ·assumption
        try simp only[Act.put,BC,Az,BB,Bool.false_eq_true,if_false]
        refine wpAnyH_done (by kernel_rfl) ?_ _;go_wp2_with fail;go_meet;exact⟨⟨_,rfl,fun _=>H9.out⟩,hid (by repeat(first|exact Ag _ _|exact AR.drew|refine SH.LH ?_ AQ (by assumption)))⟩
      ·have hti:¬(t:Int)<5:=by omega
       have hd1:decide ((t:Int)<5)=false:=Dh hti;have hd2:decide (t<5)=false:=Dh NA;clear NA;go_region_law (fail);all_goals
        go_wp2_with fail;go_meet;exact⟨⟨_,rfl,fun h=>Bool.noConfusion h⟩,hid (by repeat(first|exact Ag _ _|exact AR.drew|refine SH.LH ?_ AQ (by assumption)))⟩
     case rest=>
      obtain⟨⟨b,rfl,hbt⟩,HB⟩:=hcut;rename World=>wv;have fK:=hid (HS.out.below HB.out);have dD:=hid (Eh.below HP.out HB.out);have dF:=hid (Eh.below HQ.out HB.out);obtain⟨⟨d0,d1,d2⟩,-⟩:=AO dD.out.1;obtain⟨⟨q0,q1,q2⟩,q3,q4,q5⟩:=AO dF.out.1;have hgl:=PX.lt' dD.out;have JH:=PX.lt' dF.out;cases b with
      |true=>
       have NA:=hbt rfl;clear hbt;go_wp2_with (go_at_call 64;refine(HDR.out lim _ (Sr.here fK.out)).mono ?_;rintro e wz ⟨U1,U2,U3,M1,M2,M3,V1,V2,V3,rfl,hp,hs⟩;have Bn:=hid (fK.out.tr hs);have sQ:=hid (Eh.grown dD.out hs.2.2 Cs.out);have X8:=hid (Eh.grown dF.out hs.2.2 Cs.out);have qX:=hid (PA.mono hp fK.out.2.2.size);obtain⟨⟨r0,r1,r2⟩,r3,r4,r5⟩:=AO X8.out.1;have hgz:=PX.lt' X8.out;clear hp hs);have hwt:IntKind.i64.wrap ((t:Int)+1)=((t+1:Nat):Int):=by rw[AY _ (by omega)];omega
       go_roundw;case rel=>exact⟨t+1,NA,by first|rfl|simp[hwt],hid (Bn.out.LU HY.out.s (Ab AQ X8.out.2.1) _ _ _),hid (Eh.AI5 sQ.out X8.out.1 hnq),hid ⟨_,_,_,_,_,_,_,_,_,Eh.BL X8.out qX.out⟩⟩
       case measure=>simp[intOf];omega
      |false=>
       clear hbt;have IB:=fK;have M9:=hid dD.out.2.2;have Kk:=hid dF.out.2.2;obtain⟨⟨e0,e1,e2⟩,f0,f1,f2⟩:=AO (HK.out _ IB.out).1.1;obtain⟨⟨e3,e4,e5⟩,f3,f4,f5⟩:=AO (HK.out _ IB.out).2.1;have hg1:=(HK.out _ IB.out).1.2;have hg2:=(HK.out _ IB.out).2.2;have hb1:¬(g0:Nat)=g0+1:=by omega
       have hb2:¬(g0+1:Nat)=g0:=by omega
       go_upto_region 16 with fail;go_region_law (fail);all_goals
        go_wp2_with fail;have hpf:=HF.out _ IB.out _ _ _ _ _ _ _ _ _ _ _ _ _ _ _ _ _ _ M9.out Kk.out;obtain⟨z,z'⟩:=cZ (x:=.slice x1 n1 y1) (y:=.slice x2 n2 y2) (z:=.slice x3 n3 y3) (x':=.slice u1 m1 v1) (y':=.slice u2 m2 v2) (z':=.slice u3 m3 v3) (HK.out _ IB.out).1.1 (HK.out _ IB.out).2.1 (by omega);obtain⟨W6,JK⟩:∃W6,W6=((((((wv.setCell ⟨g0,0,none⟩ (.slice x1 n1 y1)).setCell ⟨g0,1,none⟩ (.slice x2 n2 y2)).setCell ⟨g0,2,none⟩ (.slice x3 n3 y3)).setCell ⟨g0+1,0,none⟩ (.slice u1 m1 v1)).setCell ⟨g0+1,1,none⟩ (.slice u2 m2 v2)).setCell ⟨g0+1,2,none⟩ (.slice u3 m3 v3)):=⟨_,rfl⟩;rw[←JK]at hpf z z';rw[←JK];clear JK e0 e1 e2 e3 e4 e5 f0 f1 f2 f3 f4 f5;obtain⟨⟨z0,z1,z2⟩,-⟩:=AO z;obtain⟨⟨z3,z4,z5⟩,-⟩:=AO z';exact Am (v:=.tuple #[.agg #[.slice x1 n1 y1,.slice x2 n2 y2,.slice x3 n3 y3],.agg #[.slice u1 m1 v1,.slice u2 m2 v2,.slice u3 m3 v3]]) (by simp[results,Tryz.results30,go_sem,z0,z1,z2,z3,z4,z5]) rfl (SL.dr hpf)
end Go.Proofs.YtlmlamcoeegkbaaGreat.ru
namespace Go.Proofs.YtlmlamcoeegkbaaGreat.DxH
open Go.RowKit Go.Proofs.YtlmlamcoeegkbaaGreat AJ DC CY DV DD Bv Fv M0 OI OG M4 QV SG Kg ru
def UU (w:World)(e:Ending)(w':World):Prop:=∃(x1 x2 x3 u1 u2 u3:Option Addr) (n1 n2 n3 y1 y2 y3 m1 m2 m3 v1 v2 v3:Nat),e= .returned (.tuple #[.agg #[.slice x1 n1 y1,.slice x2 n2 y2,.slice x3 n3 y3],.agg #[.slice u1 m1 v1,.slice u2 m2 v2,.slice u3 m3 v3]])∧PA w.heap.size w' (.slice x1 n1 y1) (.slice x2 n2 y2) (.slice x3 n3 y3)∧PA w.heap.size w' (.slice u1 m1 v1) (.slice u2 m2 v2) (.slice u3 m3 v3)∧Below w.heap.size w w'
theorem UU.dr {w w':World}{e:Ending}(h:UU w e w'):UU w e w'.drew:=by
 obtain⟨x1,x2,x3,u1,u2,u3,n1,n2,n3,y1,y2,y3,m1,m2,m3,v1,v2,v3,e,hp,hq,hs⟩:=h;have ht:∀B,Bh B w' w'.drew:=fun B=>Bh.keep (S:=Any) (AA.refl _ w').drew fun _ _=>trivial;exact⟨x1,x2,x3,u1,u2,u3,n1,n2,n3,y1,y2,y3,m1,m2,m3,v1,v2,v3,e,PA.ty hp (ht _),PA.ty hq (ht _),hs.drew⟩
theorem AGN (w:World)(a:Option Addr)(len cap:Nat)(hl:len≤4096)(hR:SN w a len):Calls Tryz.prog 7 #[.slice a len cap] w (UU w):=by
 obtain⟨g0,hg0⟩:∃g0,w.heap.size=g0:=⟨_,rfl⟩;obtain⟨w1,hw1⟩:∃w1,w1=(w.alloc Bu).alloc Bu:=⟨_,rfl⟩;have hk1:AA Any w w1:=by rw[hw1];exact(AB.alloc _).alloc _
 have hs1:w1.heap.size=g0+2:=by rw[hw1,←hg0];simp
 have HB1:=hid (show Below w.heap.size w w1 by rw[hw1];exact(AR.alloc AQ _).alloc (by simp) _);have hz:w1.heap[g0]?=some Bu∧w1.heap[g0+1]?=some Bu:=by
  rw[hw1,←hg0];exact⟨(LK _ _ (by simp)).trans (Av w _),Bv.new2 w _ _⟩
 have HC:=hid (Vm w1 a len cap hl (fun i hi=>by
  obtain⟨b,o,z,h1,h3,h4,h5⟩:=hR i hi;exact⟨b,o,z,h1,Ad h3 hk1.size,by rw[hk1.cell trivial h3];exact h4,h5⟩))
 have HR:=hid (show SN w1 a len from fun i hi=>by
  obtain⟨b,o,z,h1,h3,h4,h5⟩:=hR i hi;exact⟨b,o,z,h1,Ad h3 hk1.size,by rw[hk1.cell trivial h3];exact h4,h5⟩)
 have HZ:=hid hz;have BA:=hid hs1;have Jn:=hid hg0;clear hl hR hk1 hz hs1;go_enter Tryz.func7,Tryz.ntmps7;go_upto_region 1 with fail;rw[←hw1];clear hw1 hg0;go_upto_region 2 with(first|(go_at_call 31;refine HC.out.mono ?_;rintro e w2 ⟨g,rfl,hg,hS,hb⟩;have HS2:=hid (show Sr g a len cap w2 w2 from⟨hS,HR.out.rd hb hg,Ta _ _⟩);have HB2:=hid hb;have Jr:=hid hg;clear hg hS hb)|(go_at_call 30;refine(AGM g a len cap w2 HS2.out (fun lim W hW=>DxB.AFV lim g a len cap W hW)).mono ?_;rintro e w3 ⟨x1,x2,x3,u1,u2,u3,n1,n2,n3,y1,y2,y3,m1,m2,m3,v1,v2,v3,rfl,hp,hq,hs⟩));have nO:∀k,k<w1.heap.size→k≠g→k<w3.heap.size:=fun k hk _=>Ad hk (Ab HB2.out.size hs.2.2.size);have Ns:Below w1.heap.size w1 w3:=HB2.out.grown hs.2.2 HB2.out.size (by intro k hk;cases hk;exact Jr.out);obtain⟨gp,Ck⟩:∃gp,w3.heap.size=gp:=⟨_,rfl⟩;obtain⟨w4,hw4⟩:∃w4,w4=(w3.alloc (.cells #[.slice x1 n1 y1,.slice x2 n2 y2,.slice x3 n3 y3] 28)).alloc (.cells #[.slice u1 m1 v1,.slice u2 m2 v2,.slice u3 m3 v3] 28):=⟨_,rfl⟩;rw[←hw4];have hk4:AA Any w3 w4:=by rw[hw4];exact(AB.alloc _).alloc _
 have UT:Below w1.heap.size w1 w4:=by rw[hw4];exact(Ns.alloc Ns.size _).alloc (by simp;exact Nat.le_succ_of_le Ns.size) _
 have sS:w4.heap[gp]?=some (.cells #[.slice x1 n1 y1,.slice x2 n2 y2,.slice x3 n3 y3] 28 (0,0)):=by rw[hw4,←Ck];exact(LK _ _ (by simp)).trans (Av w3 _)
 have hq4:w4.heap[gp+1]?=some (.cells #[.slice u1 m1 v1,.slice u2 m2 v2,.slice u3 m3 v3] 28 (0,0)):=by rw[hw4,←Ck];exact Bv.new2 w3 _ _
 have hz0:=(UT.block g0 (by have:=BA.out;omega)).trans HZ.out.1;have hz1:=(UT.block (g0+1) (by have:=BA.out;omega)).trans HZ.out.2;have hwz:w.heap.size≤w1.heap.size:=HB1.out.size;have nP:w.heap.size≤w2.heap.size:=Ab hwz HB2.out.size;have HPF:=hid (show UU w (.returned (.tuple #[.agg #[.slice x1 n1 y1,.slice x2 n2 y2,.slice x3 n3 y3],.agg #[.slice u1 m1 v1,.slice u2 m2 v2,.slice u3 m3 v3]])) ((((((w4.setCell ⟨g0,0,none⟩ (.slice x1 n1 y1)).setCell ⟨g0,1,none⟩ (.slice x2 n2 y2)).setCell ⟨g0,2,none⟩ (.slice x3 n3 y3)).setCell ⟨g0+1,0,none⟩ (.slice u1 m1 v1)).setCell ⟨g0+1,1,none⟩ (.slice u2 m2 v2)).setCell ⟨g0+1,2,none⟩ (.slice u3 m3 v3)) from by
  have t0:=Bh.keep (B:=w.heap.size) hk4 fun _ _=>trivial;have t1:=Bh.GX (B:=w.heap.size) (x:=.slice x1 n1 y1) (y:=.slice x2 n2 y2) (z:=.slice x3 n3 y3) hz0;have e1:(((w4.setCell ⟨g0,0,none⟩ (.slice x1 n1 y1)).setCell ⟨g0,1,none⟩ (.slice x2 n2 y2)).setCell ⟨g0,2,none⟩ (.slice x3 n3 y3)).heap[g0+1]?=some Bu:=by
   rw[DT _ ⟨g0,2,none⟩ _ _ (by simp),DT _ ⟨g0,1,none⟩ _ _ (by simp),DT _ ⟨g0,0,none⟩ _ _ (by simp)];exact hz1
  have t2:=Bh.GX (B:=w.heap.size) (x:=.slice u1 m1 v1) (y:=.slice u2 m2 v2) (z:=.slice u3 m3 v3) e1;have hB:Below w.heap.size w w4:=HB1.out.trans (UT.mono hwz);have h0:=Jn.out;refine⟨_,_,_,_,_,_,_,_,_,_,_,_,_,_,_,_,_,_,rfl,PA.ty (PA.ty (PA.ty (PA.mono hp nP) t0) t1) t2,PA.ty (PA.ty (PA.ty (PA.mono hq nP) t0) t1) t2,?_⟩;exact(((((hB.setCell (p:=⟨g0,0,none⟩) (by exact Nat.le_of_eq h0) _).setCell (p:=⟨g0,1,none⟩) (by exact Nat.le_of_eq h0) _).setCell (p:=⟨g0,2,none⟩) (by exact Nat.le_of_eq h0) _).setCell (p:=⟨g0+1,0,none⟩) (by show w.heap.size≤g0+1;omega) _).setCell (p:=⟨g0+1,1,none⟩) (by show w.heap.size≤g0+1;omega) _).setCell (p:=⟨g0+1,2,none⟩) (by show w.heap.size≤g0+1;omega) _)
 have HZ4:=hid (And.intro hz0 hz1);obtain⟨⟨d0,d1,d2⟩,-⟩:=AO sS;obtain⟨⟨q0,q1,q2⟩,-⟩:=AO hq4;have hgl:=(BX.1 sS).1;have JH:=(BX.1 hq4).1;obtain⟨⟨e0,e1,e2⟩,f0,f1,f2⟩:=AO hz0;obtain⟨⟨e3,e4,e5⟩,f3,f4,f5⟩:=AO hz1;have hb1:¬(g0:Nat)=g0+1:=by omega
 have hb2:¬(g0+1:Nat)=g0:=by omega
 have hgg:g0+2≤gp:=by have h1:=BA.out;have h2:=Ns.size;omega
 have hn1:¬gp=g0:=by omega
 have hn2:¬gp=g0+1:=by omega
 have fM:¬gp+1=g0:=by omega
 have hn4:¬gp+1=g0+1:=by omega
 rw[Ck];clear hw4 Ck sS hq4 hz0 hz1 hk4 UT Ns hp hq hs nO hgg hwz nP;go_region_law (fail);all_goals
  go_wp2_with fail;have hpf:=HPF.out;obtain⟨z,z'⟩:=cZ (x:=.slice x1 n1 y1) (y:=.slice x2 n2 y2) (z:=.slice x3 n3 y3) (x':=.slice u1 m1 v1) (y':=.slice u2 m2 v2) (z':=.slice u3 m3 v3) HZ4.out.1 HZ4.out.2 hb1;obtain⟨W6,JK⟩:∃W6,W6=((((((w4.setCell ⟨g0,0,none⟩ (.slice x1 n1 y1)).setCell ⟨g0,1,none⟩ (.slice x2 n2 y2)).setCell ⟨g0,2,none⟩ (.slice x3 n3 y3)).setCell ⟨g0+1,0,none⟩ (.slice u1 m1 v1)).setCell ⟨g0+1,1,none⟩ (.slice u2 m2 v2)).setCell ⟨g0+1,2,none⟩ (.slice u3 m3 v3)):=⟨_,rfl⟩;rw[←JK]at hpf z z';rw[←JK];clear JK e0 e1 e2 e3 e4 e5 f0 f1 f2 f3 f4 f5;obtain⟨⟨z0,z1,z2⟩,-⟩:=AO z;obtain⟨⟨z3,z4,z5⟩,-⟩:=AO z';exact Am (v:=.tuple #[.agg #[.slice x1 n1 y1,.slice x2 n2 y2,.slice x3 n3 y3],.agg #[.slice u1 m1 v1,.slice u2 m2 v2,.slice u3 m3 v3]]) (by simp[results,Tryz.results7,go_sem,z0,z1,z2,z3,z4,z5]) rfl (UU.dr hpf)
end Go.Proofs.YtlmlamcoeegkbaaGreat.DxH
namespace Go.Proofs.YtlmlamcoeegkbaaGreat.sV
open Go Go.Maps Go.RowKit Go.Proofs.YtlmlamcoeegkbaaGreat AJ CV Gen Dq F9 PU IM JD OL sW SfM WQ
open Go.Proofs.YtlmlamcoeegkbaaGreat.DL (Any)
open Go.Proofs.YtlmlamcoeegkbaaGreat.Bv (AO BL)
def Qb (P:Bq)(k:Int)(S:Bq):Prop:=(k=1∧¬Cg.CQ P)∨∃T,P=AX T∧Cg.CQ P∧((k=3∧27<sz T)∨(k=5∧sz T≤27)∨(k=0∧sz T≤27∧∃q S',(q=2∨q=3∨q=5∨q=7)∧(∀L∈T,L.o=q)∧S=AX S'∧Std T q S'∧S'.length=T.length))
def sZ (P:Bq)(w:World)(e:Ending)(w':World):Prop:=∃(a1 a2 a3:Option Addr) (n1 n2 n3 c1 c2 c3:Nat) (k:Int) (S:Bq),e= .returned (.tuple #[.agg #[.slice a1 n1 c1,.slice a2 n2 c2,.slice a3 n3 c3],.int .i64 k])∧Qb P k S∧(k=0→Aw Any w' (.slice a1 n1 c1) (.slice a2 n2 c2) (.slice a3 n3 c3) S)∧Below w.heap.size w w'
theorem AHQ {w W:World}{g:Nat}{P S:Bq}{k:Int}(hb:Below w.heap.size w W)(hg:w.heap.size≤g)(h:Qb P k S)(hk:k≠0):
  sZ P w (.returned (.tuple #[.agg #[.slice none 0 0,.slice none 0 0,.slice none 0 0],.int .i64 k])) (((W.setCell ⟨g,0,none⟩ (.slice none 0 0)).setCell ⟨g,1,none⟩ (.slice none 0 0)).setCell ⟨g,2,none⟩ (.slice none 0 0)):=
 ⟨_,_,_,_,_,_,_,_,_,_,S,rfl,h,fun h=>absurd h hk,((hb.setCell (p:=⟨g,0,none⟩) hg _).setCell (p:=⟨g,1,none⟩) hg _).setCell (p:=⟨g,2,none⟩) hg _⟩
theorem AAY (w:World)(vO vP vC:Value)(P:Bq)(hP:Aw Any w vO vP vC P):
  Calls Tryz.prog 10 #[.agg #[vO,vP,vC]] w (sZ P w):=by
 obtain⟨w0,hw0⟩:∃w0,w0=(w.alloc (.cells #[vO,vP,vC] 28)).alloc (.cells #[.slice none 0 0,.slice none 0 0,.slice none 0 0] 28):=⟨_,rfl⟩;obtain⟨g0,hg0⟩:∃g0,w.heap.size=g0:=⟨_,rfl⟩;have Jn:=hid hg0;have hk0:AA Any w w0:=by rw[hw0];exact(AB.alloc _).alloc _
 have HB0:=hid (show Below w.heap.size w w0 by rw[hw0];exact(AR.alloc AQ _).alloc (by simp) _);have Gv:=hid (show w0.heap.size=g0+2 by rw[hw0,←hg0];simp);have HA0:=hid (show w0.heap[g0]?=some (.cells #[vO,vP,vC] 28 (0,0)) by rw[hw0,←hg0];exact(LK _ _ (by simp)).trans (Av w _));have HZ0:=hid (show w0.heap[g0+1]?=some (.cells #[.slice none 0 0,.slice none 0 0,.slice none 0 0] 28 (0,0)) by rw[hw0,←hg0];exact Bv.new2 w _ _);have HV:=hid (fun(W:World) (hb:Below w0.heap.size w0 W)=>(hP.keep hk0).keep (AA.of_below (S:=Any) hb));have HX:=hid (fun(W:World) (hb:Below w0.heap.size w0 W)=>And.intro ((hb.block g0 (by have:=Gv.out;omega)).trans HA0.out) (And.intro ((hb.block (g0+1) (by have:=Gv.out;omega)).trans HZ0.out) (And.intro (show g0+1<W.heap.size by have:=hb.size;have:=Gv.out;omega) (HB0.out.trans (hb.mono HB0.out.size)))));have J6:=hid (fun(W:World) (hb:Below w0.heap.size w0 W)=>show Cn Any W g0 0 P by
  obtain⟨x1,-, x3,-⟩:=HX.out W hb;obtain⟨⟨d0,d1,d2⟩,-⟩:=AO x1;exact⟨trivial,by omega,_,_,_,d0,d1,d2,HV.out W hb⟩)
 have sj:=hid (fun(W:World) (hb:Below w0.heap.size w0 W) (k:Int) (S:Bq) (h:Qb P k S) (hk:k≠0)=>AHQ (g:=g0+1) (HX.out W hb).2.2.2 (by omega) h hk);have FR:=hid (mE.Pn w0 vO vP vC P (HV.out w0 AR));obtain⟨x1,x2,x3,-⟩:=HX.out w0 AR;obtain⟨⟨d0,d1,d2⟩,-⟩:=AO x1;obtain⟨⟨e0,e1,e2⟩,f0,f1,f2⟩:=AO x2;have hgl:g0<w0.heap.size:=by omega
 clear hP hk0 x1 x2;go_enter Tryz.func10,Tryz.ntmps10;go_upto_region 1 with fail;rw[←hw0];clear hw0;go_wp2_with fail;refine FR.out.mono ?_;rintro e w1 ⟨r,rfl,hr,hb1⟩;have HB1:=hid hb1;by_cases hG:Cg.CQ P
 ·obtain rfl:r=true:=hr.2 hG;obtain⟨T,rfl⟩:∃T,P=AX T:=by obtain⟨T,_,_,h,_⟩:=hG;exact⟨T,h⟩
  have HG:=hid hG;have Bw:=hid (Qz hG);have hz:=(O6.Pw hG).2;have HOD:=hid (MU.I5 T Bw.out.1 Bw.out.2.1.1 hz w1 g0 0 (J6.out w1 hb1));obtain⟨x1,x2,x3,-⟩:=HX.out w1 hb1;obtain⟨⟨d0,d1,d2⟩,-⟩:=AO x1;obtain⟨⟨e0,e1,e2⟩,f0,f1,f2⟩:=AO x2;obtain⟨n,hn⟩:∃n,T.length=n:=⟨_,rfl⟩;have X9:(AX T).os=ints (T.map (·.o)):=by simp[AX,ints]
  obtain⟨aO,cO,rfl,Bc⟩:∃a c,vO= .slice a n c∧n≤c:=by
   have h:=(HV.out w1 hb1).os;rw[X9]at h;have h2:=AL.open h;rwa[Ce,hn]at h2
  have HN:=hid hn;have Gw:=hid (fun(W:World) (hb:Below w0.heap.size w0 W)=>show AL Any W (.slice aO n cO) (ints (T.map (·.o))) from by have:=(HV.out W hb).os;rwa[X9]at this);obtain⟨q,hq,hq0⟩:∃q,(q=2∨q=3∨q=5∨q=7)∧∀L,T[0]?=some L→L.o=q:=by
   cases hT0:T with
   |nil=>exact⟨2,.inl rfl,fun L h=>by simp at h⟩
   |cons L T'=>exact⟨L.o,Bw.out.2.2.2 L (by rw[hT0];exact CE),fun K h=>by rw[A8,EN]at h;rw[h]⟩
  have HQ:=hid hq;have Um:=hid hq0;have M5:n≤6:=by rw[←hn];exact Bw.out.2.1.1
  clear hr hG x1 x2 hb1 hn hq hq0 X9;go_upto_if 11 with(go_at_call 35;refine HOD.out.mono ?_;rintro e w2 ⟨rfl,hb2⟩);have XD:Below w0.heap.size w0 w2:=HB1.out.trans (hb2.mono HB1.out.size);have HB2:=hid XD;obtain⟨x1,x2,x3,-⟩:=HX.out w2 XD;obtain⟨⟨d0,d1,d2⟩,-⟩:=AO x1;obtain⟨⟨e0,e1,e2⟩,f0,f1,f2⟩:=AO x2;have SQ:=hid (BL (x:=.slice none 0 0) (y:=.slice none 0 0) (z:=.slice none 0 0) x2);clear x1 x2 hb2;by_cases h27:27<sz T
  ·have hd:decide ((27:Int)<(sz T:Int))=true:=by simp;omega
   have DZ:=hid (sj.out w2 XD 3 (AX T) (.inr ⟨T,rfl,HG.out,.inl ⟨rfl,h27⟩⟩) (by decide));obtain⟨⟨z0,z1,z2⟩,-⟩:=AO SQ.out;clear XD;go_wp2_with fail;exact Am (v:=.tuple #[.agg #[.slice none 0 0,.slice none 0 0,.slice none 0 0],.int .i64 3]) (by simp[results,Tryz.results10,go_sem,z0,z1,z2]) rfl DZ.out
  ·have hd:decide ((27:Int)<(sz T:Int))=false:=by simp;omega
   have h27':sz T≤27:=by omega
   have su:=hid h27';clear XD SQ h27;go_upto_region 6 with fail;clear x3 d0 d1 d2 e0 e1 e2 f0 f1 f2;go_loopw [16] (fun iv W=>∃j:Nat,iv= .int .i64 (j:Int)∧j≤n∧Hid (∀(m:Nat) (L:Lv),m<j→T[m]?=some L→L.o=q)∧Hid (Below w0.heap.size w0 W)) (fun iv _=>n-(intOf iv).toNat);case atStart=>exact⟨0,rfl,AU _,hid (fun m L h=>absurd h (DX _)),HB2⟩
   case round=>
    obtain⟨j,rfl,hj,hall,hB⟩:=hrel;obtain⟨x1,x2,x3,-⟩:=HX.out wr hB.out;obtain⟨⟨d0,d1,d2⟩,-⟩:=AO x1;obtain⟨⟨e0,e1,e2⟩,f0,f1,f2⟩:=AO x2;have SQ:=hid x2;clear x1 x2;by_cases hjn:j<n
    ·have hd:decide ((j:Int)<(n:Int))=true:=by simp;omega
     obtain⟨L,hL⟩:∃L,T[j]?=some L:=⟨_,AP (by have:=HN.out;omega)⟩;obtain⟨L0,hL0⟩:∃L,T[0]?=some L:=⟨_,AP (by have:=HN.out;omega)⟩;obtain⟨bO,oO,rfl,-, Ch,hcx⟩:=AL.at (Gw.out wr hB.out) (j:=j) (q:=L.o) (by simp[hL]);obtain⟨_,_,e9,-, _,hc0⟩:=AL.at (Gw.out wr hB.out) (j:=0) (q:=q) (by simp[hL0,Um.out L0 hL0]);simp only[EN,IU,and_true]at e9;obtain⟨rfl,rfl⟩:=e9;rw[P5]at hc0;have HL:=hid hL;clear hL hL0;by_cases hq:L.o=q
     ·have hbe:((L.o:Int) !=(q:Int))=false:=by simp[hq]
      go_wp2_with fail;go_roundw;case rel=>exact⟨j+1,by go_num,by omega,hid (fun m K hm hK=>by
       by_cases e:m=j
       ·subst e;have h:=HL.out.symm.trans hK;rw[EN]at h;rw[←h];exact hq
       ·exact hall.out m K (by omega) hK),hB⟩
      case measure=>simp[intOf];omega
     ·have hbe:((L.o:Int) !=(q:Int))=true:=by simp;omega
      have DZ:=hid (sj.out wr hB.out 5 (AX T) (.inr ⟨T,rfl,HG.out,.inr (.inl ⟨rfl,su.out⟩)⟩) (by decide));obtain⟨⟨z0,z1,z2⟩,-⟩:=AO (BL (x:=.slice none 0 0) (y:=.slice none 0 0) (z:=.slice none 0 0) SQ.out);go_wp2_with fail;exact Am (v:=.tuple #[.agg #[.slice none 0 0,.slice none 0 0,.slice none 0 0],.int .i64 5]) (by simp[results,Tryz.results10,go_sem,z0,z1,z2]) rfl DZ.out
    ·obtain rfl:j=n:=by omega
     have hd:decide ((j:Int)<(j:Int))=false:=by simp
     have ACF:=hid (show∀L∈T,L.o=q from fun L hL=>by
      obtain⟨m,hm⟩:=IP hL;exact hall.out m L (by have:=(Ak.1 hm).1;have:=HN.out;omega) hm)
     have HST:=hid (ADx T Bw.out.1 Bw.out.2.1 Bw.out.2.2.1 q HQ.out ACF.out su.out wr g0 0 (J6.out wr hB.out));have hx3:=x3;clear hall d0 d1 d2 e0 e1 e2 f0 f1 f2 x3 SQ;go_upto_region 11 with fail;go_wp2_with (go_at_call 36;refine HST.out.mono ?_;rintro e w3 ⟨S,v1,v2,v3,hS,hSl,rfl,YA,hb3⟩;obtain⟨a1,c1,rfl,-, -⟩:=Bl.form YA.os;obtain⟨a2,c2,rfl,-, -⟩:=Bl.form YA.ps;obtain⟨a3,c3,rfl,-, -⟩:=Bl.form YA.cs;have ACG:=hB.out.trans (hb3.mono hB.out.size);obtain⟨x1,x2,x3,x4⟩:=HX.out w3 ACG;obtain⟨⟨e0,e1,e2⟩,f0,f1,f2⟩:=AO x2;have HZ3:=hid x2;have Xv:=hid x4;have ACH:=hid (And.intro hS hSl);have HV3:=hid YA;clear x1 x2 x4 hS hSl YA hb3 ACG);have DZ:=hid (show sZ (AX T) w (.returned (.tuple #[.agg #[.slice a1 (AX S).os.length c1,.slice a2 (AX S).ps.length c2,.slice a3 (AX S).cs.length c3],.int .i64 0])) (((w3.setCell ⟨g0+1,0,none⟩ (.slice a1 (AX S).os.length c1)).setCell ⟨g0+1,1,none⟩ (.slice a2 (AX S).ps.length c2)).setCell ⟨g0+1,2,none⟩ (.slice a3 (AX S).cs.length c3)) from
      ⟨_,_,_,_,_,_,_,_,_,_,AX S,rfl,.inr ⟨T,rfl,HG.out,.inr (.inr ⟨rfl,su.out,q,S,HQ.out,ACF.out,rfl,ACH.out.1,ACH.out.2⟩)⟩,fun _=>(HV3.out.keep ((((AA.refl (fun k=>wr.heap.size≤k) w3).setCell (p:=⟨g0+1,0,none⟩) (show¬wr.heap.size≤g0+1 by omega) _).setCell (p:=⟨g0+1,1,none⟩) (show¬wr.heap.size≤g0+1 by omega) _).setCell (p:=⟨g0+1,2,none⟩) (show¬wr.heap.size≤g0+1 by omega) _)).mono fun _ _=>trivial,
       ((Xv.out.setCell (p:=⟨g0+1,0,none⟩) (show w.heap.size≤g0+1 by omega) _).setCell (p:=⟨g0+1,1,none⟩) (show w.heap.size≤g0+1 by omega) _).setCell (p:=⟨g0+1,2,none⟩) (show w.heap.size≤g0+1 by omega) _⟩)
     obtain⟨⟨z0,z1,z2⟩,-⟩:=AO (BL (x:=.slice a1 (AX S).os.length c1) (y:=.slice a2 (AX S).ps.length c2) (z:=.slice a3 (AX S).cs.length c3) HZ3.out);exact Am (v:=.tuple #[.agg #[.slice a1 (AX S).os.length c1,.slice a2 (AX S).ps.length c2,.slice a3 (AX S).cs.length c3],.int .i64 0]) (by simp[results,Tryz.results10,go_sem,z0,z1,z2]) rfl DZ.out
 ·obtain rfl:r=false:=by
   cases r with
   |false=>rfl
   |true=>exact absurd (hr.1 rfl) hG
  have DZ:=hid (sj.out w1 hb1 1 P (.inl ⟨rfl,hG⟩) (by decide));obtain⟨x1,x2,x3,-⟩:=HX.out w1 hb1;obtain⟨⟨d0,d1,d2⟩,-⟩:=AO x1;obtain⟨⟨e0,e1,e2⟩,f0,f1,f2⟩:=AO x2;obtain⟨⟨z0,z1,z2⟩,-⟩:=AO (BL (x:=.slice none 0 0) (y:=.slice none 0 0) (z:=.slice none 0 0) x2);clear hr hG x1 x2 hb1;go_wp2_with fail;exact Am (v:=.tuple #[.agg #[.slice none 0 0,.slice none 0 0,.slice none 0 0],.int .i64 1]) (by simp[results,Tryz.results10,go_sem,z0,z1,z2]) rfl DZ.out
end Go.Proofs.YtlmlamcoeegkbaaGreat.sV
namespace Go.Proofs.YtlmlamcoeegkbaaGreat.SfQ
open Go Go.RowKit Go.Proofs.YtlmlamcoeegkbaaGreat AJ CV F9 fO OL sV WQ O6
theorem AGO {p q a b:Nat}(hp:p=2∨p=3∨p=5∨p=7)(hq:q=2∨q=3∨q=5∨q=7)(ha:a≤6)(hb:b≤6)(h:p^a=q^b):a=b∧(p=q∨a=0):=by
 have H:∀p∈[2,3,5,7],∀q∈[2,3,5,7],∀a,a≤6→∀b,b≤6→p^a=q^b→a=b∧(p=q∨a=0):=by decide+kernel
 exact H p (by simpa using hp) q (by simpa using hq) a ha b hb h
theorem AHw {P Q R S:Bq}{n k k1 k2:Int}(hc:RN P Q n k)(h1:Qb P k1 R)(h2:Qb Q k2 S)(hk:k≠0):k1≠0∨k2≠0:=by
 rcases hc with⟨_,_,hn⟩|⟨T,U,rfl,rfl,gT,gU,h⟩
 ·by_cases gP:Cg.CQ P
  ·have gQ:¬Cg.CQ Q:=fun h=>hn ⟨gP,h⟩;rcases h2 with⟨rfl,_⟩|⟨_,_,g,_⟩
   ·exact .inr (by decide)
   ·exact absurd g gQ
  ·rcases h1 with⟨rfl,_⟩|⟨_,_,g,_⟩
   ·exact .inl (by decide)
   ·exact absurd g gP
 ·rcases h with⟨_,_,h⟩|⟨_,e,_⟩|⟨e,_⟩
  ·rcases h with h|h
   ·rcases h1 with⟨_,g⟩|⟨T',e,_,⟨rfl,_⟩|⟨rfl,hz⟩|⟨_,hz,_⟩⟩
    ·exact absurd gT g
    ·exact .inl (by decide)
    ·exact .inl (by decide)
    ·obtain rfl:=Cg.K9 e;omega
   ·rcases h2 with⟨_,g⟩|⟨T',e,_,⟨rfl,_⟩|⟨rfl,hz⟩|⟨_,hz,_⟩⟩
    ·exact absurd gU g
    ·exact .inr (by decide)
    ·exact .inr (by decide)
    ·obtain rfl:=Cg.K9 e;omega
  ·exact absurd e hk
  ·exact absurd e hk
theorem zi {P:Bq}{R:Bq}{T:Tw}{k1:Int}(hP:P=AX T)(gT:Cg.CQ (AX T))(hz:sz T≤27)(h1:Qb P k1 R):k1=0∨k1=5:=by
 subst hP;rcases h1 with⟨_,g⟩|⟨T',e,_,⟨rfl,hz'⟩|⟨rfl,_⟩|⟨rfl,_⟩⟩
 ·exact absurd gT g
 ·obtain rfl:=Cg.K9 e;omega
 ·exact .inr rfl
 ·exact .inl rfl
theorem yf {P Q:Bq}{n:Int}(hc:RN P Q n 0):∃T U,P=AX T∧Q=AX U∧Cg.CQ (AX T)∧Cg.CQ (AX U)∧sz T≤27∧sz U≤27∧((n=0∧sz T≠sz U)∨(sz T=sz U∧n=((Grow.grow U T T.length []).length:Int))):=by
 rcases hc with⟨_,e,_⟩|⟨T,U,rfl,rfl,gT,gU,h⟩
 ·omega
 ·rcases h with⟨_,e,_⟩|⟨e,_,h1,h2,h3⟩|⟨_,h1,h2,h3⟩
  ·omega
  ·exact⟨T,U,rfl,rfl,gT,gU,h1,h2,.inl ⟨e,h3⟩⟩
  ·exact⟨T,U,rfl,rfl,gT,gU,by omega,h2,.inr ⟨h1,h3⟩⟩
theorem AHR {P Q R S:Bq}{n:Int}(hc:RN P Q n 0)(h1:Qb P 0 R)(h2:Qb Q 0 S):R=S↔0<n:=by
 obtain⟨T,U,rfl,rfl,gT,gU,z1,z2,h⟩:=yf hc;rcases h1 with⟨e,_⟩|⟨T',e,_,⟨e',_⟩|⟨e',_⟩|⟨_,_,q,S1,hq,ho,rfl,hS1,l1⟩⟩
 ·omega
 ·omega
 ·omega
 obtain rfl:=Cg.K9 e;rcases h2 with⟨e,_⟩|⟨U',e,_,⟨e',_⟩|⟨e',_⟩|⟨_,_,q',S2,hq',ho',rfl,hS2,l2⟩⟩
 ·omega
 ·omega
 ·omega
 obtain rfl:=Cg.K9 e;obtain⟨wT,sT,De,pT⟩:=Qz gT;obtain⟨wU,sU,OE,pU⟩:=Qz gU;have hinj:AX S1=AX S2↔S1=S2:=⟨Cg.K9,fun h=>by rw[h]⟩;rw[hinj];rcases h with⟨rfl,hne⟩|⟨heq,rfl⟩
 ·refine⟨fun h=>absurd ?_ hne,fun h=>by omega⟩;subst h;rw[KL ho,KL ho',←l1,←l2,←KL hS1.good.2.2.1,←KL hS2.good.2.2.1]
 ·obtain⟨hab,hqq⟩:=AGO hq hq' sT.1 sU.1 (by rw[←KL ho,←KL ho',heq]);rw[show(0:Int)<((Grow.grow U T T.length []).length:Int)↔0<(Grow.grow U T T.length []).length by omega,←xD gT gU];rcases hqq with rfl|h0
  ·exact zk wT De wU OE pT ho ho' hab hS1 hS2 l1 l2
  ·obtain rfl:T=[]:=EY h0;obtain rfl:U=[]:=EY (by omega);obtain rfl:S2=[]:=EY l2;exact zk (q:=q) wT De wU OE pT ho (fun L h=>by simp at h) hab hS1 trivial l1 l2
end Go.Proofs.YtlmlamcoeegkbaaGreat.SfQ
