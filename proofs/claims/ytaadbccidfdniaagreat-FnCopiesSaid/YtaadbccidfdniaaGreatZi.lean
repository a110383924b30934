import Derived.Test.YtaadbccidfdniaaGreatZ0
import Derived.Test.YtaadbccidfdniaaGreatZg
import Derived.Test.YtaadbccidfdniaaGreatZh
import Derived.Test.YtaadbccidfdniaaGreatZf
import Derived.Deep.CutBlock
/-
  Lemmas for the law FnCopies, in short spelling.
-/
open Go.Lib (hid)
set_option linter.unusedVariables false
set_option linter.unusedSimpArgs false
set_option maxRecDepth 100000
set_option maxHeartbeats 40000000
namespace Go.Proofs.YtaadbccidfdniaaGreat.XA
open Go.Proofs.YtaadbccidfdniaaGreat.DwV (ADW)
open Go.RowKit Go.Lib Go.Proofs.YtaadbccidfdniaaGreat AB Val Dp Cn Dm Df Cc Gl Ud Wy xq lX
def RlR (B n:Nat)(w:World)(e:Ending)(w':World):Prop:=∃a1 c1 a2 c2 a3 c3 b,e= .returned (.tuple #[.agg #[.slice a1 n c1,.slice a2 n c2,.slice a3 n c3],.bool b])∧PT B w' n (.slice a1 n c1) (.slice a2 n c2) (.slice a3 n c3)∧Below w.heap.size w w'
theorem AKx {L:List ByteArray}(h:L.length=2):∃x0 x1,L=[x0,x1]:=by
 match L,h with
 |[a,b],_=>exact⟨a,b,rfl⟩
theorem Ty.box {B b i:Nat}{w:World}{c:Value}{cur:Array Value}(hb:w.heap[b]?=some (.cells cur 28 (0,0))):Ty B w (w.setCell ⟨b,i,none⟩ c):=
 Ty.lF (fun n v h=>h.other hb (by decide)) (fun L v us h g=>⟨us,JK h hb (by decide),fun i n hi=>by obtain⟨u,h1,h2⟩:=g i n hi;exact⟨u,h1,h2.other hb (by decide)⟩⟩)
  (fun M v us h g h2=>⟨us,JK h hb (by decide),fun i L hi=>by obtain⟨u,h1,h3⟩:=g i L hi;exact⟨u,h1,h2 _ _ h3⟩⟩)
theorem Ty.Kn {B g:Nat}{w:World}{a b c x y z:Value}(h:w.heap[g]?=some (.cells #[a,b,c] 28 (0,0))):Ty B w (((w.setCell ⟨g,0,none⟩ x).setCell ⟨g,1,none⟩ y).setCell ⟨g,2,none⟩ z):=by
 have e1:(w.setCell ⟨g,0,none⟩ x).heap[g]?=some (.cells #[x,b,c] 28 (0,0)):=GV w g 0 _ _ _ h;have e2:((w.setCell ⟨g,0,none⟩ x).setCell ⟨g,1,none⟩ y).heap[g]?=some (.cells #[x,y,c] 28 (0,0)):=GV _ g 1 _ _ _ e1;exact((Ty.box h).trans (Ty.box e1)).trans (Ty.box e2)
def VcR (n:Nat)(w:World)(e:Ending)(w':World):Prop:=∃a k c b,e= .returned (.tuple #[.slice a k c,.bool b])∧(b=true→k=n∧R1 w.heap.size w' n (.slice a n c))∧Below w.heap.size w w'
theorem ALf {n:Nat}{w w':World}{e:Ending}(h:jS n w e w'):VcR n w e w':=by
 rcases h with⟨g,c,rfl,h1,h2⟩|⟨rfl,h2⟩
 ·exact⟨_,_,_,_,rfl,fun _=>⟨rfl,h1⟩,h2⟩
 ·exact⟨_,_,_,_,rfl,fun h=>Bool.noConfusion h,h2⟩
theorem slot_ne {B N n gp i g:Nat}{w:World}{vO vP vC:Value}(h:Slot B N w gp i)(hx:PX B n w g vO vP vC):¬g=gp:=fun e=>by
 obtain⟨_,_,_,cur,u0,h4,_⟩:=h;rw[←e,hx.1]at h4;simp at h4
theorem ALg (B n:Nat)(hn:n≤20)(s:ByteArray)(hs:s.size≤1000)(a1 a2 a3:Option Addr)(c1 c2 c3:Nat)(w:World)(hBw:B≤w.heap.size)(hA:PT B w n (.slice a1 n c1) (.slice a2 n c2) (.slice a3 n c3)):
  Calls Tryz.prog 172 #[.agg #[.slice a1 n c1,.slice a2 n c2,.slice a3 n c3],.string s] w (RlR B n w):=by
 obtain⟨g0,hg0⟩:∃g0,w.heap.size=g0:=⟨_,rfl⟩;obtain⟨w1,hw1⟩:∃w1,w1=(w.alloc (.cells #[.slice a1 n c1,.slice a2 n c2,.slice a3 n c3] 28)).alloc CG:=⟨_,rfl⟩;have Jj:=hid hg0;have HB1:=hid (show Below w.heap.size w w1 by rw[hw1];exact(AX.alloc AR _).alloc (by simp) _);have BI:=hid (show w1.heap.size=g0+2 by rw[hw1,←hg0];simp);have HP:=hid (fun(W:World) (hb:Below w1.heap.size w1 W)=>show W.heap[g0]?=some (.cells #[.slice a1 n c1,.slice a2 n c2,.slice a3 n c3] 28 (0,0)) from
  (hb.block g0 (by rw[BI.out];omega)).trans (by rw[hw1,←hg0];exact(E5 _ _ _ (by simp)).trans (BA w _)))
 have HR:=hid (fun(W:World) (hb:Below w1.heap.size w1 W)=>show W.heap[g0+1]?=some CG∧g0+1<W.heap.size from
  ⟨(hb.block (g0+1) (by rw[BI.out];omega)).trans (by rw[hw1,←hg0];exact new2 w _ _),by have:=hb.size;rw[BI.out]at this;omega⟩)
 have NB:=hid (fun(W:World) (hb:Below w1.heap.size w1 W)=>hA.ty (Ty.below (HB1.out.trans (hb.mono HB1.out.size))));have HF:=hid (fun(W:World) (hb:Below w.heap.size w W) (x1 x2 x3:Option Addr) (y1 y2 y3:Nat) (b:Bool) (hz:W.heap[g0+1]?=some CG) (hP:PT B W n (.slice x1 n y1) (.slice x2 n y2) (.slice x3 n y3))=>show RlR B n w (.returned (.tuple #[.agg #[.slice x1 n y1,.slice x2 n y2,.slice x3 n y3],.bool b])) (((W.setCell ⟨g0+1,0,none⟩ (.slice x1 n y1)).setCell ⟨g0+1,1,none⟩ (.slice x2 n y2)).setCell ⟨g0+1,2,none⟩ (.slice x3 n y3)) from by
  exact⟨_,_,_,_,_,_,b,rfl,hP.ty (Ty.Kn hz),((hb.setCell (p:=⟨g0+1,0,none⟩) (by show w.heap.size≤g0+1;omega) _).setCell (p:=⟨g0+1,1,none⟩) (by show w.heap.size≤g0+1;omega) _).setCell (p:=⟨g0+1,2,none⟩) (by show w.heap.size≤g0+1;omega) _⟩)
 have A9:=hid (fun k (h:w1.heap.size≤k)=>Ad hBw (Ad HB1.out.size h));have HN:=hid (fun(W:World) (hb:Below w1.heap.size w1 W)=>HF.out W (HB1.out.trans (hb.mono HB1.out.size)) _ _ _ _ _ _ false (HR.out W hb).1 (NB.out W hb));have KM:=hid (fun W=>qY s 61 61 rfl hs W);go_enter Tryz.func172,Tryz.ntmps172;go_upto_region 1 with fail;rw[←hw1];clear hw1 hg0 hA hBw;obtain⟨⟨p0,p1,p2⟩,-⟩:=AV (HP.out w1 AX);go_upto_region 3 with(first|(go_at_call 170;refine(KM.out _).mono ?_;rintro e w2 ⟨v,L,m,rfl,Z9,hm1,hm2,Lx,hO,hb2⟩)|fail);obtain⟨av,cv,rfl⟩:=LH hO;have HB2:=hid (show Below w1.heap.size w1 w2 from hb2);have Ui:=hid Lx;have lZ:=hid Z9;have HL:=hid (fun(W:World) (hb:Below w2.heap.size w2 W) (k:Nat) (x:ByteArray) (hk:L[k]?=some x)=>show∃g,av=some ⟨g,0,none⟩∧W.cell? ⟨g,k,none⟩=some (.string x)∧g<W.heap.size from by
  obtain⟨g,c',he,hc1,hgl⟩:=iG hO hk;obtain⟨rfl,rfl⟩:av=some ⟨g,0,none⟩∧cv=c':=by simpa using he
  exact⟨g,rfl,(hb.cell (p:=⟨g,k,none⟩) hgl).trans hc1,Ai hgl hb.size⟩)
 have hm9:(m:Int)≤1001:=by omega
 clear hO hb2 KM p0 p1 p2 Lx Z9 hm1 hm2;go_cut [43] (fun v W=>(∃b,v= .bool b∧(b=false→∃x0 x1,L=[x0,x1]∧x0.size=4))∧W=w2);case first=>
  by_cases hm2:m=2
  ·obtain⟨x0,x1,rfl⟩:=AKx (lZ.out.trans hm2);obtain⟨g,rfl,hc,hgl⟩:=HL.out w2 AX 0 x0 rfl;subst hm2;by_cases h4:x0.size=4
   ·have H4:=hid h4;have h40:0<x0.size:=by omega
    have h42:2<x0.size:=by omega
    have h4i:((x0.size:Int) !=4)=false:=by rw[h4];rfl
    cases hz2:((x0[0].toNat:Int) !=32)with
    |true=>
     go_wp2_with fail;go_meet;exact⟨⟨_,rfl,fun _=>⟨_,_,rfl,H4.out⟩⟩,rfl⟩
    |false=>
     cases hy2:((x0[2].toNat:Int) !=94)<;>
      (go_wp2_with fail
       go_meet;exact⟨⟨_,rfl,fun _=>⟨_,_,rfl,H4.out⟩⟩,rfl⟩)
   ·have h4i:((x0.size:Int) !=4)=true:=bne_iff_ne.2 (by omega);clear h4;go_wp2_with fail;go_meet;exact⟨⟨_,rfl,fun h=>Bool.noConfusion h⟩,rfl⟩
  ·have R5:((m:Int) !=2)=true:=bne_iff_ne.2 (by omega);clear hm2;go_wp2_with fail;go_meet;exact⟨⟨_,rfl,fun h=>Bool.noConfusion h⟩,rfl⟩
 case rest=>
  obtain⟨⟨b,rfl,hb⟩,rfl⟩:=hcut;rename World=>w2;cases b with
  |true=>
   obtain⟨⟨p0,p1,p2⟩,-⟩:=AV (HP.out w2 HB2.out);obtain⟨⟨e0,e1,e2⟩,f0,f1,f2⟩:=AV (HR.out w2 HB2.out).1;have hgl:=(HR.out w2 HB2.out).2;clear hb;go_wp2_with fail;obtain⟨⟨z0,z1,z2⟩,-⟩:=AV (BZ (x:=.slice a1 n c1) (y:=.slice a2 n c2) (z:=.slice a3 n c3) (HR.out w2 HB2.out).1);exact Aj (v:=.tuple #[.agg #[.slice a1 n c1,.slice a2 n c2,.slice a3 n c3],.bool false]) (by simp[results,Tryz.results172,go_sem,z0,z1,z2]) rfl (HN.out w2 HB2.out)
  |false=>
   obtain⟨x0,x1,rfl,h4⟩:=hb rfl;obtain rfl:m=2:=lZ.out.symm;have hs1:x1.size≤1000:=Ad (Ui.out x1 (by simp)) hs;obtain⟨g,rfl,q0,hgl⟩:=HL.out w2 AX 0 x0 rfl;have q1:w2.cell? ⟨g,1,none⟩=some (.string x1):=by
    obtain⟨g',e,h,_⟩:=HL.out w2 AX 1 x1 rfl;obtain rfl:g=g':=by simpa using e
    exact h
   have XB:=hid (fun W=>AHq n (by omega) x1 hs1 W);clear hb;go_upto_region 6 with(first|(go_at_call 181;refine(XB.out _).mono ?_;rintro e w3 ⟨l,a4,c4,b3,rfl,ho3,hp3,hl3,hb3⟩)|fail);have HB3:=hid (show Below w1.heap.size w1 w3 from HB2.out.trans (hb3.mono HB2.out.size));have Tf:=hid (show Below w2.heap.size w2 w3 from hb3);clear q0 q1 hgl;obtain⟨ml,hml⟩:∃ml,l.length=ml:=⟨_,rfl⟩;have HVC:=hid ((AHJ n (by omega) a4 ml c4 l hml w3 (by rw[←hml];exact OA.LM ho3 rfl) (by omega) hp3).mono fun e w' h=>ALf h);rw[hml];clear ho3 hp3 hl3 hml hb3;cases b3 with
   |false=>
    obtain⟨⟨p0,p1,p2⟩,-⟩:=AV (HP.out w3 HB3.out);obtain⟨⟨e0,e1,e2⟩,f0,f1,f2⟩:=AV (HR.out w3 HB3.out).1;have hgl:=(HR.out w3 HB3.out).2;go_wp2_with fail;obtain⟨⟨z0,z1,z2⟩,-⟩:=AV (BZ (x:=.slice a1 n c1) (y:=.slice a2 n c2) (z:=.slice a3 n c3) (HR.out w3 HB3.out).1);exact Aj (v:=.tuple #[.agg #[.slice a1 n c1,.slice a2 n c2,.slice a3 n c3],.bool false]) (by simp[results,Tryz.results172,go_sem,z0,z1,z2]) rfl (HN.out w3 HB3.out)
   |true=>
    go_upto_region 9 with(first|(go_at_call 182;refine HVC.out.mono ?_;rintro e w4 ⟨a5,k5,c5,b4,rfl,hr4,hb4⟩)|fail);have Bl:=hid (show Below w1.heap.size w1 w4 from HB3.out.trans (hb4.mono HB3.out.size));have Y5:=hid (show Below w3.heap.size w3 w4 from hb4);have HR4:=hid hr4;obtain⟨g',eg,q0,hgl⟩:=HL.out w4 (Tf.out.trans (hb4.mono Tf.out.size)) 0 x0 rfl;obtain rfl:g=g':=by simpa using eg
    have hl1:1<x0.size:=by omega
    have hl3:3<x0.size:=by omega
    obtain⟨x,hx⟩:∃x:Int,(x0[1].toNat:Int)-97=x:=⟨_,rfl⟩;obtain⟨y,hy⟩:∃x:Int,(x0[3].toNat:Int)-97=x:=⟨_,rfl⟩;have hx1:=x0[1].toNat_lt;have hy1:=x0[3].toNat_lt;have hwx:IntKind.i64.wrap ((x0[1].toNat:Int)-97)=x:=by rw[AY _ (by omega)];exact hx
    have hwy:IntKind.i64.wrap ((x0[3].toNat:Int)-97)=y:=by rw[AY _ (by omega)];exact hy
    have hvx:IntKind.i64.wrap (x0[1].toNat:Int)=(x0[1].toNat:Int):=AY _ (by omega);have hvy:IntKind.i64.wrap (x0[3].toNat:Int)=(x0[3].toNat:Int):=AY _ (by omega);have Ro:=hid (show(-97≤x∧x≤300)∧(-97≤y∧y≤300) by omega);clear hb4 hr4 HVC eg hx hy hx1 hy1;go_cut [12,13] (fun u v W=>u= .int .i64 x∧v= .int .i64 y∧Hid (Below w4.heap.size w4 W));case first=>
     go_region_law (fail);all_goals
      go_wp2_with fail;go_meet;exact⟨rfl,rfl,hid AX.drew⟩
    case rest=>
     obtain⟨rfl,rfl,Aa⟩:=hcut;rename World=>w5;have Le:=hid (show Below w1.heap.size w1 w5 from Bl.out.trans (Aa.out.mono Bl.out.size));clear hwx hwy hvx hvy q0;go_upto_region 10 with fail;go_cut [84] (fun v W=>(∃b,v= .bool b∧(b=false→b4=true∧0≤x∧x<(n:Int)))∧W=w5);case first=>
      cases b4 with
      |false=>
       go_wp2_with fail;go_meet;exact⟨⟨_,rfl,fun h=>Bool.noConfusion h⟩,rfl⟩
      |true=>
       by_cases h1:x<0
       ·go_wp2_with fail;go_meet;exact⟨⟨_,rfl,fun h=>Bool.noConfusion h⟩,rfl⟩
       ·by_cases h2:(n:Int)≤x
        ·go_wp2_with fail;go_meet;exact⟨⟨_,rfl,fun h=>Bool.noConfusion h⟩,rfl⟩
        ·have HH:=hid (show 0≤x∧x<(n:Int) by omega);go_wp2_with fail;go_meet;exact⟨⟨_,rfl,fun _=>⟨by first|rfl|trivial,HH.out⟩⟩,rfl⟩
     case rest=>
      obtain⟨⟨b,rfl,hb⟩,rfl⟩:=hcut;rename World=>w5;cases b with
      |true=>
       clear hb;obtain⟨⟨p0,p1,p2⟩,-⟩:=AV (HP.out w5 Le.out);obtain⟨⟨e0,e1,e2⟩,f0,f1,f2⟩:=AV (HR.out w5 Le.out).1;have hgl:=(HR.out w5 Le.out).2;go_wp2_with fail;obtain⟨⟨z0,z1,z2⟩,-⟩:=AV (BZ (x:=.slice a1 n c1) (y:=.slice a2 n c2) (z:=.slice a3 n c3) (HR.out w5 Le.out).1);exact Aj (v:=.tuple #[.agg #[.slice a1 n c1,.slice a2 n c2,.slice a3 n c3],.bool false]) (by simp[results,Tryz.results172,go_sem,z0,z1,z2]) rfl (HN.out w5 Le.out)
      |false=>
       obtain⟨rfl,hx0,lg⟩:=hb rfl;obtain⟨rfl,hr4⟩:=HR4.out rfl;obtain⟨j,rfl⟩:∃j:Nat,x=(j:Int):=⟨x.toNat,by omega⟩;have hj:j<k5:=by omega
       have L9:=hid (qA k5 (by omega) a1 a2 a3 c1 c2 c3 w5 ((NB.out w5 Le.out).mono (AU _)));clear hb HR4 hx0;obtain⟨⟨p0,p1,p2⟩,-⟩:=AV (HP.out w5 Le.out);go_upto_region 13 with(first|(go_at_call 62;refine L9.out.mono ?_;rintro e w6 ⟨vO,vP,vC,rfl,I5,hb6⟩;obtain⟨XC,y1',l7,y2',l8,XD,rfl,rfl,rfl⟩:=I5.form)|fail);obtain⟨w7,hw7⟩:∃w7,w7=w6.alloc (.cells #[.slice XC k5 y1',.slice l7 k5 y2',.slice l8 k5 XD] 28):=⟨_,rfl⟩;rw[←hw7];obtain⟨g7,Fp⟩:∃g7,w6.heap.size=g7:=⟨_,rfl⟩;rw[Fp];have Tg:=hid (show Below w5.heap.size w5 w7 from by rw[hw7];exact hb6.alloc hb6.size _);have Ml:=hid (show Below w1.heap.size w1 w7 from Le.out.trans (Tg.out.mono Le.out.size));have uB:=hid (show Below w3.heap.size w3 w7 from(Y5.out.trans (Aa.out.mono Y5.out.size)).trans (Tg.out.mono (Ad Y5.out.size Aa.out.size)));have HX:=hid (show PX w3.heap.size k5 w7 g7 (.slice XC k5 y1') (.slice l7 k5 y2') (.slice l8 k5 XD) from by rw[hw7,←Fp];exact MW I5 (Ad Y5.out.size Aa.out.size) (Ad (Ad Y5.out.size Aa.out.size) hb6.size));have HV7:=hid (show R1 w3.heap.size w7 k5 (.slice a5 k5 c5) from(Ty.below (Tg.out)).one _ _ ((Ty.below Aa.out).one _ _ hr4));have R6:=hid (fun(W:World) (hb:Below w7.heap.size w7 W)=>show W.cell? ⟨g,0,none⟩=some (.string x0)∧g<W.heap.size from by
        obtain⟨g',eg,h1,h2⟩:=HL.out W (by
         have h3:=Tf.out.trans (uB.out.mono Tf.out.size);exact h3.trans (hb.mono h3.size)) 0 x0 rfl
        obtain rfl:g=g':=by simpa using eg
        exact⟨h1,h2⟩)
       obtain⟨go,uD,o,rfl,k1,_,_,_,k2⟩:=OA.RQ (NB.out w7 Ml.out).1 hj;have R7:=hid (fun W=>ADW o W);obtain⟨q0,hgl⟩:=R6.out w7 AX;obtain⟨⟨p0,p1,p2⟩,-⟩:=AV (HP.out w7 Ml.out);have AEP:g0<w7.heap.size:=by have h1:=Ml.out.size;have h2:=BI.out;omega
       clear hw7 Fp I5 hb6 L9 hr4;go_cut [98] (fun v W=>(∃b,v= .bool b)∧Hid (Below w7.heap.size w7 W));case first=>
        go_region_law
         (first|(go_simp;go_at_call 183;refine(R7.out _).mono ?_;rintro e wd ⟨sd,rfl,hzd,hbd⟩;have l9:=hid (show Below w7.heap.size w7 wd from(by first|exact hbd|exact(AX.drew).trans hbd));obtain⟨qd0,hgd⟩:=R6.out wd l9.out)|(fail))
        all_goals
         go_wp2_with fail;go_meet;exact⟨⟨_,rfl⟩,l9⟩
       case rest=>
        obtain⟨⟨b,rfl⟩,Cb⟩:=hcut;rename World=>w8;have Ik:=hid (show Below w1.heap.size w1 w8 from Ml.out.trans (Cb.out.mono Ml.out.size));have XE:=hid (show w1.heap.size≤w3.heap.size from HB3.out.size);have EP:=hid (HX.out.below Cb.out);have mD:=hid ((Ty.below Cb.out).one _ _ HV7.out);clear q0 hgl p0 p1 p2 AEP k1 k2 h4 hl1 hl3 HX HV7 R7 HL R6;obtain⟨⟨d0,d1,d2⟩,-⟩:=AV EP.out.1;have jW:=EP.out.lt;obtain⟨⟨e0,e1,e2⟩,f0,f1,f2⟩:=AV (HR.out w8 Ik.out).1;have jX:=(HR.out w8 Ik.out).2;cases b with
        |true=>
         obtain⟨gp,ex2,hsl⟩:=EP.out.Py (i:=j) hj;subst ex2;have hgg:=slot_ne hsl EP.out;obtain⟨u0,hp2⟩:=hsl.cell;have hp1:=hsl.1;have hp3:=hsl.2.2.1;have hg1:¬g0+1=gp:=by have h1:=BI.out;have h2:=XE.out;have h3:=hsl.2.1;omega
         have Ay:=hid hsl;have aD:=hid (hsl.put EP.out mD.out);have Ti:=hid ((GR w8 ⟨gp,j,none⟩ (g0+1) (.slice a5 k5 c5) hg1).trans (HR.out w8 Ik.out).1);have RS:=hid ((HB1.out.trans (Ik.out.mono HB1.out.size)).setCell (p:=⟨gp,j,none⟩) (Ad (Ad HB1.out.size XE.out) hsl.2.1) (.slice a5 k5 c5));clear hsl;go_wp2_with fail;obtain⟨⟨z0,z1,z2⟩,-⟩:=AV (BZ (x:=.slice XC k5 y1') (y:=.slice (some ⟨gp,0,none⟩) k5 y2') (z:=.slice l8 k5 XD) Ti.out);exact Aj (v:=.tuple #[.agg #[.slice XC k5 y1',.slice (some ⟨gp,0,none⟩) k5 y2',.slice l8 k5 XD],.bool true]) (by simp[results,Tryz.results172,go_sem,z0,z1,z2]) rfl (HF.out _ RS.out _ _ _ _ _ _ _ Ti.out (aD.out.2.2.mono (A9.out _ XE.out)))
        |false=>
         go_upto_region 16 with fail;go_cut [111] (fun v W=>(∃b,v= .bool b∧(b=false→0≤y∧y<(j:Int)))∧W=w8);case first=>
          by_cases h1:y<0
          ·go_wp2_with fail;go_meet;exact⟨⟨_,rfl,fun h=>Bool.noConfusion h⟩,rfl⟩
          ·by_cases h2:(j:Int)≤y
           ·go_wp2_with fail;go_meet;exact⟨⟨_,rfl,fun h=>Bool.noConfusion h⟩,rfl⟩
           ·have HH:=hid (show 0≤y∧y<(j:Int) by omega);go_wp2_with fail;go_meet;exact⟨⟨_,rfl,fun _=>HH.out⟩,rfl⟩
         case rest=>
          obtain⟨⟨b,rfl,hb⟩,rfl⟩:=hcut;rename World=>w8;cases b with
          |true=>
           clear hb;obtain⟨⟨p0,p1,p2⟩,-⟩:=AV (HP.out w8 Ik.out);go_wp2_with fail;obtain⟨⟨z0,z1,z2⟩,-⟩:=AV (BZ (x:=.slice (some ⟨go,0,none⟩) k5 c1) (y:=.slice a2 k5 c2) (z:=.slice a3 k5 c3) (HR.out w8 Ik.out).1);exact Aj (v:=.tuple #[.agg #[.slice (some ⟨go,0,none⟩) k5 c1,.slice a2 k5 c2,.slice a3 k5 c3],.bool false]) (by simp[results,Tryz.results172,go_sem,z0,z1,z2]) rfl (HN.out w8 Ik.out)
          |false=>
           obtain⟨hy0,hyj⟩:=hb rfl;obtain⟨i,rfl⟩:∃i:Nat,y=(i:Int):=⟨y.toNat,by omega⟩;obtain⟨kk,hkk⟩:∃kk,j-(i+1)=kk:=⟨_,rfl⟩;have hij:i<j:=by omega
           have hik:i<k5:=by omega
           obtain⟨gc,gr,yr,ex3,hp0,APY,hsl⟩:=EP.out.Vv (i:=i) (j:=kk) hik (by omega);subst ex3;have hgg:=slot_ne hsl EP.out;obtain⟨u0,hp2⟩:=hsl.cell;have hp1:=hsl.1;have hp3:=hsl.2.2.1;have hg1:¬g0+1=gr:=by have h1:=BI.out;have h2:=XE.out;have h3:=hsl.2.1;omega
           have hw1:IntKind.i64.wrap ((j:Int)-(i:Int))=(j:Int)-(i:Int):=AY _ (by omega);have hw2:IntKind.i64.wrap ((j:Int)-(i:Int)-1)=(kk:Int):=by rw[AY _ (by omega)];omega
           obtain⟨ln,hln⟩:∃ln,k5-(i+1)=ln:=⟨_,rfl⟩;rw[hln]at hp0;have hkl:(kk:Int)<(ln:Int):=by omega
           have hkl':kk<ln:=by omega
           have APZ:(i:Int)<(k5:Int):=by omega
           have aD:=hid (hsl.put EP.out mD.out);have Ti:=hid ((GR w8 ⟨gr,kk,none⟩ (g0+1) (.slice a5 k5 c5) hg1).trans (HR.out w8 Ik.out).1);have RS:=hid ((HB1.out.trans (Ik.out.mono HB1.out.size)).setCell (p:=⟨gr,kk,none⟩) (Ad (Ad HB1.out.size XE.out) hsl.2.1) (.slice a5 k5 c5));clear hsl hb hln hkk;go_wp2_with fail;obtain⟨⟨z0,z1,z2⟩,-⟩:=AV (BZ (x:=.slice XC k5 y1') (y:=.slice l7 k5 y2') (z:=.slice (some ⟨gc,0,none⟩) k5 XD) Ti.out);exact Aj (v:=.tuple #[.agg #[.slice XC k5 y1',.slice l7 k5 y2',.slice (some ⟨gc,0,none⟩) k5 XD],.bool true]) (by simp[results,Tryz.results172,go_sem,z0,z1,z2]) rfl (HF.out _ RS.out _ _ _ _ _ _ _ Ti.out (aD.out.2.2.mono (A9.out _ XE.out)))
end Go.Proofs.YtaadbccidfdniaaGreat.XA
namespace Go.Proofs.YtaadbccidfdniaaGreat.DwQ
open Go.RowKit Go.Proofs.YtaadbccidfdniaaGreat AB Val Dp Cn Dm Df Cc OA Ud Wy
structure TOk (n:Nat)(os:List Int)(ps:List (List Nat))(cs:List (List (List Nat))):Prop where
 n6:n≤6
 ol:os.length=n
 pr:∀o∈os,o=2∨o=3∨o=5∨o=7
 pl:ps.length=n
 pv:∀v∈ps,v.length=n∧∀q∈v,q≤7
 cl:cs.length=n
 cv:∀i L,cs[i]?=some L→L.length=n-(i+1)∧∀v∈L,v.length=n∧∀q∈v,q≤7
theorem AEQ (o:Int)(h:o=2∨o=3∨o=5∨o=7)(w:World):Calls Tryz.prog 183 #[.int .i64 o] w (Ij 1 w):=by
 have key:∀m:Nat,(Lib.decDigits m).length≤1→m≤1000→Calls Tryz.prog 183 #[.int .i64 (m:Int)] w (Ij 1 w):=fun m hm hm2=>by
  refine(Y0.AJo m w (by omega)).mono ?_;rintro e w' ⟨rfl,hb⟩;exact⟨_,rfl,by show(Lib.decDigits m).length≤1;exact hm,hb⟩
 rcases h with rfl|rfl|rfl|rfl
 ·exact key 2 (by rw[Lib.decDigits];simp) (by decide)
 ·exact key 3 (by rw[Lib.decDigits];simp) (by decide)
 ·exact key 5 (by rw[Lib.decDigits];simp) (by decide)
 ·exact key 7 (by rw[Lib.decDigits];simp) (by decide)
theorem sH {a b c:World}{B:Nat}(h:Below a.heap.size a b)(hB:B≤b.heap.size)(h2:Below b.heap.size b c):Below a.heap.size a c:=h.trans (h2.mono h.size)
theorem VY {w:World}{v:Value}{n:Nat}{α:Type}{E:World→Value→α→Prop}{S:Nat→Prop}{l:List α}(h:Aq E S w v l)(hn:l.length=n):∃a c,v= .slice a n c:=by
 obtain⟨a,c,h1,_⟩:=h;exact⟨a,c,by rw[h1,hn]⟩
theorem AJx (n:Nat)(os:List Int)(ps:List (List Nat))(cs:List (List (List Nat)))(h:TOk n os ps cs)(vO vP vC:Value)(w:World)(hV:BC (fun _=>True) w vO vP vC ⟨os,ps.map ints,cs.map (fun L=>L.map ints)⟩):
  Calls Tryz.prog 173 #[.agg #[vO,vP,vC]] w (Ij 4000 w):=by
 obtain⟨aO,cO,rfl⟩:=VY hV.os h.ol;obtain⟨aP,cP,rfl⟩:=VY hV.ps (n:=n) (by simp[h.pl]);obtain⟨aC,cC,rfl⟩:=VY hV.cs (n:=n) (by simp[h.cl]);have H:=hid h;have xu:n≤6:=h.n6;have HV:=hid hV;clear h hV;go_enter Tryz.func173,Tryz.ntmps173;go_upto_region 1 with fail;obtain⟨w1,hw1⟩:∃w1,w1=w.alloc (.cells #[.slice aO n cO,.slice aP n cP,.slice aC n cC] 28):=⟨_,rfl⟩;rw[←hw1];have HB1:=hid (show Below w.heap.size w w1 by rw[hw1];exact AX.alloc AR _);have EE:=hid (fun(W:World) (hb:Below w1.heap.size w1 W)=>show(W.cell? ⟨w.heap.size,0,none⟩=some (.slice aO n cO)∧W.cell? ⟨w.heap.size,1,none⟩=some (.slice aP n cP)∧W.cell? ⟨w.heap.size,2,none⟩=some (.slice aC n cC))∧w.heap.size<W.heap.size from by
  have hl:w.heap.size<w1.heap.size:=by rw[hw1];simp
  have hr:w1.heap[w.heap.size]?=some (.cells #[.slice aO n cO,.slice aP n cP,.slice aC n cC] 28 (0,0)):=by rw[hw1];exact BA _ _
  exact⟨sD ((hb.block _ hl).trans hr),Ai hl hb.size⟩)
 have Wv:=hid (HV.out.keep (AA.of_below HB1.out));clear hw1;obtain⟨⟨e0,e1,e2⟩,hgl⟩:=EE.out w1 AX;by_cases hn0:n=0
 ·have hz:((n:Int)==0)=true:=by rw[hn0];rfl
  have HF:=hid (show Ij 4000 w (.returned (.string ⟨#[49]⟩)) w1 from⟨_,rfl,by show 1≤_;omega,HB1.out⟩);clear hn0;go_wp2_with fail;go_ret;exact HF.out
 have hz:((n:Int)==0)=false:=LZ.2 (by omega);clear hn0;go_wp2_with fail;go_loopw [4,5] (fun ov iv wr=>∃(i:Nat) (s:ByteArray),i≤n∧s.size≤2*i∧iv= .int .i64 (i:Int)∧ov= .string s∧Hid (Below w1.heap.size w1 wr)) (fun _ iv _=>n-(intOf iv).toNat);case atStart=>exact⟨0,_,AU _,Av _,rfl,rfl,hid AX⟩
 case round=>
  clear e0 e1 e2 hgl;obtain⟨i,s,hi,hs,rfl,rfl,hB⟩:=hrel;by_cases hlt:i<n
  ·have hki:(i:Int)<(n:Int):=by omega
   have Gb:(0:Int)≤(i:Int):=by omega
   obtain⟨x,hx⟩:∃x,os[i]?=some x:=⟨_,AO (by rw[H.out.ol];exact hlt)⟩;have XF:=hid (H.out.pr x (Ak hx));obtain⟨b',o',u,rfl,_,hbu,Ep,rfl⟩:=J3 (Wv.out.os.keep (AA.of_below hB.out)) hx;obtain⟨⟨e0,e1,e2⟩,hgl⟩:=EE.out wr hB.out;clear hx;have q1:(9223372036854775807<s.size+1)=False:=eq_false (by omega);go_upto_if 20 with(fail);go_cut [4] (fun v W=>∃s':ByteArray,v= .string s'∧s'.size≤2*i+1∧W=wr);case first=>
    by_cases hi0:i=0
    ·have AMn:¬0<i:=by omega
     clear hi0;go_wp2_with fail;go_meet;exact⟨s,rfl,by omega,rfl⟩
    ·have AMn:0<i:=by omega
     clear hi0;go_wp2_with fail;go_meet;exact⟨_,rfl,by rw[ByteArray.size_append];show _+1≤_;omega,rfl⟩
   case rest=>
    obtain⟨s',rfl,hs',rfl⟩:=hcut;rename World=>wr;have R7:=hid (AEQ x XF.out wr);clear hs q1;go_wp2_with (first|(go_at_call 183;refine R7.out.mono ?_;rintro e w2 ⟨s1,rfl,hz1,hb1⟩;have q2:(9223372036854775807<s'.size+s1.size)=False:=eq_false (by omega))|fail);have Bv:=hid (show(s'++s1).size≤2*(i+1) from by rw[ByteArray.size_append];omega);have HB2:=hid (hB.out.trans (hb1.mono hB.out.size));clear hz1 hb1 hB hs' q2;go_roundw;case rel=>exact⟨i+1,_,by omega,Bv.out,by go_num,rfl,HB2⟩
    case measure=>simp[intOf];omega
  ·obtain rfl:n=i:=by omega
   have AER:s.size≤12+0*60:=by omega
   have HB0:=hB;clear hB hs hlt hi;rename World=>w8;go_wp2_with fail;go_loopw [4,6] (fun ov iv wr=>∃(k:Nat) (s:ByteArray),k≤n∧s.size≤12+k*60∧iv= .int .i64 (k:Int)∧ov= .string s∧Hid (Below w1.heap.size w1 wr)) (fun _ iv _=>n-(intOf iv).toNat);case atStart=>exact⟨0,_,AU _,AER,rfl,rfl,HB0⟩
   case round=>
    clear HB0 AER;obtain⟨k,s,hk,hs,rfl,rfl,hB⟩:=hrel;by_cases hlt:k<n
    ·have hki:(k:Int)<(n:Int):=by omega
     have Gb:(0:Int)≤(k:Int):=by omega
     obtain⟨v,hv⟩:∃v,ps[k]?=some v:=⟨_,AO (by rw[H.out.pl];exact hlt)⟩;have H9:=hid (H.out.pv v (Ak hv));obtain⟨b',o',u,rfl,_,hbu,Ep,hsu⟩:=J3 (Wv.out.ps.keep (AA.of_below hB.out)) (show(ps.map ints)[k]?=some (ints v) by simp[hv]);obtain⟨au,cu,rfl⟩:=VY hsu (n:=n) (by rw[BL];exact H9.out.1);obtain⟨⟨e0,e1,e2⟩,hgl⟩:=EE.out wr hB.out;obtain⟨x,hx⟩:∃x,os[k]?=some x:=⟨_,AO (by rw[H.out.ol];exact hlt)⟩;have XF:=hid (H.out.pr x (Ak hx));obtain⟨bq,oq,uq,rfl,_,hbq,hcq,rfl⟩:=J3 (Wv.out.os.keep (AA.of_below hB.out)) hx;have KP:=hid hsu;have HZ:=hid (AKu au n cu (ints v) (by rw[BL];exact H9.out.1) (by omega) wr hsu);clear hv hsu hx;go_upto_block 3 with(fail);go_cut [4] (fun v W=>∃s':ByteArray,v= .string s'∧s'.size≤s.size+60∧Hid (Below w1.heap.size w1 W));case rest=>
      obtain⟨s',rfl,hs',hB'⟩:=hcut;clear KP HZ hB;go_wp2_with fail;go_roundw;case rel=>exact⟨k+1,s',by omega,by omega,by go_num,rfl,hB'⟩
      case measure=>simp[intOf];omega
     case first=>
      have N7:=hid (fun W (hk:AA (fun _=>True) wr W)=>ABY au n cu v H9.out.1 (by omega) H9.out.2 W (KP.out.keep hk));have Iw:=hid (fun W=>om k (by omega) W);have R7:=hid (fun W=>AEQ x XF.out W);have MB:s.size≤400:=by omega
      have c0:(9223372036854775807<s.size+2)=False:=eq_false (by omega);go_upto_if 42 with(go_at_call 184;refine HZ.out.mono ?_;rintro e w5 ⟨r,rfl,rfl⟩);cases r with
      |true=>
       go_wp2_with fail;go_meet;exact⟨s,rfl,by omega,hB⟩
      |false=>
       go_upto_region 15 with fail;go_region_held3 (fun w'=>(∀b o,b<w5.heap.size→w'.cell? ⟨b,o,none⟩=w5.cell? ⟨b,o,none⟩)∧AA (fun _=>True) w5 w')
        (first|exact Au (by repeat(first|exact AJ.drew|exact AA.refl _ _|refine AA.drewN ?_ _|refine AA.trans ?_ (AA.of_below (by assumption)))))
        (first|(go_at_call 185;refine(Iw.out _).mono ?_;rintro e wa ⟨sa,rfl,hza,hba⟩;have c1:(9223372036854775807<s.size+2+sa.size)=False:=(eq_false (by omega));have c2:(9223372036854775807<s.size+2+sa.size+1)=False:=(eq_false (by omega)))|(go_at_call 183;refine(R7.out _).mono ?_;rintro e wb ⟨sx,rfl,hzx,hbx⟩;have c3:(9223372036854775807<s.size+2+sa.size+1+sx.size)=False:=(eq_false (by omega));have c4:(9223372036854775807<s.size+2+sa.size+1+sx.size+1)=False:=(eq_false (by omega)))|(go_at_call 187;refine(N7.out _ (by repeat(first|exact AJ.drew|exact AA.refl _ _|refine AA.drewN ?_ _|refine AA.trans ?_ (AA.of_below (by assumption))))).mono ?_;rintro e w6 ⟨n6,a6,c6,rfl,⟨l6,Gj,A8,-, yA⟩,hb6⟩)|(go_at_call 186;refine(pK a6 n6 c6 l6 Gj (by omega) _ (LM A8 Gj)).mono ?_;rintro e w7 ⟨s7,rfl,yB,Cz⟩;have c5:(9223372036854775807<s.size+2+sa.size+1+sx.size+1+s7.size)=False:=(eq_false (by omega))))
       have h7:Below w5.heap.size w5 w7:=(by repeat(first|exact A7 _ _|exact AX.drew|refine sH ?_ AR (by assumption)));have HB2:=hid (hB.out.trans (h7.mono hB.out.size));have Bv:=hid (show(((((((s++⟨#[59,32]⟩)++sa)++⟨#[94]⟩)++sx)++⟨#[61]⟩)++s7):ByteArray).size≤s.size+60 from by
        simp only[ByteArray.size_append];show s.size+2+sa.size+1+sx.size+1+s7.size≤_;omega)
       clear h7;go_wp2_with fail;go_meet;exact⟨_,rfl,Bv.out,HB2⟩
    ·obtain rfl:n=k:=by omega
     have ADX:s.size≤372+0*360:=by omega
     have Cb:=hid hB.out;clear hB hlt hk hs;rename World=>w9;go_wp2_with fail;go_loopw [4,7] (fun ov iv wr=>∃(i:Nat) (s:ByteArray),i≤n∧s.size≤372+i*360∧iv= .int .i64 (i:Int)∧ov= .string s∧Hid (Below w1.heap.size w1 wr)) (fun _ iv _=>n-(intOf iv).toNat);case atStart=>exact⟨0,_,AU _,ADX,rfl,rfl,Cb⟩
     case round=>
      clear Cb ADX;obtain⟨i,s,hi,hs,rfl,rfl,hB⟩:=hrel;by_cases hlt:i<n
      ·have hki:(i:Int)<(n:Int):=by omega
       have Gb:(0:Int)≤(i:Int):=by omega
       have Lu:i≤6:=by omega
       obtain⟨L,hL⟩:∃L,cs[i]?=some L:=⟨_,AO (by rw[H.out.cl];exact hlt)⟩;obtain⟨MC,hLr⟩:=H.out.cv i L hL;obtain⟨ln,hln⟩:∃ln,n-(i+1)=ln:=⟨_,rfl⟩;rw[hln]at MC;have DV:=hid hln;have AMZ:ln≤6:=by omega
       obtain⟨bC,oC,u,rfl,_,uE,AES,hsu⟩:=J3 Wv.out.cs (show(cs.map (fun L=>L.map ints))[i]?=some (L.map ints) by simp[hL]);obtain⟨aL,cL,rfl⟩:=VY hsu (n:=ln) (by rw[Bh];exact MC);have Ay:=hid hsu;have HCU:=hid (fun(W:World) (hb:Below w1.heap.size w1 W)=>show W.cell? ⟨bC,oC+i,none⟩=some (.slice aL ln cL)∧bC<W.heap.size from⟨((AA.of_below (S:=fun _=>True) hb).cell trivial uE).trans AES,Ai uE hb.size⟩);have HLF:=hid (And.intro MC hLr);have MB:s.size≤372+i*360+0*60:=by omega
       have Gy:=hid hB.out;have hw1:IntKind.i64.wrap ((i:Int)+1)=(i:Int)+1:=AY _ (by omega);have hin:i+1+ln=n:=by omega
       clear hL MC hLr hln hsu hs hB uE AES;go_wp2_with fail;go_loopw [4,8] (fun ov jv wr=>∃(k:Nat) (s:ByteArray),k≤ln∧s.size≤372+i*360+k*60∧jv= .int .i64 ((i:Int)+1+(k:Int))∧ov= .string s∧Hid (Below w1.heap.size w1 wr)) (fun _ jv _=>n-(intOf jv).toNat);case atStart=>exact⟨0,_,AU _,MB,by simp,rfl,Gy⟩
       case round=>
        clear Gy MB;obtain⟨k,s,hk,hs,rfl,rfl,hB⟩:=hrel;have hw2:IntKind.i64.wrap ((i:Int)+1+(k:Int))=(i:Int)+1+(k:Int):=AY _ (by omega);have Ce:IntKind.i64.wrap ((i:Int)+1+(k:Int)+1)=(i:Int)+1+(k:Int)+1:=AY _ (by omega);by_cases hlt2:k<ln
        ·have AMY:(k:Int)<(ln:Int):=by omega
         have AO8:(0:Int)≤(k:Int):=by omega
         obtain⟨j,hj⟩:∃j,i+1+k=j:=⟨_,rfl⟩;have hji:(i:Int)+1+(k:Int)=(j:Int):=by omega
         have hjn:j<n:=by omega
         have AMo:(j:Int)<(n:Int):=by omega
         have APa:i<j:=by omega
         rw[hji]at hw2 Ce ⊢;have HJI:=hid hji;have hw3:IntKind.i64.wrap ((j:Int)-(i:Int))=(j:Int)-(i:Int):=AY _ (by omega);have hw4:IntKind.i64.wrap ((j:Int)-(i:Int)-1)=(k:Int):=by rw[AY _ (by omega)];omega
         have OB:IntKind.i64.wrap (j:Int)=(j:Int):=AY _ (by omega);have hw7:IntKind.i64.wrap (i:Int)=(i:Int):=AY _ (by omega);obtain⟨v,hv⟩:∃v,L[k]?=some v:=⟨_,AO (by rw[HLF.out.1];exact hlt2)⟩;have H9:=hid (HLF.out.2 v (Ak hv));obtain⟨b',o',u,rfl,_,uF,AET,hsu⟩:=J3 Ay.out (show(L.map ints)[k]?=some (ints v) by simp[hv]);obtain⟨au,cu,rfl⟩:=VY hsu (n:=n) (by rw[BL];exact H9.out.1);have KP:=hid hsu;have Z0:=hid (fun(W:World) (hb:Below w1.heap.size w1 W)=>show W.cell? ⟨b',o'+k,none⟩=some (.slice au n cu)∧b'<W.heap.size from⟨((AA.of_below (S:=fun _=>True) hb).cell trivial uF).trans AET,Ai uF hb.size⟩);have hsb:s.size≤3000:=by omega
         clear hv hsu uF AET hj hji;go_upto_block 7 with(fail);go_cut [4] (fun v W=>∃s':ByteArray,v= .string s'∧s'.size≤s.size+60∧Hid (Below w1.heap.size w1 W));case rest=>
          obtain⟨s',rfl,hs',hB'⟩:=hcut;have hjk:(j:Int)+1=(i:Int)+1+((k+1:Nat):Int):=by have:=HJI.out;omega
          have HJK:=hid hjk;have HM:=hid (show n-(intOf (.int .i64 ((j:Int)+1))).toNat<n-(intOf (.int .i64 (j:Int))).toNat from by simp[intOf];omega);clear KP Z0 H9 hB hjk;go_wp2_with fail;go_roundw;case rel=>exact⟨k+1,s',by omega,by omega,BM (Value.int .i64) HJK.out,rfl,hB'⟩
          case measure=>exact HM.out
         case first=>
          obtain⟨⟨e0,e1,e2⟩,hgl⟩:=EE.out wr hB.out;obtain⟨Ep,hbu⟩:=HCU.out wr hB.out;obtain⟨hcv,hbv⟩:=Z0.out wr hB.out;have HUN:=hid (fun W=>(Cc.fG n j (by omega) hjn W).mono (R':=fun e w'=>∃g c,e= .returned (.slice (some ⟨g,0,none⟩) n c)∧AL (fun _=>True) w' (.slice (some ⟨g,0,none⟩) n c) (ints ((List.replicate n 0).set j 1))∧Below W.heap.size W w') (by
           rintro e w' ⟨g,c,rfl,ho,hb⟩;have hl:(ints ((List.replicate n 0).set j 1)).length=n:=by rw[BL];simp
           rw[hl]at ho ⊢;exact⟨g,c,rfl,(Own.sl ho).mono (fun _ _=>trivial),hb⟩))
          have K8:=hid (KP.out.keep (AA.of_below hB.out));go_upto_region 22 with fail;go_cut [92] (fun x W=>∃r:Bool,x= .bool r∧Hid (Below w1.heap.size w1 W));case first=>
           go_region_held3 (fun w'=>(∀b o,b<wr.heap.size→w'.cell? ⟨b,o,none⟩=wr.cell? ⟨b,o,none⟩)∧AA (fun _=>True) wr w')
            (first|exact Au (by repeat(first|exact AJ.drew|exact AA.refl _ _|refine AA.drewN ?_ _|refine AA.trans ?_ (AA.of_below (by assumption)))))
            (first|(go_at_call 106;refine(HUN.out _).mono ?_;rintro e w5 ⟨g5,c5,rfl,hs5,hb5⟩)|(go_at_call 141;refine(Kc.NW _ _ _ (ints v) _ (K8.out.keep (by repeat(first|exact AJ.drew|exact AA.refl _ _|refine AA.drewN ?_ _|refine AA.trans ?_ (AA.of_below (by assumption))))) hs5).mono ?_;rintro e w8 ⟨rfl,n7,rfl⟩))
           have h7:Below wr.heap.size wr (w5.drewN n7):=Dk (by repeat(first|exact A7 _ _|exact AX.drew|refine sH ?_ AR (by assumption))) _;have HB2:=hid (hB.out.trans (h7.mono hB.out.size));clear h7;go_wp2_with fail;go_meet;exact⟨_,rfl,HB2⟩
          case rest=>
           obtain⟨r,rfl,hBm⟩:=hcut;rename World=>wr;clear hB e0 e1 e2 hgl Ep hbu hcv hbv K8;have hB:=hBm;clear hBm;cases r with
           |false=>
            go_wp2_with fail;go_meet;exact⟨s,rfl,by omega,hB⟩
           |true=>
            obtain⟨⟨e0,e1,e2⟩,hgl⟩:=EE.out wr hB.out;obtain⟨Ep,hbu⟩:=HCU.out wr hB.out;obtain⟨hcv,hbv⟩:=Z0.out wr hB.out;have N7:=hid (fun W (hk:AA (fun _=>True) wr W)=>ABY au n cu v H9.out.1 (by omega) H9.out.2 W ((KP.out.keep (AA.of_below hB.out)).keep hk));have Iw:=hid (fun W=>om j (by omega) W);have XG:=hid (fun W=>om i (by omega) W);have c0:(9223372036854775807<s.size+2)=False:=eq_false (by omega);go_upto_region 23 with fail;go_region_held3 (fun w'=>(∀b o,b<wr.heap.size→w'.cell? ⟨b,o,none⟩=wr.cell? ⟨b,o,none⟩)∧AA (fun _=>True) wr w')
             (first|exact Au (by repeat(first|exact AJ.drew|exact AA.refl _ _|refine AA.drewN ?_ _|refine AA.trans ?_ (AA.of_below (by assumption)))))
             (first|(go_at_call_of 185 j;refine(Iw.out _).mono ?_;rintro e wa ⟨sa,rfl,hza,hba⟩;have c1:(9223372036854775807<s.size+2+sa.size)=False:=(eq_false (by omega));have c2:(9223372036854775807<s.size+2+sa.size+1)=False:=(eq_false (by omega)))|(go_at_call_of 185 i;refine(XG.out _).mono ?_;rintro e wb ⟨sx,rfl,hzx,hbx⟩;have c3:(9223372036854775807<s.size+2+sa.size+1+sx.size)=False:=(eq_false (by omega));have c4:(9223372036854775807<s.size+2+sa.size+1+sx.size+1)=False:=(eq_false (by omega)))|(go_at_call 187;refine(N7.out _ (by repeat(first|exact AJ.drew|exact AA.refl _ _|refine AA.drewN ?_ _|refine AA.trans ?_ (AA.of_below (by assumption))))).mono ?_;rintro e w6 ⟨n6,a6,c6,rfl,⟨l6,Gj,A8,-, yA⟩,hb6⟩)|(go_at_call 186;refine(pK a6 n6 c6 l6 Gj (by omega) _ (LM A8 Gj)).mono ?_;rintro e w7 ⟨s7,rfl,yB,Cz⟩;have c5:(9223372036854775807<s.size+2+sa.size+1+sx.size+1+s7.size)=False:=(eq_false (by omega))))
            have h7:Below wr.heap.size wr w7:=(by repeat(first|exact A7 _ _|exact AX.drew|refine sH ?_ AR (by assumption)));have Bv:=hid (show(((((((s++⟨#[59,32]⟩)++sa)++⟨#[94]⟩)++sx)++⟨#[61]⟩)++s7):ByteArray).size≤s.size+60 from by
             simp only[ByteArray.size_append];show s.size+2+sa.size+1+sx.size+1+s7.size≤_;omega)
            have HB2:=hid (hB.out.trans (h7.mono hB.out.size));clear h7;go_wp2_with fail;go_meet;exact⟨_,rfl,Bv.out,HB2⟩
        ·obtain rfl:ln=k:=by omega
         have AMo:¬(i:Int)+1+(ln:Int)<(n:Int):=by omega
         have Aa:=hB;clear hB;go_wp2_with fail;go_roundw;case rel=>exact⟨i+1,s,by omega,by omega,by go_num,rfl,Aa⟩
         case measure=>simp[intOf];omega
      ·obtain rfl:n=i:=by omega
       have HF:=hid (show Ij 4000 w (.returned (.string s)) wr from⟨_,rfl,by omega,HB1.out.trans (hB.out.mono HB1.out.size)⟩);clear hB;go_wp2_with fail;go_ret;exact HF.out
theorem eU {os v:List Int}{z:Nat}(h:Cj os z v)(hp:∀o∈os,CL o=true):ints (Gs v)=v∧(Gs v).length=os.length∧∀q∈Gs v,q≤7:=by
 have hx:∀x∈v,0≤x∧x≤7:=fun x hx=>by
  obtain⟨j,hj⟩:=GM hx;have hl:=(Ag.1 hj).1;obtain⟨o,ho⟩:∃o,os[j]?=some o:=⟨_,AO (by rw[←h.1];exact hl)⟩;have h1:=h.2 j x o hj ho;have h2:=Pd (hp o (Ak ho));omega
 refine⟨pE fun x h1=>(hx x h1).1,by unfold Gs;rw[Bh];exact h.1,fun q hq=>?_⟩;unfold Gs at hq;obtain⟨x,h1,rfl⟩:=Cy.1 hq;have:=hx x h1;omega
theorem AKy {P:Bu}(h:Valid P):∃ps cs,P=⟨P.os,ps.map ints,cs.map (fun L=>L.map ints)⟩∧TOk P.os.length P.os ps cs:=by
 have e1:(P.ps.map Gs).map ints=P.ps:=by
  rw[List.map_map]
  conv=>rhs;rw[←List.map_id P.ps]
  refine TP fun v hv=>?_;obtain⟨i,hi⟩:=GM hv;exact(eU (h.pv i v hi) h.pr).1
 have e2:(P.cs.map (fun L=>L.map Gs)).map (fun L=>L.map ints)=P.cs:=by
  rw[List.map_map]
  conv=>rhs;rw[←List.map_id P.cs]
  refine TP fun L hL=>?_;obtain⟨i,hi⟩:=GM hL;show(L.map Gs).map ints=L;rw[List.map_map]
  conv=>rhs;rw[←List.map_id L]
  exact TP fun v hv=>(eU ((h.cv i L hi).2 v hv) h.pr).1
 refine⟨P.ps.map Gs,P.cs.map (fun L=>L.map Gs),by rw[e1,e2],?_⟩;refine⟨h.n6,rfl,fun o ho=>?_,by rw[Bh,h.pl],fun v hv=>?_,by rw[Bh,h.cl],fun i L hL=>?_⟩
 ·have:=h.pr o ho;simp[CL]at this;omega
 ·obtain⟨x,hx,rfl⟩:=Cy.1 hv;obtain⟨i,hi⟩:=GM hx;exact(eU (h.pv i x hi) h.pr).2
 ·simp only[Bn,II]at hL;obtain⟨c,hc,rfl⟩:=hL;obtain⟨h1,h2⟩:=h.cv i c hc;refine⟨by rw[Bh,h1];omega,fun v hv=>?_⟩;obtain⟨y,hy,rfl⟩:=Cy.1 hv;exact(eU (h2 y hy) h.pr).2
theorem AId (P:Bu)(h:Valid P)(vO vP vC:Value)(w:World)(hV:BC (fun _=>True) w vO vP vC P):
  Calls Tryz.prog 173 #[.agg #[vO,vP,vC]] w (Ij 4000 w):=by
 obtain⟨ps,cs,e,hk⟩:=AKy h;rw[e]at hV;exact AJx _ _ ps cs hk vO vP vC w hV
end Go.Proofs.YtaadbccidfdniaaGreat.DwQ
namespace Go.Proofs.YtaadbccidfdniaaGreat.mE
open Go.RowKit Go.Proofs.YtaadbccidfdniaaGreat AB Dp Cn Dm Df Cc NC Gl Ue Rz
def P9 (b:Nat)(w:World)(e:Ending)(w':World):Prop:=∃(N:Nat) (x1 x2 x3:Option Addr) (y1 y2 y3:Nat) (c:Int),N≤b∧e= .returned (.tuple #[.agg #[.slice x1 N y1,.slice x2 N y2,.slice x3 N y3],.int .i64 c])∧PT w.heap.size w' N (.slice x1 N y1) (.slice x2 N y2) (.slice x3 N y3)∧Below w.heap.size w w'
theorem ACo (B:Nat)(w:World):PT B w 0 (.slice none 0 0) (.slice none 0 0) (.slice none 0 0):=
 ⟨⟨[],rfl,F7 _ _ _ _⟩,⟨[],F7 _ _ _ _,fun i n h=>by simp at h⟩,⟨[],F7 _ _ _ _,fun i n h=>by simp at h⟩⟩
theorem AJy {B N g y1 y2 y3:Nat}{w wr:World}{x1 x2 x3:Option Addr}{b:Nat}(c:Int)(hN:N≤b)(hX:PX B N wr g (.slice x1 N y1) (.slice x2 N y2) (.slice x3 N y3))(hB:Below w.heap.size w wr)(hgB:w.heap.size<B)(hBw:B≤wr.heap.size):
  P9 b w (.returned (.tuple #[.agg #[.slice x1 N y1,.slice x2 N y2,.slice x3 N y3],.int .i64 c])) (((wr.setCell ⟨w.heap.size,0,none⟩ (.slice x1 N y1)).setCell ⟨w.heap.size,1,none⟩ (.slice x2 N y2)).setCell ⟨w.heap.size,2,none⟩ (.slice x3 N y3)):=by
 refine⟨N,x1,x2,x3,y1,y2,y3,c,hN,rfl,?_,?_⟩
 ·exact(hX.2.2.ty (Ty.keep (S:=fun k=>B≤k) ((((AA.refl _ wr).setCell (by simp;omega) _).setCell (by simp;omega) _).setCell (by simp;omega) _) fun _ h=>h)).mono (by omega)
 ·exact((hB.setCell (p:=⟨w.heap.size,0,none⟩) AR _).setCell (p:=⟨w.heap.size,1,none⟩) AR _).setCell (p:=⟨w.heap.size,2,none⟩) AR _
theorem AJz (n:Nat)(hn:1≤n∧n≤40)(w:World):Calls Tryz.prog 100 #[.int .i64 (n:Int)] w (P9 12 w):=by
 have K4:=hid (fun W=>jA n hn.1 hn.2 W);have ME:=hid (fun W=>WI (n:Int) 1 729 (by omega) (by omega) W);clear hn;go_enter Tryz.func100,Tryz.ntmps100;go_upto_region 1 with fail;obtain⟨w1,hw1⟩:∃w1,w1=w.alloc CG:=⟨_,rfl⟩;rw[←hw1];have K1:=hid (show w1.heap[w.heap.size]?=some CG by rw[hw1];exact BA _ _);have HB1:=hid (show Below w.heap.size w w1 by rw[hw1];exact AX.alloc AR _);have BI:=hid (show w1.heap.size=w.heap.size+1 by rw[hw1];simp);clear hw1;go_wp2_with fail;refine(ME.out _).mono ?_;rintro e w0 ⟨rfl,rfl⟩;go_wp2_with fail;refine(K4.out _).mono ?_;rintro e w2 ⟨N,T,aT,cT,bT,rfl,R4,hT,Dw,Uf,hb2⟩;have HT:=hid hT;have KN:=hid R4;have HW2:=hid (HB1.out.trans (hb2.mono (by have:=BI.out;omega)));have HS2:=hid (show w.heap.size<w2.heap.size from by have h1:=BI.out;have h2:=hb2.size;omega);have K2:=hid (Ea hb2 (by have:=BI.out;omega) K1.out);have hN6:¬(6:Int)<(N:Int):=by omega
 clear hT R4 Uf hb2 K1 HB1 BI K4 ME;cases bT with
 |false=>
  obtain⟨⟨f0,f1,f2⟩,q0,q1,q2⟩:=AV K2.out;have Ii:=hid (show P9 12 w (.returned (.tuple #[.agg #[.slice none 0 0,.slice none 0 0,.slice none 0 0],.int .i64 2])) (((w2.setCell ⟨w.heap.size,0,none⟩ (.slice none 0 0)).setCell ⟨w.heap.size,1,none⟩ (.slice none 0 0)).setCell ⟨w.heap.size,2,none⟩ (.slice none 0 0)) from
   ⟨0,none,none,none,0,0,0,2,by omega,rfl,ACo _ _,((HW2.out.setCell (p:=⟨w.heap.size,0,none⟩) AR _).setCell (p:=⟨w.heap.size,1,none⟩) AR _).setCell (p:=⟨w.heap.size,2,none⟩) AR _⟩)
  go_wp2_with fail;obtain⟨⟨z0,z1,z2⟩,-⟩:=AV (BZ (x:=.slice none 0 0) (y:=.slice none 0 0) (z:=.slice none 0 0) K2.out);exact Aj (v:=.tuple #[.agg #[.slice none 0 0,.slice none 0 0,.slice none 0 0],.int .i64 2]) (by simp[results,Tryz.results100,go_sem,z0,z1,z2]) rfl Ii.out
 |true=>
  go_wp2_with fail;refine(YK N (by omega) _ KN.out _ _ HT.out).mono ?_;rintro e w6 ⟨x1,y1,x2,y2,x3,y3,rfl,I4,hb6⟩;go_upto_region 9 with fail;obtain⟨gx,hg⟩:∃gx,w6.heap.size=gx:=⟨_,rfl⟩;obtain⟨wb,hwb⟩:∃wb,wb=w6.alloc (.cells #[.slice x1 N y1,.slice x2 N y2,.slice x3 N y3] 28):=⟨_,rfl⟩;have HX0:=hid (show PX w2.heap.size N wb gx (.slice x1 N y1) (.slice x2 N y2) (.slice x3 N y3) by rw[hwb,←hg];exact MW I4 AR hb6.size);have L8:=hid (show Below w2.heap.size w2 wb by rw[hwb];exact hb6.alloc hb6.size _);rw[←hwb,hg];clear hwb hg I4 hb6;go_wp2_with fail;go_loopw [7] (fun iv wr=>∃i:Nat,i≤N∧iv= .int .i64 (i:Int)∧Hid (PX w2.heap.size N wr gx (.slice x1 N y1) (.slice x2 N y2) (.slice x3 N y3))∧Hid (Below w2.heap.size w2 wr)) (fun iv _=>N-(intOf iv).toNat);case atStart=>exact⟨0,AU _,rfl,HX0,L8⟩
  case round=>
   clear HX0 L8;obtain⟨i,hi,rfl,hX1,hB1⟩:=hrel;have hwi:IntKind.i64.wrap ((i:Int)+1)=(i:Int)+1:=AY _ (by omega);have hsz:=hB1.out.size;obtain⟨⟨p0,p1,p2⟩,-⟩:=AV hX1.out.1;have hgl:=hX1.out.lt;by_cases hlt:i+1<N
   ·have hki:(i:Int)+1<(N:Int):=by omega
    have Gb:(0:Int)≤(i:Int):=by omega
    have hkN:(i:Int)<(N:Int):=by omega
    obtain⟨gp,rfl,hsl⟩:=hX1.out.Py (i:=i) (by omega);have Ay:=hid hsl;have DW:=RG hsl hX1.out;clear hsl;have ER:=hid (fun(W:World) (hk:AA Any wr W)=>show Calls Tryz.prog 106 #[.int .i64 (N:Int),.int .i64 ((i:Int)+1)] W (ShR N W) from rP N (i+1) (by omega) hlt W);go_upto_region 12 with fail;go_region_held3 (fun w'=>(∀b o,b<wr.heap.size→¬b=gp→w'.cell? ⟨b,o,none⟩=wr.cell? ⟨b,o,none⟩)∧AA (fun k=>k≠gp) wr w')
     (first|exact Od (by repeat(first|exact AJ.drew|exact AA.refl _ _|refine AA.setCell ?_ (by simp) _|refine AA.trans ?_ (AA.of_below (by assumption)))))
     (first|(go_at_call 106;refine(ER.out _ (by repeat(first|exact AJ.drew|exact AA.refl _ _|refine AA.drew ?_|refine AA.trans ?_ (AA.of_below (by assumption))))).mono ?_;rintro e w6 ⟨g6,c6,rfl,CR,hb6⟩;have B6:Below wr.heap.size wr w6:=(by first|exact hb6|exact(AX.drew).trans hb6);have f6:=(Ay.out.below B6).1;obtain⟨u6,s6⟩:=(Ay.out.below B6).cell)|fail)
    rename_i hHd;clear hHd;have DX:=hid (show PX w2.heap.size N (w6.setCell ⟨gp,i,none⟩ (.slice (some ⟨g6,0,none⟩) N c6)) gx (.slice x1 N y1) (.slice (some ⟨gp,0,none⟩) N y2) (.slice x3 N y3) from
     (Ay.out.below B6).put (hX1.out.below B6) (CR.mono (by first|exact hsz|simpa using hsz)))
    have BB:=hid (show Below w2.heap.size w2 (w6.setCell ⟨gp,i,none⟩ (.slice (some ⟨g6,0,none⟩) N c6)) from
     (hB1.out.trans (B6.mono hsz)).setCell (p:=⟨gp,i,none⟩) Ay.out.2.1 _)
    clear CR hb6 B6 f6 s6 ER DW Ay hgl p0 p1 p2 hX1 hB1;go_wp2_with fail;go_roundw;case rel=>exact⟨i+1,by omega,by go_num,DX,BB⟩
    case measure=>simp[intOf];omega
   ·have hki:¬(i:Int)+1<(N:Int):=by omega
    have LG:=hid (Ea hB1.out HS2.out K2.out);obtain⟨⟨f0,f1,f2⟩,q0,q1,q2⟩:=AV LG.out;have Ii:=hid (AJy (b:=12) 0 (by omega) hX1.out (HW2.out.trans (hB1.out.mono (DT HS2.out))) HS2.out hsz);clear hX1 hB1;go_wp2_with fail;obtain⟨⟨z0,z1,z2⟩,-⟩:=AV (BZ (x:=.slice x1 N y1) (y:=.slice x2 N y2) (z:=.slice x3 N y3) LG.out);exact Aj (v:=.tuple #[.agg #[.slice x1 N y1,.slice x2 N y2,.slice x3 N y3],.int .i64 0]) (by simp[results,Tryz.results100,go_sem,z0,z1,z2]) rfl Ii.out
end Go.Proofs.YtaadbccidfdniaaGreat.mE
namespace Go.Proofs.YtaadbccidfdniaaGreat.O7
open Go.RowKit Go.Lib Go.Proofs.YtaadbccidfdniaaGreat AB Val Dp Cn Dm Df Cc Gl Ud Wy xq mE XA
theorem PX.BZ {B n g:Nat}{w:World}{a b c x y z:Value}(h:w.heap[g]?=some (.cells #[a,b,c] 28 (0,0)))(hg:B≤g)(hP:PT B w n x y z):PX B n (((w.setCell ⟨g,0,none⟩ x).setCell ⟨g,1,none⟩ y).setCell ⟨g,2,none⟩ z) g x y z:=
 ⟨Cc.BZ h,hg,hP.ty (Ty.Kn h)⟩
theorem YL {B g:Nat}{w W:World}(h:Below B w W)(hg:B≤g)(x y z:Value):Below B w (((W.setCell ⟨g,0,none⟩ x).setCell ⟨g,1,none⟩ y).setCell ⟨g,2,none⟩ z):=
 ((h.setCell (p:=⟨g,0,none⟩) hg _).setCell (p:=⟨g,1,none⟩) hg _).setCell (p:=⟨g,2,none⟩) hg _
theorem ALh (s:ByteArray)(hs:s.size≤1000)(w:World):Calls Tryz.prog 149 #[.string s] w (P9 12 w):=by
 obtain⟨g0,hg0⟩:∃g0,w.heap.size=g0:=⟨_,rfl⟩;obtain⟨w1,hw1⟩:∃w1,w1=w.alloc CG:=⟨_,rfl⟩;have Jj:=hid hg0;have HB1:=hid (show Below w.heap.size w w1 by rw[hw1];exact AX.alloc AR _);have BI:=hid (show w1.heap.size=g0+1 by rw[hw1,←hg0];simp);have HR:=hid (fun(W:World) (hb:Below w1.heap.size w1 W)=>show W.heap[g0]?=some CG∧g0<W.heap.size from
  ⟨(hb.block g0 (by rw[BI.out];omega)).trans (by rw[hw1,←hg0];exact BA _ _),by have:=hb.size;rw[BI.out]at this;omega⟩)
 have HN:=hid (fun(W:World) (hb:Below w1.heap.size w1 W)=>show P9 12 w (.returned (.tuple #[.agg #[.slice none 0 0,.slice none 0 0,.slice none 0 0],.int .i64 6])) (((W.setCell ⟨g0,0,none⟩ (.slice none 0 0)).setCell ⟨g0,1,none⟩ (.slice none 0 0)).setCell ⟨g0,2,none⟩ (.slice none 0 0)) from
  ⟨0,none,none,none,0,0,0,6,AU _,rfl,ACo _ _,YL (HB1.out.trans (hb.mono HB1.out.size)) (Nat.le_of_eq Jj.out) _ _ _⟩)
 have KM:=hid (fun W=>qY s 59 59 rfl hs W);go_enter Tryz.func149,Tryz.ntmps149;go_upto_region 1 with fail;rw[←hw1];clear hw1 hg0;go_upto_region 2 with(first|(go_at_call 170;refine(KM.out _).mono ?_;rintro e w2 ⟨v,L,m,rfl,Z9,hm1,hm2,Lx,hO,hb2⟩)|fail);obtain⟨av,cv,rfl⟩:=LH hO;have HB2:=hid (show Below w1.heap.size w1 w2 from hb2);have Ui:=hid Lx;have lZ:=hid Z9;have hx0:∃x0,L[0]?=some x0:=⟨_,AO (by omega)⟩;obtain⟨x0,hx0⟩:=hx0;obtain⟨g,c',he,_⟩:=iG hO hx0;obtain⟨rfl,rfl⟩:av=some ⟨g,0,none⟩∧cv=c':=by simpa using he
 have HL:=hid (fun(W:World) (hb:Below w2.heap.size w2 W) (k:Nat) (x:ByteArray) (hk:L[k]?=some x)=>show W.cell? ⟨g,k,none⟩=some (.string x)∧g<W.heap.size from by
  obtain⟨g',c',he,hc1,hgl⟩:=iG hO hk;obtain⟨rfl,rfl⟩:g=g'∧cv=c':=by simpa using he
  exact⟨(hb.cell (p:=⟨g,k,none⟩) hgl).trans hc1,Ai hgl hb.size⟩)
 obtain⟨q0,hgl⟩:=HL.out w2 AX 0 x0 hx0;have Rl:=hid (fun W=>oo x0 (Ad (Lx x0 (Ak hx0)) hs) W);have hm9:(m:Int)≤1001:=by omega
 have hm0:(0:Int)<(m:Int):=by omega
 clear hO hb2 KM Lx Z9 hm2 he hx0;go_upto_region 3 with(first|(go_at_call 171;refine(Rl.out _).mono ?_;rintro e w3 ⟨n,l,ao,co,b3,rfl,hll,hsl,xu,hpr,hb3⟩)|fail);have Tf:=hid (show Below w2.heap.size w2 w3 from hb3);have HB3:=hid (show Below w1.heap.size w1 w3 from HB2.out.trans (hb3.mono HB2.out.size));clear q0 hgl hpr hb3;cases b3 with
 |false=>
  obtain⟨⟨e0,e1,e2⟩,f0,f1,f2⟩:=AV (HR.out w3 HB3.out).1;have hgr:=(HR.out w3 HB3.out).2;go_wp2_with fail;obtain⟨⟨z0,z1,z2⟩,-⟩:=AV (BZ (x:=.slice none 0 0) (y:=.slice none 0 0) (z:=.slice none 0 0) (HR.out w3 HB3.out).1);exact Aj (v:=.tuple #[.agg #[.slice none 0 0,.slice none 0 0,.slice none 0 0],.int .i64 6]) (by simp[results,Tryz.results149,go_sem,z0,z1,z2]) rfl (HN.out w3 HB3.out)
 |true=>
  have Eu:=hid (YK n (by omega) l hll (.slice ao n co) w3 hsl);clear hll hsl;go_upto_region 6 with(first|(go_at_call 61;refine Eu.out.mono ?_;rintro e w4 ⟨x1,y1,x2,y2,x3,y3,rfl,I5,hb4⟩)|fail);obtain⟨g7,hg⟩:∃g7,w4.heap.size=g7:=⟨_,rfl⟩;obtain⟨w5,Ce⟩:∃w5,w5=w4.alloc (.cells #[.slice x1 n y1,.slice x2 n y2,.slice x3 n y3] 28):=⟨_,rfl⟩;rw[←Ce,hg];have AEU:=hid (show Below w3.heap.size w3 w5 by rw[Ce];exact hb4.alloc hb4.size _);have HI:=hid (show PX w3.heap.size n w5 g7 (.slice x1 n y1) (.slice x2 n y2) (.slice x3 n y3) from by rw[Ce,←hg];exact MW I5 AR hb4.size);have Uj:=hid (show w3.heap.size≤g7 from HI.out.2.1);clear Ce hg I5 hb4 Eu Rl;go_wp2_with fail;go_loopw [8] (fun iv wr=>∃(k:Nat),k+1≤m∧iv= .int .i64 ((k:Int)+1)∧Hid (∃x1 y1 x2 y2 x3 y3,PX w3.heap.size n wr g7 (.slice x1 n y1) (.slice x2 n y2) (.slice x3 n y3))∧Hid (Below w3.heap.size w3 wr)) (fun iv _=>m+1-(intOf iv).toNat);case atStart=>exact⟨0,hm1,rfl,hid ⟨_,_,_,_,_,_,HI.out⟩,AEU⟩
  case round=>
   clear HI AEU;obtain⟨k,hk,rfl,hQ,hB⟩:=hrel;obtain⟨X1,Y1,X2,Y2,X3,Y3,hX⟩:=hQ.out;have HX:=hid hX;have AEV:=hid (show Below w1.heap.size w1 wr from HB3.out.trans (hB.out.mono HB3.out.size));obtain⟨⟨d0,d1,d2⟩,-⟩:=AV hX.1;have jW:g7<wr.heap.size:=hX.lt;clear hX hQ;by_cases hlt:k+1<m
   ·have hki:(k:Int)+1<(m:Int):=by omega
    obtain⟨x,hx⟩:∃x,L[k+1]?=some x:=⟨_,AO (by rw[lZ.out];exact hlt)⟩;obtain⟨hc,hcl⟩:=HL.out wr (Tf.out.trans (hB.out.mono Tf.out.size)) (k+1) x hx;have IU:=hid (fun(W:World) (hb:Below wr.heap.size wr W)=>ALg w3.heap.size n (by omega) x (Ad (Ui.out x (Ak hx)) hs) X1 X2 X3 Y1 Y2 Y3 W (Ad hB.out.size hb.size) (HX.out.below hb).2.2);clear hx;go_upto_region 9 with fail;go_cut [6] (fun v W=>∃b,v= .bool b∧Hid (∃x1 y1 x2 y2 x3 y3,PX w3.heap.size n W g7 (.slice x1 n y1) (.slice x2 n y2) (.slice x3 n y3))∧Hid (Below w3.heap.size w3 W));case first=>
     have hk0:((0:Int)≤(k:Int)+1)=True:=eq_true (by omega);go_region_law
      (first|(go_simp;go_at_call 172;refine(IU.out _ (by first|exact A7 _ _|exact AX.drew)).mono ?_;rintro e w6 ⟨a1,c1,a2,c2,a3,c3,b,rfl,hP6,hb6⟩;have Ar:=hid (show Below wr.heap.size wr w6 from(by first|exact hb6|exact(AX.drew).trans hb6));have Bd:=hid hP6;have DF:=hid (HX.out.below Ar.out);obtain⟨⟨u0,u1,u2⟩,r0,r1,r2⟩:=AV DF.out.1;have CX:=DF.out.lt;clear hP6 hb6)|(fail))
     all_goals
      go_wp2_with fail;go_meet;exact⟨_,rfl,hid ⟨_,_,_,_,_,_,PX.BZ DF.out.1 Uj.out Bd.out⟩,hid (YL (hB.out.trans (Ar.out.mono hB.out.size)) Uj.out _ _ _)⟩
    case rest=>
     obtain⟨b,rfl,Jk,BB⟩:=hcut;rename World=>w7;have Ml:=hid (show Below w1.heap.size w1 w7 from HB3.out.trans (BB.out.mono HB3.out.size));clear IU jW hc hcl d0 d1 d2 hB HX;cases b with
     |true=>
      go_wp2_with fail;go_roundw;case rel=>exact⟨k+1,by omega,by go_num,Jk,BB⟩
      case measure=>simp[intOf];omega
     |false=>
      obtain⟨⟨e0,e1,e2⟩,f0,f1,f2⟩:=AV (HR.out w7 Ml.out).1;have hgr:=(HR.out w7 Ml.out).2;go_wp2_with fail;obtain⟨⟨z0,z1,z2⟩,-⟩:=AV (BZ (x:=.slice none 0 0) (y:=.slice none 0 0) (z:=.slice none 0 0) (HR.out w7 Ml.out).1);exact Aj (v:=.tuple #[.agg #[.slice none 0 0,.slice none 0 0,.slice none 0 0],.int .i64 6]) (by simp[results,Tryz.results149,go_sem,z0,z1,z2]) rfl (HN.out w7 Ml.out)
   ·have hki:¬(k:Int)+1<(m:Int):=by omega
    obtain⟨P,hP,-⟩:=OA.ACl HX.out.2.2;have HV:=hid (hP.mono (S':=Any) fun _ _=>trivial);have aG:=hid (Yc.VI wr _ _ _ P HV.out);have HTX:=hid (fun(hv:Valid P) (W:World) (hb:Below wr.heap.size wr W)=>DwQ.AId P hv _ _ _ W (HV.out.keep (AA.of_below hb)));clear hP hk hlt;go_upto_region 12 with fail;go_cut [49] (fun v W=>(∃b,v= .bool b)∧Hid (Below wr.heap.size wr W));case first=>
     by_cases hv:Valid P
     ·have H9:=hid hv;clear hv;go_wp2_with (first|(go_at_call 57;refine aG.out.mono ?_;rintro e w6 ⟨r,rfl,hr,hb6⟩;obtain rfl:r=true:=hr.2 H9.out;have Ar:=hid hb6;clear hr hb6;have Uk:=HX.out.below Ar.out;have CX:=Uk.lt;obtain⟨⟨d0,d1,d2⟩,-⟩:=AV Uk.1;clear Uk)|(go_at_call 173;refine(HTX.out H9.out _ Ar.out).mono ?_;rintro e w7 ⟨st,rfl,hst,Cz⟩;have BB:=hid (Ar.out.trans (Cz.mono Ar.out.size));clear hst Cz));go_meet;exact⟨⟨_,rfl⟩,BB⟩
     ·have H9:=hid hv;clear hv;go_wp2_with (go_at_call 57;refine aG.out.mono ?_;rintro e w6 ⟨r,rfl,hr,hb6⟩;obtain rfl:r=false:=(by cases r with|false=>rfl|true=>exact absurd (hr.1 rfl) H9.out);have Ar:=hid hb6;clear hr hb6);go_meet;exact⟨⟨_,rfl⟩,Ar⟩
    case rest=>
     obtain⟨⟨b,rfl⟩,Cb⟩:=hcut;rename World=>w8;have Ik:=hid (show Below w1.heap.size w1 w8 from AEV.out.trans (Cb.out.mono AEV.out.size));obtain⟨⟨e0,e1,e2⟩,f0,f1,f2⟩:=AV (HR.out w8 Ik.out).1;have hgr:=(HR.out w8 Ik.out).2;clear d0 d1 d2 jW;cases b with
     |true=>
      go_wp2_with fail;obtain⟨⟨z0,z1,z2⟩,-⟩:=AV (BZ (x:=.slice none 0 0) (y:=.slice none 0 0) (z:=.slice none 0 0) (HR.out w8 Ik.out).1);exact Aj (v:=.tuple #[.agg #[.slice none 0 0,.slice none 0 0,.slice none 0 0],.int .i64 6]) (by simp[results,Tryz.results149,go_sem,z0,z1,z2]) rfl (HN.out w8 Ik.out)
     |false=>
      have EP:=hid (HX.out.below Cb.out);obtain⟨⟨d0,d1,d2⟩,-⟩:=AV EP.out.1;have jW:=EP.out.lt;have hne:¬g7=g0:=by have h1:=BI.out;have h2:=HB3.out.size;have h3:=Uj.out;omega
      go_wp2_with fail;obtain⟨⟨z0,z1,z2⟩,-⟩:=AV (BZ (x:=.slice X1 n Y1) (y:=.slice X2 n Y2) (z:=.slice X3 n Y3) (HR.out w8 Ik.out).1);exact Aj (v:=.tuple #[.agg #[.slice X1 n Y1,.slice X2 n Y2,.slice X3 n Y3],.int .i64 0]) (by simp[results,Tryz.results149,go_sem,z0,z1,z2]) rfl
       ⟨n,_,_,_,_,_,_,0,by omega,rfl,(EP.out.2.2.ty (Ty.Kn (HR.out w8 Ik.out).1)).mono (Ad HB1.out.size HB3.out.size),YL (HB1.out.trans (Ik.out.mono HB1.out.size)) (Nat.le_of_eq Jj.out) _ _ _⟩
end Go.Proofs.YtaadbccidfdniaaGreat.O7
namespace Go.Proofs.YtaadbccidfdniaaGreat.yC
open Go.RowKit Go.Proofs.YtaadbccidfdniaaGreat AB Dp Cn Dm Df Cc NC Gl Ue Rz Z5
def Tj (wb wr:World)(x3:Option Addr):Prop:=wb.heap.size≤wr.heap.size∧∀gc,x3=some ⟨gc,0,none⟩→wr.heap[gc]?=wb.heap[gc]?
theorem ABb {B N g y3 gp i j:Nat}{wb wr w6:World}{vO vP u:Value}{x3:Option Addr}(hX:PX B N wr g vO vP (.slice x3 N y3))(hs:Slot B N wr gp j)(B6:Below wr.heap.size wr w6)
  (he:Tj wb wr x3):Tj wb (w6.setCell ⟨gp,i,none⟩ u) x3:=by
 refine⟨by have h1:=he.1;have h2:=B6.size;simp;omega,fun gc hgc=>?_⟩;subst hgc;obtain⟨us,q1,_⟩:=hX.2.2.2.2;rw[GR w6 ⟨gp,i,none⟩ gc u (sG (i:=0) hX hs),B6.block gc (Af q1 gc rfl).2];exact he.2 gc rfl
theorem AAy {B N g y3:Nat}{wb wr w6:World}{vO vP:Value}{x3:Option Addr}(hX:PX B N wr g vO vP (.slice x3 N y3))(B6:Below wr.heap.size wr w6)
  (he:Tj wb wr x3):Tj wb w6 x3:=by
 refine⟨Ad he.1 B6.size,fun gc hgc=>?_⟩;subst hgc;obtain⟨us,q1,_⟩:=hX.2.2.2.2;rw[B6.block gc (Af q1 gc rfl).2];exact he.2 gc rfl
theorem AIe {B N g y3 i ni yr gr gc:Nat}{wb wr:World}{vO vP:Value}(hX:PX B N wb g vO vP (.slice (some ⟨gc,0,none⟩) N y3))(he:wr.heap[gc]?=wb.heap[gc]?)(hi:i<N)(hc:wr.cell? ⟨gc,i,none⟩=some (.slice (some ⟨gr,0,none⟩) ni yr)):gr<wb.heap.size:=by
 obtain⟨gc',u,e,h1,h2,h3,h4⟩:=hX.2.2.2.2.at (Sn hi);obtain rfl:gc=gc':=by simpa using e
 have h5:wr.cell? ⟨gc,i,none⟩=wb.cell? ⟨gc,i,none⟩:=by simp only[World.cell?,he]
 rw[h5,h1]at hc;injection hc with hc;subst hc;obtain⟨us,q1,_⟩:=h2;exact(Af q1 gr rfl).2
theorem R2.AKz {B N gr i j:Nat}{B':Nat}{w:World}{L:List Nat}{v u:Value}(h:R2 B w L v)(hs:Slot B' N w gr j)(hne:v.ownBlock≠some gr):R2 B (w.setCell ⟨gr,i,none⟩ u) L v:=by
 obtain⟨_,_,_,cur,u0,h4,_⟩:=hs;obtain⟨us,q1,q2⟩:=h;refine⟨us,AGw q1 hne,fun k n hk=>?_⟩;obtain⟨x,e1,e2⟩:=q2 k n hk;exact⟨x,e1,e2.other h4 (by decide)⟩
where
 AGw {B n gr i:Nat} {e:TypeId} {w:World} {v u:Value} {xs:List Value} (h:w.ownsRow B e 1 v n xs) (hne:v.ownBlock≠some gr):(w.setCell ⟨gr,i,none⟩ u).ownsRow B e 1 v n xs:=
  AHH h (S:=fun k=>k≠gr) ((AA.refl _ w).setCell (by simp) _) (fun k hk e=>hne (by rw[hk,e]))
theorem AHP (p n m:Nat)(hp:1≤p∧p≤7)(hn:1≤n∧n≤40)(hm:m≤4)(ab:Option Addr)(cb:Nat)(w:World)(hA:R2 0 w (List.replicate m m) (.slice ab m cb)):
  Calls Tryz.prog 103 #[.int .i64 (p:Int),.slice ab m cb,.int .i64 (n:Int)] w (Te 12 w):=by
 obtain⟨i0,hi0,hz0,hz1,hz2⟩:=Bt FX;have K4:=hid (fun W=>jA n hn.1 hn.2 W);have Ci:=hid hp;have HA:=hid hA;clear hn hp hA;go_enter Tryz.func103,Tryz.ntmps103;go_upto_region 1 with fail;obtain⟨w1,hw1⟩:∃w1,w1=w.alloc CG:=⟨_,rfl⟩;rw[←hw1];have K1:=hid (show w1.heap[w.heap.size]?=some CG by rw[hw1];exact BA _ _);have HB1:=hid (show Below w.heap.size w w1 by rw[hw1];exact AX.alloc AR _);have BI:=hid (show w1.heap.size=w.heap.size+1 by rw[hw1];simp);clear hw1;go_wp2_with fail;refine(K4.out _).mono ?_;rintro e w2 ⟨k,T,aT,cT,bT,rfl,R4,hT,Dw,Uf,hb2⟩;have HT:=hid hT;have KN:=hid R4;have Jf:=hid Uf;have HW2:=hid (HB1.out.trans (hb2.mono (by have:=BI.out;omega)));have HS2:=hid (show w.heap.size<w2.heap.size from by have h1:=BI.out;have h2:=hb2.size;omega);have K2:=hid (Ea hb2 (by have:=BI.out;omega) K1.out);clear hT R4 Uf hb2 K1 HB1 BI K4;go_wp2_with fail;refine(Ye k (by omega) aT cT T KN.out _ HT.out).mono ?_;rintro e w4 ⟨gO,cO,rfl,Ey,hb4⟩;have Iu:=hid (show w4.ownsRow w2.heap.size 2 1 (.slice (some ⟨gO,0,none⟩) (k+0) cO) (k+0) (vals (T++List.replicate 0 (p:Int))) by simpa using Ey);have Bl:=hid hb4;clear Ey hb4;go_wp2_with fail;go_loopw [9,10] (fun ov iv wr=>∃(i g c:Nat),i≤m∧iv= .int .i64 (i:Int)∧ov= .slice (some ⟨g,0,none⟩) (k+i) c∧Hid (wr.ownsRow w2.heap.size 2 1 (.slice (some ⟨g,0,none⟩) (k+i) c) (k+i) (vals (T++List.replicate i (p:Int))))∧Hid (Below w2.heap.size w2 wr)) (fun _ iv _=>m-(intOf iv).toNat);case atStart=>exact⟨0,gO,cO,AU _,rfl,rfl,Iu,Bl⟩
 case round=>
  clear Iu Bl;obtain⟨i,g,c,hi,rfl,rfl,hO,hB⟩:=hrel;by_cases hlt:i<m
  ·have hki:(i:Int)<(m:Int):=by omega
   obtain⟨l,hl⟩:∃l,k+i=l:=⟨_,rfl⟩;have HL:=hid hl;have APb:l≤10:=by omega
   rw[hl]at hO ⊢;have a1:=Br hO.out (S:=Any) ((AA.refl _ wr).alloc (.cells #[.int .i64 (p:Int)] 2)) (fun _ _=>trivial);have Fq:=hB.out.size;clear hO hl;go_wp2_with (at_builtin;(refine GQ _ rfl _ _ 24 rfl w2.heap.size 2 i0 (.int .i64 0) 1 8 Tryz.underlying24 hi0 hz0 hz1 hz2 rfl (by decide) _ _ _ rfl a1 ⟨wr.heap.size,0,none⟩ 1 1 [.int .i64 (p:Int)] rfl rfl (GN (cs:= #[.int .i64 (p:Int)]) (t:=2) (fr:=(0,0)) (BA wr _)) (by simp[Value.oneCell']) (by decide) (by unfold maxLen;omega) (by omega) (by simp;omega) _ rfl ?_));intro g2 cap2 w6 hown2 hgrow2 KF hlt2;have Ar:=hid ((hB.out.alloc Fq (.cells #[.int .i64 (p:Int)] 2)).grown hgrow2 (by simp;omega) (fun g hg=>(Af a1 g hg).1));have FP:=hid (show w6.ownsRow w2.heap.size 2 1 (.slice (some ⟨g2,0,none⟩) (l+1) cap2) (l+1) (vals (T++List.replicate (i+1) (p:Int))) from by
    rw[Pp,←Ih];simpa[vals]using hown2)
   clear a1 hown2 hgrow2 KF hlt2 hB Fq;go_wp2_with fail;go_roundw;case rel=>exact⟨i+1,g2,cap2,by omega,by go_num,by have:=HL.out;rw[show k+(i+1)=l+1 by omega],by have:=HL.out;rw[show k+(i+1)=l+1 by omega];exact FP,Ar⟩
   case measure=>simp[intOf];omega
  ·obtain rfl:m=i:=by omega
   have hnl:¬(m:Int)<(m:Int):=by omega
   obtain⟨w5,Ce⟩:∃w5,w5=wr:=⟨_,rfl⟩;rw[←Ce]at hO hB ⊢;clear Ce hlt hi;obtain⟨N,hN⟩:∃N,k+m=N:=⟨_,rfl⟩;have HN:=hid hN;have tq:N≤12:=by omega
   have KO:=hid (show(T++List.replicate m (p:Int)).length=N by rw[Cs,KN.out,DK,hN]);rw[hN]at hO ⊢;have M4:=hid (LM hO.out KO.out);have AEW:=hB.out.size;clear hN hO;go_wp2_with fail;refine(YK N (by omega) _ KO.out _ _ M4.out).mono ?_;rintro e w6 ⟨x1,y1,x2,y2,x3,y3,rfl,I4,hb6⟩;go_upto_region 8 with fail;obtain⟨gx,hg⟩:∃gx,w6.heap.size=gx:=⟨_,rfl⟩;obtain⟨wb,hwb⟩:∃wb,wb=w6.alloc (.cells #[.slice x1 N y1,.slice x2 N y2,.slice x3 N y3] 28):=⟨_,rfl⟩;have HX0:=hid (show PX w5.heap.size N wb gx (.slice x1 N y1) (.slice x2 N y2) (.slice x3 N y3) by rw[hwb,←hg];exact MW I4 AR hb6.size);have L8:=hid (show Below w5.heap.size w5 wb by rw[hwb];exact hb6.alloc hb6.size _);rw[←hwb,hg];clear hwb hg I4 hb6 M4;have Z4:=hid (HT.out.keep (AA.of_below (S:=Any) hB.out));have Ug:=hid (HW2.out.trans (hB.out.mono (DT HS2.out)));have Ew:=hid (show w.heap.size<w5.heap.size from Ai HS2.out AEW);have K5:=hid (Ea hB.out HS2.out K2.out);have HA5:=hid ((Ty.below Ug.out).two _ _ HA.out);clear HT hB K2 HA HS2 AEW HW2;go_wp2_with fail;go_loopw [13] (fun iv wr=>∃i:Nat,i≤k∧iv= .int .i64 (i:Int)∧Hid (PX w5.heap.size N wr gx (.slice x1 N y1) (.slice x2 N y2) (.slice x3 N y3))∧Hid (Tj wb wr x3)∧Hid (Below w5.heap.size w5 wr)) (fun iv _=>k-(intOf iv).toNat);case atStart=>exact⟨0,AU _,rfl,HX0,hid ⟨Av _,fun _ _=>rfl⟩,L8⟩
   case round=>
    clear L8;obtain⟨i,hi,rfl,hX1,hE1,hB1⟩:=hrel;have hwi:IntKind.i64.wrap ((i:Int)+1)=(i:Int)+1:=AY _ (by omega);have hsz:=hB1.out.size;obtain⟨⟨p0,p1,p2⟩,-⟩:=AV hX1.out.1;have hgl:=hX1.out.lt;by_cases hlt:i+1<k
    ·have hki:(i:Int)+1<(k:Int):=by omega
     have Gb:(0:Int)≤(i:Int):=by omega
     have hkN:(i:Int)<(N:Int):=by have:=HN.out;omega
     obtain⟨gp,rfl,hsl⟩:=hX1.out.Py (i:=i) (by omega);have Ay:=hid hsl;have DW:=RG hsl hX1.out;clear hsl;have ER:=hid (fun(W:World) (hk:AA Any wr W)=>show Calls Tryz.prog 106 #[.int .i64 (N:Int),.int .i64 ((i:Int)+1)] W (ShR N W) from rP N (i+1) (by omega) (by have:=HN.out;omega) W);go_upto_region 12 with fail;go_region_held3 (fun w'=>(∀b o,b<wr.heap.size→¬b=gp→w'.cell? ⟨b,o,none⟩=wr.cell? ⟨b,o,none⟩)∧AA (fun k=>k≠gp) wr w')
      (first|exact Od (by repeat(first|exact AJ.drew|exact AA.refl _ _|refine AA.setCell ?_ (by simp) _|refine AA.trans ?_ (AA.of_below (by assumption)))))
      (first|(go_at_call 106;refine(ER.out _ (by repeat(first|exact AJ.drew|exact AA.refl _ _|refine AA.drew ?_|refine AA.trans ?_ (AA.of_below (by assumption))))).mono ?_;rintro e w6 ⟨g6,c6,rfl,CR,hb6⟩;have B6:Below wr.heap.size wr w6:=(by first|exact hb6|exact(AX.drew).trans hb6);have f6:=(Ay.out.below B6).1;obtain⟨u6,s6⟩:=(Ay.out.below B6).cell)|fail)
     rename_i hHd;clear hHd;have DX:=hid (show PX w5.heap.size N (w6.setCell ⟨gp,i,none⟩ (.slice (some ⟨g6,0,none⟩) N c6)) gx (.slice x1 N y1) (.slice (some ⟨gp,0,none⟩) N y2) (.slice x3 N y3) from
      (Ay.out.below B6).put (hX1.out.below B6) (CR.mono (by first|exact hsz|simpa using hsz)))
     have yD:=hid (ABb (i:=i) (u:=(.slice (some ⟨g6,0,none⟩) N c6)) hX1.out Ay.out B6 hE1.out);have BB:=hid (show Below w5.heap.size w5 (w6.setCell ⟨gp,i,none⟩ (.slice (some ⟨g6,0,none⟩) N c6)) from
      (hB1.out.trans (B6.mono hsz)).setCell (p:=⟨gp,i,none⟩) Ay.out.2.1 _)
     clear CR hb6 B6 f6 s6 ER DW Ay hgl p0 p1 p2 hX1 hB1 hE1;go_wp2_with fail;go_roundw;case rel=>exact⟨i+1,by omega,by go_num,DX,yD,BB⟩
     case measure=>simp[intOf];omega
    ·have hki:¬(i:Int)+1<(k:Int):=by omega
     have HA8:=hid ((Ty.below hB1.out).two _ _ HA5.out);clear hi p0 p1 p2 hgl hlt;go_wp2_with fail;refine(iH m m (by omega) (by omega) ab cb _ HA8.out).mono ?_;rintro e w8 ⟨a8,c8,rfl,K9,CJ⟩;have EP:=hid (hX1.out.below CJ);have Cb:=hid (hB1.out.trans (CJ.mono hsz));have HE8:=hid (AAy hX1.out CJ hE1.out);have R8:=hid (show R2 wb.heap.size w8 (List.replicate m m) (.slice a8 m c8) from K9.mono hE1.out.1);clear hX1 hE1 hB1 hsz K9 CJ HA8 hki hwi;go_wp2_with fail;go_loopw [14,15] (fun av iv wr=>∃(i:Nat) (a8:Option Addr) (c8:Nat),i≤k∧av= .slice a8 m c8∧iv= .int .i64 (i:Int)∧Hid (R2 wb.heap.size wr (List.replicate m m) (.slice a8 m c8))∧Hid (PX w5.heap.size N wr gx (.slice x1 N y1) (.slice x2 N y2) (.slice x3 N y3))∧Hid (Tj wb wr x3)∧Hid (Below w5.heap.size w5 wr)) (fun _ iv _=>k-(intOf iv).toNat);case atStart=>exact⟨0,a8,c8,AU _,rfl,rfl,R8,EP,HE8,Cb⟩
     case round=>
      clear EP Cb R8 HE8;obtain⟨i,a8,c8,hi,rfl,rfl,M3,hX1,hE1,hB1⟩:=hrel;by_cases hlt:i<k
      ·have hki:(i:Int)<(k:Int):=by omega
       have Gb:(0:Int)≤(i:Int):=by omega
       have HI:=hid hlt;go_wp2_with fail;go_loopw [16] (fun jv wr=>∃j:Nat,j≤m∧jv= .int .i64 (j:Int)∧Hid (R2 wb.heap.size wr (List.replicate m m) (.slice a8 m c8))∧Hid (PX w5.heap.size N wr gx (.slice x1 N y1) (.slice x2 N y2) (.slice x3 N y3))∧Hid (Tj wb wr x3)∧Hid (Below w5.heap.size w5 wr)) (fun jv _=>m-(intOf jv).toNat);case atStart=>exact⟨0,AU _,rfl,M3,hX1,hE1,hB1⟩
       case round=>
        clear M3 hX1 hE1 hB1;obtain⟨j,hj,rfl,M3,hX1,hE1,hB1⟩:=hrel;have hsz:=hB1.out.size;by_cases hlj:j<m
        ·have hkj:(j:Int)<(m:Int):=by omega
         have tu:(0:Int)≤(j:Int):=by omega
         obtain⟨d,hd⟩:∃d:Nat,d+i+1=k+j:=⟨k+j-i-1,by have:=HI.out;omega⟩;have hw0:IntKind.i64.wrap ((k:Int)+(j:Int))=(k:Int)+(j:Int):=AY _ (by omega);have hw1:IntKind.i64.wrap ((k:Int)+(j:Int)-(i:Int))=(d:Int)+1:=by rw[AY _ (by omega)];omega
         have hw2:IntKind.i64.wrap ((d:Int)+1-1)=(d:Int):=by rw[AY _ (by omega)];omega
         have hw3:IntKind.i64.wrap (d:Int)=(d:Int):=AY _ (by omega);have NF:(i:Int)<(N:Int):=by have:=HN.out;have:=HI.out;omega
         obtain⟨⟨p0,p1,p2⟩,-⟩:=AV hX1.out.1;have hgl:=hX1.out.lt;obtain⟨ni,hni⟩:∃ni,N-(i+1)=ni:=⟨_,rfl⟩;obtain⟨gc,gr,yr,rfl,hc1,hc2,hsl⟩:=hX1.out.Vv (i:=i) (j:=d) (by omega) (by have:=HN.out;omega);rw[hni]at hc1;have hdn:(d:Int)<(ni:Int):=by have:=HN.out;omega
         have Ay:=hid hsl;have DW:=RG hsl hX1.out;have Y4:=sG (i:=0) hX1.out hsl;have APc:=AIe HX0.out (hE1.out.2 gc rfl) (i:=i) (by omega) hc1;obtain⟨ga,aa,ca,rfl,ha1,ha2,FQ⟩:=Vw M3.out hlj;have AEX:¬ga=gr:=by
          obtain⟨ga',u',cur',e',_,_,_,_,_,h6,_⟩:=M3.out.at (NZ hlj);have:ga=ga':=by simpa using e'
          omega
         have ER:=hid (fun(W:World) (hk:AA Any wr W)=>show Calls Tryz.prog 105 #[.int .i64 (k:Int),.slice aa m ca,.int .i64 0] W (ShR N W) from by
          have h:=YD k 0 m (by omega) (by omega) (by omega) (.slice aa m ca) _ W ((Ty.keep hk (fun _ _=>trivial)).one _ _ FQ);rw[show k+m+0=N from by have:=HN.out;omega]at h;exact h)
         clear hsl hni hd FQ;go_upto_region 20 with fail;go_region_held3 (fun w'=>(∀b o,b<wr.heap.size→¬b=gr→w'.cell? ⟨b,o,none⟩=wr.cell? ⟨b,o,none⟩)∧AA (fun k=>k≠gr) wr w')
          (first|exact Od (by repeat(first|exact AJ.drew|exact AA.refl _ _|refine AA.setCell ?_ (by simp) _|refine AA.trans ?_ (AA.of_below (by assumption)))))
          (first|(go_at_call 105;refine(ER.out _ (by repeat(first|exact AJ.drew|exact AA.refl _ _|refine AA.drew ?_|refine AA.trans ?_ (AA.of_below (by assumption))))).mono ?_;rintro e w6 ⟨g6,c6,rfl,CR,hb6⟩;have B6:Below wr.heap.size wr w6:=(by first|exact hb6|exact(AX.drew).trans hb6);have f6:=(Ay.out.below B6).1;obtain⟨u6,s6⟩:=(Ay.out.below B6).cell)|fail)
         rename_i hHd;clear hHd;have hR6:=CR.mono (B':=w5.heap.size) (by first|exact hsz|simpa using hsz);have DX:=hid (show PX w5.heap.size N (w6.setCell ⟨gr,d,none⟩ (.slice (some ⟨g6,0,none⟩) N c6)) gx (.slice x1 N y1) (.slice x2 N y2) (.slice (some ⟨gc,0,none⟩) N y3) from
          (Ay.out.below B6).put (hX1.out.below B6) hR6)
         have QS:=hid (R2.AKz (i:=d) (u:=(.slice (some ⟨g6,0,none⟩) N c6)) ((Ty.below B6).two _ _ M3.out) (Ay.out.below B6) (by simpa[Value.ownBlock]using AEX));have yD:=hid (ABb (i:=d) (u:=(.slice (some ⟨g6,0,none⟩) N c6)) hX1.out Ay.out B6 hE1.out);have BB:=hid (show Below w5.heap.size w5 (w6.setCell ⟨gr,d,none⟩ (.slice (some ⟨g6,0,none⟩) N c6)) from
          (hB1.out.trans (B6.mono hsz)).setCell (p:=⟨gr,d,none⟩) Ay.out.2.1 _)
         clear CR hb6 B6 f6 s6 ER DW Y4 Ay hgl p0 p1 p2 hX1 hB1 hc1 hc2 hw1 hw2 M3 hR6 ha1 ha2 AEX hE1;go_wp2_with fail;go_roundw;case rel=>exact⟨j+1,by omega,by go_num,QS,DX,yD,BB⟩
         case measure=>simp[intOf];omega
        ·obtain rfl:m=j:=by omega
         have lW:¬(m:Int)<(m:Int):=by omega
         obtain⟨z,hz⟩:∃z,T[i]?=some z:=⟨_,AO (by rw[KN.out];exact HI.out)⟩;obtain⟨q,rfl,hq1,Zw⟩:=Jf.out z (Ak hz);have HTZ:=hid hz;have hik:(i:Int)<(k:Int):=by have:=HI.out;omega
         clear hz hlj hj;go_wp2_with fail;rename World=>wo;have O8:=hid (show wb.heap.size≤wo.heap.size from hE1.out.1);go_loopw [14,18] (fun av tv wr=>∃(t:Nat) (a9:Option Addr) (c9:Nat),t≤q∧av= .slice a9 m c9∧tv= .int .i64 (t:Int)∧Hid (R2 wb.heap.size wr (List.replicate m m) (.slice a9 m c9))∧Hid (Below wo.heap.size wo wr)) (fun _ tv _=>q-(intOf tv).toNat);case atStart=>exact⟨1,a8,c8,hq1,rfl,rfl,M3,hid AX⟩
         case round=>
          obtain⟨t,a9,c9,ht,rfl,rfl,yE,QT⟩:=hrel;have jY:=hid (hB1.out.trans (QT.out.mono hsz));obtain⟨b,o,u,rfl,_,hbl,Ep,rfl⟩:=J3 (Z4.out.keep (AA.of_below jY.out)) HTZ.out;by_cases AMp:t<q
          ·have htq:(t:Int)<(q:Int):=by omega
           have Bw:=hid (AHw m m rfl (by omega) (p:Int) (by have:=Ci.out;omega) a9 c9 a8 c8 wr (yE.out.mono (AU _)) (((Ty.below QT.out).two _ _ M3.out).mono (AU _)));have MB:=jY.out.size;go_wp2_with fail;refine Bw.out.mono ?_;rintro e Bj ⟨a10,c10,rfl,Gw,Bp⟩;have Lf:=hid (Gw.mono (B':=wb.heap.size) (Ad O8.out QT.out.size));have Dt:=hid (QT.out.trans (Bp.mono QT.out.size));clear Gw Bp yE QT jY MB Bw;go_wp2_with fail;go_roundw;case rel=>exact⟨t+1,a10,c10,by omega,rfl,by go_num,Lf,Dt⟩
           case measure=>simp[intOf];omega
          ·have htq:¬(t:Int)<(q:Int):=by omega
           have aD:=hid (hX1.out.below QT.out);have HE9:=hid (AAy hX1.out QT.out hE1.out);have Lu:i≤100:=by omega
           clear QT AMp ht;go_wp2_with fail;go_roundw;case rel=>exact⟨i+1,a9,c9,by have:=HI.out;omega,rfl,by go_num,yE,aD,HE9,jY⟩
           case measure=>have:=HI.out;simp[intOf];omega
      ·obtain rfl:k=i:=by omega
       have hki:¬(k:Int)<(k:Int):=by omega
       have hsz:=hB1.out.size;have LG:=hid (Ea hB1.out Ew.out K5.out);obtain⟨⟨e0,e1,e2⟩,-⟩:=AV hX1.out.1;obtain⟨⟨f0,f1,f2⟩,q0,q1,q2⟩:=AV LG.out;have Ii:=hid (ACE (b:=12) (wq:=w) tq hX1.out (Ug.out.trans (hB1.out.mono (DT Ew.out))) Ew.out hsz);clear hX1 hB1 M3;go_wp2_with fail;obtain⟨⟨z0,z1,z2⟩,-⟩:=AV (BZ (x:=.slice x1 N y1) (y:=.slice x2 N y2) (z:=.slice x3 N y3) LG.out);exact Aj (v:=.agg #[.slice x1 N y1,.slice x2 N y2,.slice x3 N y3]) (by simp[results,Tryz.results103,go_sem,z0,z1,z2]) rfl Ii.out
end Go.Proofs.YtaadbccidfdniaaGreat.yC
