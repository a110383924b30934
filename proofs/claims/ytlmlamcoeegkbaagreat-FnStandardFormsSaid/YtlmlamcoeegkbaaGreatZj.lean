import Derived.Test.YtlmlamcoeegkbaaGreatZ0
import Derived.Test.YtlmlamcoeegkbaaGreatZg
import Derived.Test.YtlmlamcoeegkbaaGreatZi
import Derived.Deep.CutBlock
import Derived.Test.YtlmlamcoeegkbaaGreatZh
/-
  Lemmas for the law FnStandardForms, in short spelling.
-/
open Go.Lib (hid)
set_option linter.unusedVariables false
set_option linter.unusedSimpArgs false
set_option maxRecDepth 100000
set_option maxHeartbeats 40000000
namespace Go.Proofs.YtlmlamcoeegkbaaGreat.VC
open Go.Proofs.YtlmlamcoeegkbaaGreat.DwV (ABL)
open Go.RowKit Go.Lib Go.Proofs.YtlmlamcoeegkbaaGreat AJ Val DC CY DV DD Bv Fv Sl U9 uN iI
def RlR (B n:Nat)(w:World)(e:Ending)(w':World):Prop:=∃a1 c1 a2 c2 a3 c3 b,e= .returned (.tuple #[.agg #[.slice a1 n c1,.slice a2 n c2,.slice a3 n c3],.bool b])∧PT B w' n (.slice a1 n c1) (.slice a2 n c2) (.slice a3 n c3)∧Below w.heap.size w w'
theorem AHb {L:List ByteArray}(h:L.length=2):∃x0 x1,L=[x0,x1]:=by
 match L,h with
 |[a,b],_=>exact⟨a,b,rfl⟩
theorem Ty.box {B b i:Nat}{w:World}{c:Value}{cur:Array Value}(hb:w.heap[b]?=some (.cells cur 28 (0,0))):Ty B w (w.setCell ⟨b,i,none⟩ c):=
 Ty.gM (fun n v h=>h.other hb (by decide)) (fun L v us h g=>⟨us,I4 h hb (by decide),fun i n hi=>by obtain⟨u,h1,h2⟩:=g i n hi;exact⟨u,h1,h2.other hb (by decide)⟩⟩)
  (fun M v us h g h2=>⟨us,I4 h hb (by decide),fun i L hi=>by obtain⟨u,h1,h3⟩:=g i L hi;exact⟨u,h1,h2 _ _ h3⟩⟩)
theorem Ty.GX {B g:Nat}{w:World}{a b c x y z:Value}(h:w.heap[g]?=some (.cells #[a,b,c] 28 (0,0))):Ty B w (((w.setCell ⟨g,0,none⟩ x).setCell ⟨g,1,none⟩ y).setCell ⟨g,2,none⟩ z):=by
 have e1:(w.setCell ⟨g,0,none⟩ x).heap[g]?=some (.cells #[x,b,c] 28 (0,0)):=Ho w g 0 _ _ _ h;have e2:((w.setCell ⟨g,0,none⟩ x).setCell ⟨g,1,none⟩ y).heap[g]?=some (.cells #[x,y,c] 28 (0,0)):=Ho _ g 1 _ _ _ e1;exact((Ty.box h).trans (Ty.box e1)).trans (Ty.box e2)
def VcR (n:Nat)(w:World)(e:Ending)(w':World):Prop:=∃a k c b,e= .returned (.tuple #[.slice a k c,.bool b])∧(b=true→k=n∧R1 w.heap.size w' n (.slice a n c))∧Below w.heap.size w w'
theorem AIC {n:Nat}{w w':World}{e:Ending}(h:dP n w e w'):VcR n w e w':=by
 rcases h with⟨g,c,rfl,h1,h2⟩|⟨rfl,h2⟩
 ·exact⟨_,_,_,_,rfl,fun _=>⟨rfl,h1⟩,h2⟩
 ·exact⟨_,_,_,_,rfl,fun h=>Bool.noConfusion h,h2⟩
theorem slot_ne {B N n gp i g:Nat}{w:World}{vO vP vC:Value}(h:Slot B N w gp i)(hx:PX B n w g vO vP vC):¬g=gp:=fun e=>by
 obtain⟨_,_,_,cur,u0,h4,_⟩:=h;rw[←e,hx.1]at h4;simp at h4
theorem AID (B n:Nat)(hn:n≤20)(s:ByteArray)(hs:s.size≤1000)(a1 a2 a3:Option Addr)(c1 c2 c3:Nat)(w:World)(hBw:B≤w.heap.size)(hA:PT B w n (.slice a1 n c1) (.slice a2 n c2) (.slice a3 n c3)):
  Calls Tryz.prog 232 #[.agg #[.slice a1 n c1,.slice a2 n c2,.slice a3 n c3],.string s] w (RlR B n w):=by
 obtain⟨g0,hg0⟩:∃g0,w.heap.size=g0:=⟨_,rfl⟩;obtain⟨w1,hw1⟩:∃w1,w1=(w.alloc (.cells #[.slice a1 n c1,.slice a2 n c2,.slice a3 n c3] 28)).alloc Bu:=⟨_,rfl⟩;have Jn:=hid hg0;have HB1:=hid (show Below w.heap.size w w1 by rw[hw1];exact(AR.alloc AQ _).alloc (by simp) _);have BA:=hid (show w1.heap.size=g0+2 by rw[hw1,←hg0];simp);have HP:=hid (fun(W:World) (hb:Below w1.heap.size w1 W)=>show W.heap[g0]?=some (.cells #[.slice a1 n c1,.slice a2 n c2,.slice a3 n c3] 28 (0,0)) from
  (hb.block g0 (by rw[BA.out];omega)).trans (by rw[hw1,←hg0];exact(EO _ _ _ (by simp)).trans (Av w _)))
 have HR:=hid (fun(W:World) (hb:Below w1.heap.size w1 W)=>show W.heap[g0+1]?=some Bu∧g0+1<W.heap.size from
  ⟨(hb.block (g0+1) (by rw[BA.out];omega)).trans (by rw[hw1,←hg0];exact new2 w _ _),by have:=hb.size;rw[BA.out]at this;omega⟩)
 have FQ:=hid (fun(W:World) (hb:Below w1.heap.size w1 W)=>hA.ty (Ty.below (HB1.out.trans (hb.mono HB1.out.size))));have HF:=hid (fun(W:World) (hb:Below w.heap.size w W) (x1 x2 x3:Option Addr) (y1 y2 y3:Nat) (b:Bool) (hz:W.heap[g0+1]?=some Bu) (hP:PT B W n (.slice x1 n y1) (.slice x2 n y2) (.slice x3 n y3))=>show RlR B n w (.returned (.tuple #[.agg #[.slice x1 n y1,.slice x2 n y2,.slice x3 n y3],.bool b])) (((W.setCell ⟨g0+1,0,none⟩ (.slice x1 n y1)).setCell ⟨g0+1,1,none⟩ (.slice x2 n y2)).setCell ⟨g0+1,2,none⟩ (.slice x3 n y3)) from by
  exact⟨_,_,_,_,_,_,b,rfl,hP.ty (Ty.GX hz),((hb.setCell (p:=⟨g0+1,0,none⟩) (by show w.heap.size≤g0+1;omega) _).setCell (p:=⟨g0+1,1,none⟩) (by show w.heap.size≤g0+1;omega) _).setCell (p:=⟨g0+1,2,none⟩) (by show w.heap.size≤g0+1;omega) _⟩)
 have Au:=hid (fun k (h:w1.heap.size≤k)=>Ab hBw (Ab HB1.out.size h));have HN:=hid (fun(W:World) (hb:Below w1.heap.size w1 W)=>HF.out W (HB1.out.trans (hb.mono HB1.out.size)) _ _ _ _ _ _ false (HR.out W hb).1 (FQ.out W hb));have Gt:=hid (fun W=>kY s 61 61 rfl hs W);go_enter Tryz.func232,Tryz.ntmps232;go_upto_region 1 with fail;rw[←hw1];clear hw1 hg0 hA hBw;obtain⟨⟨p0,p1,p2⟩,-⟩:=AO (HP.out w1 AR);go_upto_region 3 with(first|(go_at_call 230;refine(Gt.out _).mono ?_;rintro e w2 ⟨v,L,m,rfl,Yc,hm1,hm2,Ql,hO,hb2⟩)|fail);obtain⟨av,cv,rfl⟩:=FI hO;have HB2:=hid (show Below w1.heap.size w1 w2 from hb2);have uT:=hid Ql;have iJ:=hid Yc;have HL:=hid (fun(W:World) (hb:Below w2.heap.size w2 W) (k:Nat) (x:ByteArray) (hk:L[k]?=some x)=>show∃g,av=some ⟨g,0,none⟩∧W.cell? ⟨g,k,none⟩=some (.string x)∧g<W.heap.size from by
  obtain⟨g,c',he,hc1,hgl⟩:=Zo hO hk;obtain⟨rfl,rfl⟩:av=some ⟨g,0,none⟩∧cv=c':=by simpa using he
  exact⟨g,rfl,(hb.cell (p:=⟨g,k,none⟩) hgl).trans hc1,Ad hgl hb.size⟩)
 have Yd:(m:Int)≤1001:=by omega
 clear hO hb2 Gt p0 p1 p2 Ql Yc hm1 hm2;go_cut [43] (fun v W=>(∃b,v= .bool b∧(b=false→∃x0 x1,L=[x0,x1]∧x0.size=4))∧W=w2);case first=>
  by_cases hm2:m=2
  ·obtain⟨x0,x1,rfl⟩:=AHb (iJ.out.trans hm2);obtain⟨g,rfl,hc,hgl⟩:=HL.out w2 AR 0 x0 rfl;subst hm2;by_cases h4:x0.size=4
   ·have H4:=hid h4;have h40:0<x0.size:=by omega
    have h42:2<x0.size:=by omega
    have h4i:((x0.size:Int) !=4)=false:=by rw[h4];rfl
    cases hz2:((x0[0].toNat:Int) !=32)with
    |true=>
     go_wp2_with fail;go_meet;exact⟨⟨_,rfl,fun _=>⟨_,_,rfl,H4.out⟩⟩,rfl⟩
    |false=>
     cases hy2:((x0[2].toNat:Int) !=94)<;>
      (go_wp2_with fail
       go_meet;exact⟨⟨_,rfl,fun _=>⟨_,_,rfl,H4.out⟩⟩,rfl⟩)
   ·have h4i:((x0.size:Int) !=4)=true:=bne_iff_ne.2 (by omega);clear h4;go_wp2_with fail;go_meet;exact⟨⟨_,rfl,fun h=>Bool.noConfusion h⟩,rfl⟩
  ·have iK:((m:Int) !=2)=true:=bne_iff_ne.2 (by omega);clear hm2;go_wp2_with fail;go_meet;exact⟨⟨_,rfl,fun h=>Bool.noConfusion h⟩,rfl⟩
 case rest=>
  obtain⟨⟨b,rfl,hb⟩,rfl⟩:=hcut;rename World=>w2;cases b with
  |true=>
   obtain⟨⟨p0,p1,p2⟩,-⟩:=AO (HP.out w2 HB2.out);obtain⟨⟨e0,e1,e2⟩,f0,f1,f2⟩:=AO (HR.out w2 HB2.out).1;have hgl:=(HR.out w2 HB2.out).2;clear hb;go_wp2_with fail;obtain⟨⟨z0,z1,z2⟩,-⟩:=AO (BL (x:=.slice a1 n c1) (y:=.slice a2 n c2) (z:=.slice a3 n c3) (HR.out w2 HB2.out).1);exact Am (v:=.tuple #[.agg #[.slice a1 n c1,.slice a2 n c2,.slice a3 n c3],.bool false]) (by simp[results,Tryz.results232,go_sem,z0,z1,z2]) rfl (HN.out w2 HB2.out)
  |false=>
   obtain⟨x0,x1,rfl,h4⟩:=hb rfl;obtain rfl:m=2:=iJ.out.symm;have hs1:x1.size≤1000:=Ab (uT.out x1 (by simp)) hs;obtain⟨g,rfl,q0,hgl⟩:=HL.out w2 AR 0 x0 rfl;have q1:w2.cell? ⟨g,1,none⟩=some (.string x1):=by
    obtain⟨g',e,h,_⟩:=HL.out w2 AR 1 x1 rfl;obtain rfl:g=g':=by simpa using e
    exact h
   have uU:=hid (fun W=>AE0 n (by omega) x1 hs1 W);clear hb;go_upto_region 6 with(first|(go_at_call 237;refine(uU.out _).mono ?_;rintro e w3 ⟨l,a4,c4,b3,rfl,ho3,hp3,hl3,hb3⟩)|fail);have HB3:=hid (show Below w1.heap.size w1 w3 from HB2.out.trans (hb3.mono HB2.out.size));have Rf:=hid (show Below w2.heap.size w2 w3 from hb3);clear q0 q1 hgl;obtain⟨ml,hml⟩:∃ml,l.length=ml:=⟨_,rfl⟩;have HVC:=hid ((AEN n (by omega) a4 ml c4 l hml w3 (by rw[←hml];exact NI.KM ho3 rfl) (by omega) hp3).mono fun e w' h=>AIC h);rw[hml];clear ho3 hp3 hl3 hml hb3;cases b3 with
   |false=>
    obtain⟨⟨p0,p1,p2⟩,-⟩:=AO (HP.out w3 HB3.out);obtain⟨⟨e0,e1,e2⟩,f0,f1,f2⟩:=AO (HR.out w3 HB3.out).1;have hgl:=(HR.out w3 HB3.out).2;go_wp2_with fail;obtain⟨⟨z0,z1,z2⟩,-⟩:=AO (BL (x:=.slice a1 n c1) (y:=.slice a2 n c2) (z:=.slice a3 n c3) (HR.out w3 HB3.out).1);exact Am (v:=.tuple #[.agg #[.slice a1 n c1,.slice a2 n c2,.slice a3 n c3],.bool false]) (by simp[results,Tryz.results232,go_sem,z0,z1,z2]) rfl (HN.out w3 HB3.out)
   |true=>
    go_upto_region 9 with(first|(go_at_call 238;refine HVC.out.mono ?_;rintro e w4 ⟨a5,k5,c5,b4,rfl,hr4,hb4⟩)|fail);have CB:=hid (show Below w1.heap.size w1 w4 from HB3.out.trans (hb4.mono HB3.out.size));have XP:=hid (show Below w3.heap.size w3 w4 from hb4);have HR4:=hid hr4;obtain⟨g',eg,q0,hgl⟩:=HL.out w4 (Rf.out.trans (hb4.mono Rf.out.size)) 0 x0 rfl;obtain rfl:g=g':=by simpa using eg
    have hl1:1<x0.size:=by omega
    have hl3:3<x0.size:=by omega
    obtain⟨x,hx⟩:∃x:Int,(x0[1].toNat:Int)-97=x:=⟨_,rfl⟩;obtain⟨y,hy⟩:∃x:Int,(x0[3].toNat:Int)-97=x:=⟨_,rfl⟩;have hx1:=x0[1].toNat_lt;have hy1:=x0[3].toNat_lt;have hwx:IntKind.i64.wrap ((x0[1].toNat:Int)-97)=x:=by rw[AY _ (by omega)];exact hx
    have hwy:IntKind.i64.wrap ((x0[3].toNat:Int)-97)=y:=by rw[AY _ (by omega)];exact hy
    have fD:IntKind.i64.wrap (x0[1].toNat:Int)=(x0[1].toNat:Int):=AY _ (by omega);have hvy:IntKind.i64.wrap (x0[3].toNat:Int)=(x0[3].toNat:Int):=AY _ (by omega);have Lp:=hid (show(-97≤x∧x≤300)∧(-97≤y∧y≤300) by omega);clear hb4 hr4 HVC eg hx hy hx1 hy1;go_cut [12,13] (fun u v W=>u= .int .i64 x∧v= .int .i64 y∧Hid (Below w4.heap.size w4 W));case first=>
     go_region_law (fail);all_goals
      go_wp2_with fail;go_meet;exact⟨rfl,rfl,hid AR.drew⟩
    case rest=>
     obtain⟨rfl,rfl,AZ⟩:=hcut;rename World=>w5;have PE:=hid (show Below w1.heap.size w1 w5 from CB.out.trans (AZ.out.mono CB.out.size));clear hwx hwy fD hvy q0;go_upto_region 10 with fail;go_cut [84] (fun v W=>(∃b,v= .bool b∧(b=false→b4=true∧0≤x∧x<(n:Int)))∧W=w5);case first=>
      cases b4 with
      |false=>
       go_wp2_with fail;go_meet;exact⟨⟨_,rfl,fun h=>Bool.noConfusion h⟩,rfl⟩
      |true=>
       by_cases h1:x<0
       ·go_wp2_with fail;go_meet;exact⟨⟨_,rfl,fun h=>Bool.noConfusion h⟩,rfl⟩
       ·by_cases h2:(n:Int)≤x
        ·go_wp2_with fail;go_meet;exact⟨⟨_,rfl,fun h=>Bool.noConfusion h⟩,rfl⟩
        ·have HH:=hid (show 0≤x∧x<(n:Int) by omega);go_wp2_with fail;go_meet;exact⟨⟨_,rfl,fun _=>⟨by first|rfl|trivial,HH.out⟩⟩,rfl⟩
     case rest=>
      obtain⟨⟨b,rfl,hb⟩,rfl⟩:=hcut;rename World=>w5;cases b with
      |true=>
       clear hb;obtain⟨⟨p0,p1,p2⟩,-⟩:=AO (HP.out w5 PE.out);obtain⟨⟨e0,e1,e2⟩,f0,f1,f2⟩:=AO (HR.out w5 PE.out).1;have hgl:=(HR.out w5 PE.out).2;go_wp2_with fail;obtain⟨⟨z0,z1,z2⟩,-⟩:=AO (BL (x:=.slice a1 n c1) (y:=.slice a2 n c2) (z:=.slice a3 n c3) (HR.out w5 PE.out).1);exact Am (v:=.tuple #[.agg #[.slice a1 n c1,.slice a2 n c2,.slice a3 n c3],.bool false]) (by simp[results,Tryz.results232,go_sem,z0,z1,z2]) rfl (HN.out w5 PE.out)
      |false=>
       obtain⟨rfl,hx0,iN⟩:=hb rfl;obtain⟨rfl,hr4⟩:=HR4.out rfl;obtain⟨j,rfl⟩:∃j:Nat,x=(j:Int):=⟨x.toNat,by omega⟩;have hj:j<k5:=by omega
       have OJ:=hid (kL k5 (by omega) a1 a2 a3 c1 c2 c3 w5 ((FQ.out w5 PE.out).mono (AU _)));clear hb HR4 hx0;obtain⟨⟨p0,p1,p2⟩,-⟩:=AO (HP.out w5 PE.out);go_upto_region 13 with(first|(go_at_call 164;refine OJ.out.mono ?_;rintro e w6 ⟨vO,vP,vC,rfl,Iz,hb6⟩;obtain⟨VD,y1',iO,y2',iP,VE,rfl,rfl,rfl⟩:=Iz.form)|fail);obtain⟨w7,hw7⟩:∃w7,w7=w6.alloc (.cells #[.slice VD k5 y1',.slice iO k5 y2',.slice iP k5 VE] 28):=⟨_,rfl⟩;rw[←hw7];obtain⟨g7,Dk⟩:∃g7,w6.heap.size=g7:=⟨_,rfl⟩;rw[Dk];have oZ:=hid (show Below w5.heap.size w5 w7 from by rw[hw7];exact hb6.alloc hb6.size _);have Ny:=hid (show Below w1.heap.size w1 w7 from PE.out.trans (oZ.out.mono PE.out.size));have nE:=hid (show Below w3.heap.size w3 w7 from(XP.out.trans (AZ.out.mono XP.out.size)).trans (oZ.out.mono (Ab XP.out.size AZ.out.size)));have HX:=hid (show PX w3.heap.size k5 w7 g7 (.slice VD k5 y1') (.slice iO k5 y2') (.slice iP k5 VE) from by rw[hw7,←Dk];exact KJ Iz (Ab XP.out.size AZ.out.size) (Ab (Ab XP.out.size AZ.out.size) hb6.size));have HV7:=hid (show R1 w3.heap.size w7 k5 (.slice a5 k5 c5) from(Ty.below (oZ.out)).one _ _ ((Ty.below AZ.out).one _ _ hr4));have uV:=hid (fun(W:World) (hb:Below w7.heap.size w7 W)=>show W.cell? ⟨g,0,none⟩=some (.string x0)∧g<W.heap.size from by
        obtain⟨g',eg,h1,h2⟩:=HL.out W (by
         have h3:=Rf.out.trans (nE.out.mono Rf.out.size);exact h3.trans (hb.mono h3.size)) 0 x0 rfl
        obtain rfl:g=g':=by simpa using eg
        exact⟨h1,h2⟩)
       obtain⟨go,og,o,rfl,k1,_,_,_,k2⟩:=NI.QJ (FQ.out w7 Ny.out).1 hj;have VF:=hid (fun W=>ABL o W);obtain⟨q0,hgl⟩:=uV.out w7 AR;obtain⟨⟨p0,p1,p2⟩,-⟩:=AO (HP.out w7 Ny.out);have ACg:g0<w7.heap.size:=by have h1:=Ny.out.size;have h2:=BA.out;omega
       clear hw7 Dk Iz hb6 OJ hr4;go_cut [98] (fun v W=>(∃b,v= .bool b)∧Hid (Below w7.heap.size w7 W));case first=>
        go_region_law
         (first|(go_simp;go_at_call 239;refine(VF.out _).mono ?_;rintro e wd ⟨sd,rfl,hzd,hbd⟩;have iQ:=hid (show Below w7.heap.size w7 wd from(by first|exact hbd|exact(AR.drew).trans hbd));obtain⟨qd0,hgd⟩:=uV.out wd iQ.out)|(fail))
        all_goals
         go_wp2_with fail;go_meet;exact⟨⟨_,rfl⟩,iQ⟩
       case rest=>
        obtain⟨⟨b,rfl⟩,Cr⟩:=hcut;rename World=>w8;have IX:=hid (show Below w1.heap.size w1 w8 from Ny.out.trans (Cr.out.mono Ny.out.size));have VG:=hid (show w1.heap.size≤w3.heap.size from HB3.out.size);have Dv:=hid (HX.out.below Cr.out);have HV8:=hid ((Ty.below Cr.out).one _ _ HV7.out);clear q0 hgl p0 p1 p2 ACg k1 k2 h4 hl1 hl3 HX HV7 VF HL uV;obtain⟨⟨d0,d1,d2⟩,-⟩:=AO Dv.out.1;have dU:=Dv.out.lt;obtain⟨⟨e0,e1,e2⟩,f0,f1,f2⟩:=AO (HR.out w8 IX.out).1;have oh:=(HR.out w8 IX.out).2;cases b with
        |true=>
         obtain⟨gp,ex2,hsl⟩:=Dv.out.Ow (i:=j) hj;subst ex2;have hgg:=slot_ne hsl Dv.out;obtain⟨u0,hp2⟩:=hsl.cell;have hp1:=hsl.1;have hp3:=hsl.2.2.1;have hg1:¬g0+1=gp:=by have h1:=BA.out;have h2:=VG.out;have h3:=hsl.2.1;omega
         have Ay:=hid hsl;have Ye:=hid (hsl.put Dv.out HV8.out);have XQ:=hid ((DT w8 ⟨gp,j,none⟩ (g0+1) (.slice a5 k5 c5) hg1).trans (HR.out w8 IX.out).1);have om:=hid ((HB1.out.trans (IX.out.mono HB1.out.size)).setCell (p:=⟨gp,j,none⟩) (Ab (Ab HB1.out.size VG.out) hsl.2.1) (.slice a5 k5 c5));clear hsl;go_wp2_with fail;obtain⟨⟨z0,z1,z2⟩,-⟩:=AO (BL (x:=.slice VD k5 y1') (y:=.slice (some ⟨gp,0,none⟩) k5 y2') (z:=.slice iP k5 VE) XQ.out);exact Am (v:=.tuple #[.agg #[.slice VD k5 y1',.slice (some ⟨gp,0,none⟩) k5 y2',.slice iP k5 VE],.bool true]) (by simp[results,Tryz.results232,go_sem,z0,z1,z2]) rfl (HF.out _ om.out _ _ _ _ _ _ _ XQ.out (Ye.out.2.2.mono (Au.out _ VG.out)))
        |false=>
         go_upto_region 16 with fail;go_cut [111] (fun v W=>(∃b,v= .bool b∧(b=false→0≤y∧y<(j:Int)))∧W=w8);case first=>
          by_cases h1:y<0
          ·go_wp2_with fail;go_meet;exact⟨⟨_,rfl,fun h=>Bool.noConfusion h⟩,rfl⟩
          ·by_cases h2:(j:Int)≤y
           ·go_wp2_with fail;go_meet;exact⟨⟨_,rfl,fun h=>Bool.noConfusion h⟩,rfl⟩
           ·have HH:=hid (show 0≤y∧y<(j:Int) by omega);go_wp2_with fail;go_meet;exact⟨⟨_,rfl,fun _=>HH.out⟩,rfl⟩
         case rest=>
          obtain⟨⟨b,rfl,hb⟩,rfl⟩:=hcut;rename World=>w8;cases b with
          |true=>
           clear hb;obtain⟨⟨p0,p1,p2⟩,-⟩:=AO (HP.out w8 IX.out);go_wp2_with fail;obtain⟨⟨z0,z1,z2⟩,-⟩:=AO (BL (x:=.slice (some ⟨go,0,none⟩) k5 c1) (y:=.slice a2 k5 c2) (z:=.slice a3 k5 c3) (HR.out w8 IX.out).1);exact Am (v:=.tuple #[.agg #[.slice (some ⟨go,0,none⟩) k5 c1,.slice a2 k5 c2,.slice a3 k5 c3],.bool false]) (by simp[results,Tryz.results232,go_sem,z0,z1,z2]) rfl (HN.out w8 IX.out)
          |false=>
           obtain⟨hy0,hyj⟩:=hb rfl;obtain⟨i,rfl⟩:∃i:Nat,y=(i:Int):=⟨y.toNat,by omega⟩;obtain⟨kk,hkk⟩:∃kk,j-(i+1)=kk:=⟨_,rfl⟩;have hij:i<j:=by omega
           have hik:i<k5:=by omega
           obtain⟨gc,gr,yr,ex3,hp0,ALn,hsl⟩:=Dv.out.UI (i:=i) (j:=kk) hik (by omega);subst ex3;have hgg:=slot_ne hsl Dv.out;obtain⟨u0,hp2⟩:=hsl.cell;have hp1:=hsl.1;have hp3:=hsl.2.2.1;have hg1:¬g0+1=gr:=by have h1:=BA.out;have h2:=VG.out;have h3:=hsl.2.1;omega
           have hw1:IntKind.i64.wrap ((j:Int)-(i:Int))=(j:Int)-(i:Int):=AY _ (by omega);have hw2:IntKind.i64.wrap ((j:Int)-(i:Int)-1)=(kk:Int):=by rw[AY _ (by omega)];omega
           obtain⟨ln,hln⟩:∃ln,k5-(i+1)=ln:=⟨_,rfl⟩;rw[hln]at hp0;have hkl:(kk:Int)<(ln:Int):=by omega
           have hkl':kk<ln:=by omega
           have ALo:(i:Int)<(k5:Int):=by omega
           have Ye:=hid (hsl.put Dv.out HV8.out);have XQ:=hid ((DT w8 ⟨gr,kk,none⟩ (g0+1) (.slice a5 k5 c5) hg1).trans (HR.out w8 IX.out).1);have om:=hid ((HB1.out.trans (IX.out.mono HB1.out.size)).setCell (p:=⟨gr,kk,none⟩) (Ab (Ab HB1.out.size VG.out) hsl.2.1) (.slice a5 k5 c5));clear hsl hb hln hkk;go_wp2_with fail;obtain⟨⟨z0,z1,z2⟩,-⟩:=AO (BL (x:=.slice VD k5 y1') (y:=.slice iO k5 y2') (z:=.slice (some ⟨gc,0,none⟩) k5 VE) XQ.out);exact Am (v:=.tuple #[.agg #[.slice VD k5 y1',.slice iO k5 y2',.slice (some ⟨gc,0,none⟩) k5 VE],.bool true]) (by simp[results,Tryz.results232,go_sem,z0,z1,z2]) rfl (HF.out _ om.out _ _ _ _ _ _ _ XQ.out (Ye.out.2.2.mono (Au.out _ VG.out)))
end Go.Proofs.YtlmlamcoeegkbaaGreat.VC
namespace Go.Proofs.YtlmlamcoeegkbaaGreat.SH
open Go.RowKit Go.Proofs.YtlmlamcoeegkbaaGreat AJ Val DC CY DV DD Bv NI Sl U9
structure TOk (n:Nat)(os:List Int)(ps:List (List Nat))(cs:List (List (List Nat))):Prop where
 n6:n≤6
 ol:os.length=n
 pr:∀o∈os,o=2∨o=3∨o=5∨o=7
 pl:ps.length=n
 pv:∀v∈ps,v.length=n∧∀q∈v,q≤7
 cl:cs.length=n
 cv:∀i L,cs[i]?=some L→L.length=n-(i+1)∧∀v∈L,v.length=n∧∀q∈v,q≤7
theorem ACh (o:Int)(h:o=2∨o=3∨o=5∨o=7)(w:World):Calls Tryz.prog 239 #[.int .i64 o] w (IW 1 w):=by
 have key:∀m:Nat,(Lib.decDigits m).length≤1→m≤1000→Calls Tryz.prog 239 #[.int .i64 (m:Int)] w (IW 1 w):=fun m hm hm2=>by
  refine(XO.AGl m w (by omega)).mono ?_;rintro e w' ⟨rfl,hb⟩;exact⟨_,rfl,by show(Lib.decDigits m).length≤1;exact hm,hb⟩
 rcases h with rfl|rfl|rfl|rfl
 ·exact key 2 (by rw[Lib.decDigits];simp) (by decide)
 ·exact key 3 (by rw[Lib.decDigits];simp) (by decide)
 ·exact key 5 (by rw[Lib.decDigits];simp) (by decide)
 ·exact key 7 (by rw[Lib.decDigits];simp) (by decide)
theorem LH {a b c:World}{B:Nat}(h:Below a.heap.size a b)(hB:B≤b.heap.size)(h2:Below b.heap.size b c):Below a.heap.size a c:=h.trans (h2.mono h.size)
theorem Tg {w:World}{v:Value}{n:Nat}{α:Type}{E:World→Value→α→Prop}{S:Nat→Prop}{l:List α}(h:Bl E S w v l)(hn:l.length=n):∃a c,v= .slice a n c:=by
 obtain⟨a,c,h1,_⟩:=h;exact⟨a,c,by rw[h1,hn]⟩
theorem AGu (n:Nat)(os:List Int)(ps:List (List Nat))(cs:List (List (List Nat)))(h:TOk n os ps cs)(vO vP vC:Value)(w:World)(hV:Aw (fun _=>True) w vO vP vC ⟨os,ps.map ints,cs.map (fun L=>L.map ints)⟩):
  Calls Tryz.prog 233 #[.agg #[vO,vP,vC]] w (IW 4000 w):=by
 obtain⟨aO,cO,rfl⟩:=Tg hV.os h.ol;obtain⟨aP,cP,rfl⟩:=Tg hV.ps (n:=n) (by simp[h.pl]);obtain⟨aC,cC,rfl⟩:=Tg hV.cs (n:=n) (by simp[h.cl]);have H:=hid h;have M5:n≤6:=h.n6;have HV:=hid hV;clear h hV;go_enter Tryz.func233,Tryz.ntmps233;go_upto_region 1 with fail;obtain⟨w1,hw1⟩:∃w1,w1=w.alloc (.cells #[.slice aO n cO,.slice aP n cP,.slice aC n cC] 28):=⟨_,rfl⟩;rw[←hw1];have HB1:=hid (show Below w.heap.size w w1 by rw[hw1];exact AR.alloc AQ _);have Cb:=hid (fun(W:World) (hb:Below w1.heap.size w1 W)=>show(W.cell? ⟨w.heap.size,0,none⟩=some (.slice aO n cO)∧W.cell? ⟨w.heap.size,1,none⟩=some (.slice aP n cP)∧W.cell? ⟨w.heap.size,2,none⟩=some (.slice aC n cC))∧w.heap.size<W.heap.size from by
  have hl:w.heap.size<w1.heap.size:=by rw[hw1];simp
  have hr:w1.heap[w.heap.size]?=some (.cells #[.slice aO n cO,.slice aP n cP,.slice aC n cC] 28 (0,0)):=by rw[hw1];exact Av _ _
  exact⟨WR ((hb.block _ hl).trans hr),Ad hl hb.size⟩)
 have Qf:=hid (HV.out.keep (AA.of_below HB1.out));clear hw1;obtain⟨⟨e0,e1,e2⟩,hgl⟩:=Cb.out w1 AR;by_cases hn0:n=0
 ·have hz:((n:Int)==0)=true:=by rw[hn0];rfl
  have HF:=hid (show IW 4000 w (.returned (.string ⟨#[49]⟩)) w1 from⟨_,rfl,by show 1≤_;omega,HB1.out⟩);clear hn0;go_wp2_with fail;go_ret;exact HF.out
 have hz:((n:Int)==0)=false:=JG.2 (by omega);clear hn0;go_wp2_with fail;go_loopw [4,5] (fun ov iv wr=>∃(i:Nat) (s:ByteArray),i≤n∧s.size≤2*i∧iv= .int .i64 (i:Int)∧ov= .string s∧Hid (Below w1.heap.size w1 wr)) (fun _ iv _=>n-(intOf iv).toNat);case atStart=>exact⟨0,_,AU _,Ap _,rfl,rfl,hid AR⟩
 case round=>
  clear e0 e1 e2 hgl;obtain⟨i,s,hi,hs,rfl,rfl,hB⟩:=hrel;by_cases hlt:i<n
  ·have hki:(i:Int)<(n:Int):=by omega
   have EP:(0:Int)≤(i:Int):=by omega
   obtain⟨x,hx⟩:∃x,os[i]?=some x:=⟨_,AP (by rw[H.out.ol];exact hlt)⟩;have Dj:=hid (H.out.pr x (Ar hx));obtain⟨b',o',u,rfl,_,hbu,JQ,rfl⟩:=Ej (Qf.out.os.keep (AA.of_below hB.out)) hx;obtain⟨⟨e0,e1,e2⟩,hgl⟩:=Cb.out wr hB.out;clear hx;have q1:(9223372036854775807<s.size+1)=False:=eq_false (by omega);go_upto_if 20 with(fail);go_cut [4] (fun v W=>∃s':ByteArray,v= .string s'∧s'.size≤2*i+1∧W=wr);case first=>
    by_cases hi0:i=0
    ·have AJk:¬0<i:=by omega
     clear hi0;go_wp2_with fail;go_meet;exact⟨s,rfl,by omega,rfl⟩
    ·have AJk:0<i:=by omega
     clear hi0;go_wp2_with fail;go_meet;exact⟨_,rfl,by rw[ByteArray.size_append];show _+1≤_;omega,rfl⟩
   case rest=>
    obtain⟨s',rfl,hs',rfl⟩:=hcut;rename World=>wr;have VF:=hid (ACh x Dj.out wr);clear hs q1;go_wp2_with (first|(go_at_call 239;refine VF.out.mono ?_;rintro e w2 ⟨s1,rfl,hz1,hb1⟩;have q2:(9223372036854775807<s'.size+s1.size)=False:=eq_false (by omega))|fail);have Bn:=hid (show(s'++s1).size≤2*(i+1) from by rw[ByteArray.size_append];omega);have HB2:=hid (hB.out.trans (hb1.mono hB.out.size));clear hz1 hb1 hB hs' q2;go_roundw;case rel=>exact⟨i+1,_,by omega,Bn.out,by go_num,rfl,HB2⟩
    case measure=>simp[intOf];omega
  ·obtain rfl:n=i:=by omega
   have ACi:s.size≤12+0*60:=by omega
   have HB0:=hB;clear hB hs hlt hi;rename World=>w8;go_wp2_with fail;go_loopw [4,6] (fun ov iv wr=>∃(k:Nat) (s:ByteArray),k≤n∧s.size≤12+k*60∧iv= .int .i64 (k:Int)∧ov= .string s∧Hid (Below w1.heap.size w1 wr)) (fun _ iv _=>n-(intOf iv).toNat);case atStart=>exact⟨0,_,AU _,ACi,rfl,rfl,HB0⟩
   case round=>
    clear HB0 ACi;obtain⟨k,s,hk,hs,rfl,rfl,hB⟩:=hrel;by_cases hlt:k<n
    ·have hki:(k:Int)<(n:Int):=by omega
     have EP:(0:Int)≤(k:Int):=by omega
     obtain⟨v,hv⟩:∃v,ps[k]?=some v:=⟨_,AP (by rw[H.out.pl];exact hlt)⟩;have Eu:=hid (H.out.pv v (Ar hv));obtain⟨b',o',u,rfl,_,hbu,JQ,hsu⟩:=Ej (Qf.out.ps.keep (AA.of_below hB.out)) (show(ps.map ints)[k]?=some (ints v) by simp[hv]);obtain⟨au,cu,rfl⟩:=Tg hsu (n:=n) (by rw[A7];exact Eu.out.1);obtain⟨⟨e0,e1,e2⟩,hgl⟩:=Cb.out wr hB.out;obtain⟨x,hx⟩:∃x,os[k]?=some x:=⟨_,AP (by rw[H.out.ol];exact hlt)⟩;have Dj:=hid (H.out.pr x (Ar hx));obtain⟨bq,oq,uq,rfl,_,hbq,hcq,rfl⟩:=Ej (Qf.out.os.keep (AA.of_below hB.out)) hx;have PR:=hid hsu;have HZ:=hid (AHY au n cu (ints v) (by rw[A7];exact Eu.out.1) (by omega) wr hsu);clear hv hsu hx;go_upto_block 3 with(fail);go_cut [4] (fun v W=>∃s':ByteArray,v= .string s'∧s'.size≤s.size+60∧Hid (Below w1.heap.size w1 W));case rest=>
      obtain⟨s',rfl,hs',hB'⟩:=hcut;clear PR HZ hB;go_wp2_with fail;go_roundw;case rel=>exact⟨k+1,s',by omega,by omega,by go_num,rfl,hB'⟩
      case measure=>simp[intOf];omega
     case first=>
      have YP:=hid (fun W (hk:AA (fun _=>True) wr W)=>zD au n cu v Eu.out.1 (by omega) Eu.out.2 W (PR.out.keep hk));have FU:=hid (fun W=>jc k (by omega) W);have VF:=hid (fun W=>ACh x Dj.out W);have OM:s.size≤400:=by omega
      have c0:(9223372036854775807<s.size+2)=False:=eq_false (by omega);go_upto_if 42 with(go_at_call 240;refine HZ.out.mono ?_;rintro e w5 ⟨r,rfl,rfl⟩);cases r with
      |true=>
       go_wp2_with fail;go_meet;exact⟨s,rfl,by omega,hB⟩
      |false=>
       go_upto_region 15 with fail;go_region_held3 (fun w'=>(∀b o,b<w5.heap.size→w'.cell? ⟨b,o,none⟩=w5.cell? ⟨b,o,none⟩)∧AA (fun _=>True) w5 w')
        (first|exact Aj (by repeat(first|exact AB.drew|exact AA.refl _ _|refine AA.drewN ?_ _|refine AA.trans ?_ (AA.of_below (by assumption)))))
        (first|(go_at_call 241;refine(FU.out _).mono ?_;rintro e wa ⟨sa,rfl,hza,hba⟩;have c1:(9223372036854775807<s.size+2+sa.size)=False:=(eq_false (by omega));have c2:(9223372036854775807<s.size+2+sa.size+1)=False:=(eq_false (by omega)))|(go_at_call 239;refine(VF.out _).mono ?_;rintro e wb ⟨sx,rfl,hzx,hbx⟩;have c3:(9223372036854775807<s.size+2+sa.size+1+sx.size)=False:=(eq_false (by omega));have c4:(9223372036854775807<s.size+2+sa.size+1+sx.size+1)=False:=(eq_false (by omega)))|(go_at_call 243;refine(YP.out _ (by repeat(first|exact AB.drew|exact AA.refl _ _|refine AA.drewN ?_ _|refine AA.trans ?_ (AA.of_below (by assumption))))).mono ?_;rintro e w6 ⟨n6,a6,c6,rfl,⟨l6,Es,Al,-, qz⟩,hb6⟩)|(go_at_call 242;refine(jr a6 n6 c6 l6 Es (by omega) _ (KM Al Es)).mono ?_;rintro e w7 ⟨s7,rfl,fB,Bd⟩;have c5:(9223372036854775807<s.size+2+sa.size+1+sx.size+1+s7.size)=False:=(eq_false (by omega))))
       have h7:Below w5.heap.size w5 w7:=(by repeat(first|exact Ag _ _|exact AR.drew|refine LH ?_ AQ (by assumption)));have HB2:=hid (hB.out.trans (h7.mono hB.out.size));have Bn:=hid (show(((((((s++⟨#[59,32]⟩)++sa)++⟨#[94]⟩)++sx)++⟨#[61]⟩)++s7):ByteArray).size≤s.size+60 from by
        simp only[ByteArray.size_append];show s.size+2+sa.size+1+sx.size+1+s7.size≤_;omega)
       clear h7;go_wp2_with fail;go_meet;exact⟨_,rfl,Bn.out,HB2⟩
    ·obtain rfl:n=k:=by omega
     have ABM:s.size≤372+0*360:=by omega
     have Cr:=hid hB.out;clear hB hlt hk hs;rename World=>w9;go_wp2_with fail;go_loopw [4,7] (fun ov iv wr=>∃(i:Nat) (s:ByteArray),i≤n∧s.size≤372+i*360∧iv= .int .i64 (i:Int)∧ov= .string s∧Hid (Below w1.heap.size w1 wr)) (fun _ iv _=>n-(intOf iv).toNat);case atStart=>exact⟨0,_,AU _,ABM,rfl,rfl,Cr⟩
     case round=>
      clear Cr ABM;obtain⟨i,s,hi,hs,rfl,rfl,hB⟩:=hrel;by_cases hlt:i<n
      ·have hki:(i:Int)<(n:Int):=by omega
       have EP:(0:Int)≤(i:Int):=by omega
       have KH:i≤6:=by omega
       obtain⟨L,hL⟩:∃L,cs[i]?=some L:=⟨_,AP (by rw[H.out.cl];exact hlt)⟩;obtain⟨iT,hLr⟩:=H.out.cv i L hL;obtain⟨ln,hln⟩:∃ln,n-(i+1)=ln:=⟨_,rfl⟩;rw[hln]at iT;have Cj:=hid hln;have ACV:ln≤6:=by omega
       obtain⟨bC,oC,u,rfl,_,ou,ACj,hsu⟩:=Ej Qf.out.cs (show(cs.map (fun L=>L.map ints))[i]?=some (L.map ints) by simp[hL]);obtain⟨aL,cL,rfl⟩:=Tg hsu (n:=ln) (by rw[Ce];exact iT);have Ay:=hid hsu;have HCU:=hid (fun(W:World) (hb:Below w1.heap.size w1 W)=>show W.cell? ⟨bC,oC+i,none⟩=some (.slice aL ln cL)∧bC<W.heap.size from⟨((AA.of_below (S:=fun _=>True) hb).cell trivial ou).trans ACj,Ad ou hb.size⟩);have HLF:=hid (And.intro iT hLr);have OM:s.size≤372+i*360+0*60:=by omega
       have MB:=hid hB.out;have hw1:IntKind.i64.wrap ((i:Int)+1)=(i:Int)+1:=AY _ (by omega);have hin:i+1+ln=n:=by omega
       clear hL iT hLr hln hsu hs hB ou ACj;go_wp2_with fail;go_loopw [4,8] (fun ov jv wr=>∃(k:Nat) (s:ByteArray),k≤ln∧s.size≤372+i*360+k*60∧jv= .int .i64 ((i:Int)+1+(k:Int))∧ov= .string s∧Hid (Below w1.heap.size w1 wr)) (fun _ jv _=>n-(intOf jv).toNat);case atStart=>exact⟨0,_,AU _,OM,by simp,rfl,MB⟩
       case round=>
        clear MB OM;obtain⟨k,s,hk,hs,rfl,rfl,hB⟩:=hrel;have hw2:IntKind.i64.wrap ((i:Int)+1+(k:Int))=(i:Int)+1+(k:Int):=AY _ (by omega);have Ci:IntKind.i64.wrap ((i:Int)+1+(k:Int)+1)=(i:Int)+1+(k:Int)+1:=AY _ (by omega);by_cases hlt2:k<ln
        ·have ACU:(k:Int)<(ln:Int):=by omega
         have AK1:(0:Int)≤(k:Int):=by omega
         obtain⟨j,hj⟩:∃j,i+1+k=j:=⟨_,rfl⟩;have hji:(i:Int)+1+(k:Int)=(j:Int):=by omega
         have hjn:j<n:=by omega
         have AJl:(j:Int)<(n:Int):=by omega
         have ALp:i<j:=by omega
         rw[hji]at hw2 Ci ⊢;have HJI:=hid hji;have hw3:IntKind.i64.wrap ((j:Int)-(i:Int))=(j:Int)-(i:Int):=AY _ (by omega);have hw4:IntKind.i64.wrap ((j:Int)-(i:Int)-1)=(k:Int):=by rw[AY _ (by omega)];omega
         have iB:IntKind.i64.wrap (j:Int)=(j:Int):=AY _ (by omega);have hw7:IntKind.i64.wrap (i:Int)=(i:Int):=AY _ (by omega);obtain⟨v,hv⟩:∃v,L[k]?=some v:=⟨_,AP (by rw[HLF.out.1];exact hlt2)⟩;have Eu:=hid (HLF.out.2 v (Ar hv));obtain⟨b',o',u,rfl,_,ow,ACk,hsu⟩:=Ej Ay.out (show(L.map ints)[k]?=some (ints v) by simp[hv]);obtain⟨au,cu,rfl⟩:=Tg hsu (n:=n) (by rw[A7];exact Eu.out.1);have PR:=hid hsu;have YY:=hid (fun(W:World) (hb:Below w1.heap.size w1 W)=>show W.cell? ⟨b',o'+k,none⟩=some (.slice au n cu)∧b'<W.heap.size from⟨((AA.of_below (S:=fun _=>True) hb).cell trivial ow).trans ACk,Ad ow hb.size⟩);have hsb:s.size≤3000:=by omega
         clear hv hsu ow ACk hj hji;go_upto_block 7 with(fail);go_cut [4] (fun v W=>∃s':ByteArray,v= .string s'∧s'.size≤s.size+60∧Hid (Below w1.heap.size w1 W));case rest=>
          obtain⟨s',rfl,hs',hB'⟩:=hcut;have hjk:(j:Int)+1=(i:Int)+1+((k+1:Nat):Int):=by have:=HJI.out;omega
          have HJK:=hid hjk;have HM:=hid (show n-(intOf (.int .i64 ((j:Int)+1))).toNat<n-(intOf (.int .i64 (j:Int))).toNat from by simp[intOf];omega);clear PR YY Eu hB hjk;go_wp2_with fail;go_roundw;case rel=>exact⟨k+1,s',by omega,by omega,Bp (Value.int .i64) HJK.out,rfl,hB'⟩
          case measure=>exact HM.out
         case first=>
          obtain⟨⟨e0,e1,e2⟩,hgl⟩:=Cb.out wr hB.out;obtain⟨JQ,hbu⟩:=HCU.out wr hB.out;obtain⟨hcv,hbv⟩:=YY.out wr hB.out;have rR:=hid (fun W=>(Bv.Vl n j (by omega) hjn W).mono (R':=fun e w'=>∃g c,e= .returned (.slice (some ⟨g,0,none⟩) n c)∧AL (fun _=>True) w' (.slice (some ⟨g,0,none⟩) n c) (ints ((List.replicate n 0).set j 1))∧Below W.heap.size W w') (by
           rintro e w' ⟨g,c,rfl,ho,hb⟩;have hl:(ints ((List.replicate n 0).set j 1)).length=n:=by rw[A7];simp
           rw[hl]at ho ⊢;exact⟨g,c,rfl,(Own.sl ho).mono (fun _ _=>trivial),hb⟩))
          have HSA:=hid (PR.out.keep (AA.of_below hB.out));go_upto_region 22 with fail;go_cut [92] (fun x W=>∃r:Bool,x= .bool r∧Hid (Below w1.heap.size w1 W));case first=>
           go_region_held3 (fun w'=>(∀b o,b<wr.heap.size→w'.cell? ⟨b,o,none⟩=wr.cell? ⟨b,o,none⟩)∧AA (fun _=>True) wr w')
            (first|exact Aj (by repeat(first|exact AB.drew|exact AA.refl _ _|refine AA.drewN ?_ _|refine AA.trans ?_ (AA.of_below (by assumption)))))
            (first|(go_at_call 94;refine(rR.out _).mono ?_;rintro e w5 ⟨g5,c5,rfl,hs5,hb5⟩)|(go_at_call 183;refine(JA.MK _ _ _ (ints v) _ (HSA.out.keep (by repeat(first|exact AB.drew|exact AA.refl _ _|refine AA.drewN ?_ _|refine AA.trans ?_ (AA.of_below (by assumption))))) hs5).mono ?_;rintro e w8 ⟨rfl,n7,rfl⟩))
           have h7:Below wr.heap.size wr (w5.drewN n7):=Dp (by repeat(first|exact Ag _ _|exact AR.drew|refine LH ?_ AQ (by assumption))) _;have HB2:=hid (hB.out.trans (h7.mono hB.out.size));clear h7;go_wp2_with fail;go_meet;exact⟨_,rfl,HB2⟩
          case rest=>
           obtain⟨r,rfl,hBm⟩:=hcut;rename World=>wr;clear hB e0 e1 e2 hgl JQ hbu hcv hbv HSA;have hB:=hBm;clear hBm;cases r with
           |false=>
            go_wp2_with fail;go_meet;exact⟨s,rfl,by omega,hB⟩
           |true=>
            obtain⟨⟨e0,e1,e2⟩,hgl⟩:=Cb.out wr hB.out;obtain⟨JQ,hbu⟩:=HCU.out wr hB.out;obtain⟨hcv,hbv⟩:=YY.out wr hB.out;have YP:=hid (fun W (hk:AA (fun _=>True) wr W)=>zD au n cu v Eu.out.1 (by omega) Eu.out.2 W ((PR.out.keep (AA.of_below hB.out)).keep hk));have FU:=hid (fun W=>jc j (by omega) W);have HLI:=hid (fun W=>jc i (by omega) W);have c0:(9223372036854775807<s.size+2)=False:=eq_false (by omega);go_upto_region 23 with fail;go_region_held3 (fun w'=>(∀b o,b<wr.heap.size→w'.cell? ⟨b,o,none⟩=wr.cell? ⟨b,o,none⟩)∧AA (fun _=>True) wr w')
             (first|exact Aj (by repeat(first|exact AB.drew|exact AA.refl _ _|refine AA.drewN ?_ _|refine AA.trans ?_ (AA.of_below (by assumption)))))
             (first|(go_at_call_of 241 j;refine(FU.out _).mono ?_;rintro e wa ⟨sa,rfl,hza,hba⟩;have c1:(9223372036854775807<s.size+2+sa.size)=False:=(eq_false (by omega));have c2:(9223372036854775807<s.size+2+sa.size+1)=False:=(eq_false (by omega)))|(go_at_call_of 241 i;refine(HLI.out _).mono ?_;rintro e wb ⟨sx,rfl,hzx,hbx⟩;have c3:(9223372036854775807<s.size+2+sa.size+1+sx.size)=False:=(eq_false (by omega));have c4:(9223372036854775807<s.size+2+sa.size+1+sx.size+1)=False:=(eq_false (by omega)))|(go_at_call 243;refine(YP.out _ (by repeat(first|exact AB.drew|exact AA.refl _ _|refine AA.drewN ?_ _|refine AA.trans ?_ (AA.of_below (by assumption))))).mono ?_;rintro e w6 ⟨n6,a6,c6,rfl,⟨l6,Es,Al,-, qz⟩,hb6⟩)|(go_at_call 242;refine(jr a6 n6 c6 l6 Es (by omega) _ (KM Al Es)).mono ?_;rintro e w7 ⟨s7,rfl,fB,Bd⟩;have c5:(9223372036854775807<s.size+2+sa.size+1+sx.size+1+s7.size)=False:=(eq_false (by omega))))
            have h7:Below wr.heap.size wr w7:=(by repeat(first|exact Ag _ _|exact AR.drew|refine LH ?_ AQ (by assumption)));have Bn:=hid (show(((((((s++⟨#[59,32]⟩)++sa)++⟨#[94]⟩)++sx)++⟨#[61]⟩)++s7):ByteArray).size≤s.size+60 from by
             simp only[ByteArray.size_append];show s.size+2+sa.size+1+sx.size+1+s7.size≤_;omega)
            have HB2:=hid (hB.out.trans (h7.mono hB.out.size));clear h7;go_wp2_with fail;go_meet;exact⟨_,rfl,Bn.out,HB2⟩
        ·obtain rfl:ln=k:=by omega
         have AJl:¬(i:Int)+1+(ln:Int)<(n:Int):=by omega
         have AZ:=hB;clear hB;go_wp2_with fail;go_roundw;case rel=>exact⟨i+1,s,by omega,by omega,by go_num,rfl,AZ⟩
         case measure=>simp[intOf];omega
      ·obtain rfl:n=i:=by omega
       have HF:=hid (show IW 4000 w (.returned (.string s)) wr from⟨_,rfl,by omega,HB1.out.trans (hB.out.mono HB1.out.size)⟩);clear hB;go_wp2_with fail;go_ret;exact HF.out
theorem ZI {os v:List Int}{z:Nat}(h:DN os z v)(hp:∀o∈os,CZ o=true):ints (Gm v)=v∧(Gm v).length=os.length∧∀q∈Gm v,q≤7:=by
 have hx:∀x∈v,0≤x∧x≤7:=fun x hx=>by
  obtain⟨j,hj⟩:=IP hx;have hl:=(Ak.1 hj).1;obtain⟨o,ho⟩:∃o,os[j]?=some o:=⟨_,AP (by rw[←h.1];exact hl)⟩;have h1:=h.2 j x o hj ho;have h2:=Oa (hp o (Ar ho));omega
 refine⟨yD fun x h1=>(hx x h1).1,by unfold Gm;rw[Ce];exact h.1,fun q hq=>?_⟩;unfold Gm at hq;obtain⟨x,h1,rfl⟩:=CX.1 hq;have:=hx x h1;omega
theorem AHc {P:Bq}(h:Valid P):∃ps cs,P=⟨P.os,ps.map ints,cs.map (fun L=>L.map ints)⟩∧TOk P.os.length P.os ps cs:=by
 have e1:(P.ps.map Gm).map ints=P.ps:=by
  rw[List.map_map]
  conv=>rhs;rw[←List.map_id P.ps]
  refine WG fun v hv=>?_;obtain⟨i,hi⟩:=IP hv;exact(ZI (h.pv i v hi) h.pr).1
 have e2:(P.cs.map (fun L=>L.map Gm)).map (fun L=>L.map ints)=P.cs:=by
  rw[List.map_map]
  conv=>rhs;rw[←List.map_id P.cs]
  refine WG fun L hL=>?_;obtain⟨i,hi⟩:=IP hL;show(L.map Gm).map ints=L;rw[List.map_map]
  conv=>rhs;rw[←List.map_id L]
  exact WG fun v hv=>(ZI ((h.cv i L hi).2 v hv) h.pr).1
 refine⟨P.ps.map Gm,P.cs.map (fun L=>L.map Gm),by rw[e1,e2],?_⟩;refine⟨h.n6,rfl,fun o ho=>?_,by rw[Ce,h.pl],fun v hv=>?_,by rw[Ce,h.cl],fun i L hL=>?_⟩
 ·have:=h.pr o ho;simp[CZ]at this;omega
 ·obtain⟨x,hx,rfl⟩:=CX.1 hv;obtain⟨i,hi⟩:=IP hx;exact(ZI (h.pv i x hi) h.pr).2
 ·simp only[Em,Oy]at hL;obtain⟨c,hc,rfl⟩:=hL;obtain⟨h1,h2⟩:=h.cv i c hc;refine⟨by rw[Ce,h1];omega,fun v hv=>?_⟩;obtain⟨y,hy,rfl⟩:=CX.1 hv;exact(ZI (h2 y hy) h.pr).2
theorem AFq (P:Bq)(h:Valid P)(vO vP vC:Value)(w:World)(hV:Aw (fun _=>True) w vO vP vC P):
  Calls Tryz.prog 233 #[.agg #[vO,vP,vC]] w (IW 4000 w):=by
 obtain⟨ps,cs,e,hk⟩:=AHc h;rw[e]at hV;exact AGu _ _ ps cs hk vO vP vC w hV
end Go.Proofs.YtlmlamcoeegkbaaGreat.SH
namespace Go.Proofs.YtlmlamcoeegkbaaGreat.iU
open Go.RowKit Go.Proofs.YtlmlamcoeegkbaaGreat AJ DC CY DV DD Bv L6 Fv Sn Qm
def Ub (b:Nat)(w:World)(e:Ending)(w':World):Prop:=∃(N:Nat) (x1 x2 x3:Option Addr) (y1 y2 y3:Nat) (c:Int),N≤b∧e= .returned (.tuple #[.agg #[.slice x1 N y1,.slice x2 N y2,.slice x3 N y3],.int .i64 c])∧PT w.heap.size w' N (.slice x1 N y1) (.slice x2 N y2) (.slice x3 N y3)∧Below w.heap.size w w'
theorem AAi (B:Nat)(w:World):PT B w 0 (.slice none 0 0) (.slice none 0 0) (.slice none 0 0):=
 ⟨⟨[],rfl,Jc _ _ _ _⟩,⟨[],Jc _ _ _ _,fun i n h=>by simp at h⟩,⟨[],Jc _ _ _ _,fun i n h=>by simp at h⟩⟩
theorem AGv {B N g y1 y2 y3:Nat}{w wr:World}{x1 x2 x3:Option Addr}{b:Nat}(c:Int)(hN:N≤b)(hX:PX B N wr g (.slice x1 N y1) (.slice x2 N y2) (.slice x3 N y3))(hB:Below w.heap.size w wr)(hgB:w.heap.size<B)(hBw:B≤wr.heap.size):
  Ub b w (.returned (.tuple #[.agg #[.slice x1 N y1,.slice x2 N y2,.slice x3 N y3],.int .i64 c])) (((wr.setCell ⟨w.heap.size,0,none⟩ (.slice x1 N y1)).setCell ⟨w.heap.size,1,none⟩ (.slice x2 N y2)).setCell ⟨w.heap.size,2,none⟩ (.slice x3 N y3)):=by
 refine⟨N,x1,x2,x3,y1,y2,y3,c,hN,rfl,?_,?_⟩
 ·exact(hX.2.2.ty (Ty.keep (S:=fun k=>B≤k) ((((AA.refl _ wr).setCell (by simp;omega) _).setCell (by simp;omega) _).setCell (by simp;omega) _) fun _ h=>h)).mono (by omega)
 ·exact((hB.setCell (p:=⟨w.heap.size,0,none⟩) AQ _).setCell (p:=⟨w.heap.size,1,none⟩) AQ _).setCell (p:=⟨w.heap.size,2,none⟩) AQ _
theorem AGw (n:Nat)(hn:1≤n∧n≤40)(w:World):Calls Tryz.prog 187 #[.int .i64 (n:Int)] w (Ub 12 w):=by
 have J9:=hid (fun W=>ak n hn.1 hn.2 W);have Kb:=hid (fun W=>UZ (n:Int) 1 729 (by omega) (by omega) W);clear hn;go_enter Tryz.func187,Tryz.ntmps187;go_upto_region 1 with fail;obtain⟨w1,hw1⟩:∃w1,w1=w.alloc Bu:=⟨_,rfl⟩;rw[←hw1];have K1:=hid (show w1.heap[w.heap.size]?=some Bu by rw[hw1];exact Av _ _);have HB1:=hid (show Below w.heap.size w w1 by rw[hw1];exact AR.alloc AQ _);have BA:=hid (show w1.heap.size=w.heap.size+1 by rw[hw1];simp);clear hw1;go_wp2_with fail;refine(Kb.out _).mono ?_;rintro e w0 ⟨rfl,rfl⟩;go_wp2_with fail;refine(J9.out _).mono ?_;rintro e w2 ⟨N,T,aT,cT,bT,rfl,NJ,hT,Da,Sq,hb2⟩;have HT:=hid hT;have Ie:=hid NJ;have HW2:=hid (HB1.out.trans (hb2.mono (by have:=BA.out;omega)));have HS2:=hid (show w.heap.size<w2.heap.size from by have h1:=BA.out;have h2:=hb2.size;omega);have K2:=hid (D7 hb2 (by have:=BA.out;omega) K1.out);have hN6:¬(6:Int)<(N:Int):=by omega
 clear hT NJ Sq hb2 K1 HB1 BA J9 Kb;cases bT with
 |false=>
  obtain⟨⟨f0,f1,f2⟩,q0,q1,q2⟩:=AO K2.out;have DZ:=hid (show Ub 12 w (.returned (.tuple #[.agg #[.slice none 0 0,.slice none 0 0,.slice none 0 0],.int .i64 2])) (((w2.setCell ⟨w.heap.size,0,none⟩ (.slice none 0 0)).setCell ⟨w.heap.size,1,none⟩ (.slice none 0 0)).setCell ⟨w.heap.size,2,none⟩ (.slice none 0 0)) from
   ⟨0,none,none,none,0,0,0,2,by omega,rfl,AAi _ _,((HW2.out.setCell (p:=⟨w.heap.size,0,none⟩) AQ _).setCell (p:=⟨w.heap.size,1,none⟩) AQ _).setCell (p:=⟨w.heap.size,2,none⟩) AQ _⟩)
  go_wp2_with fail;obtain⟨⟨z0,z1,z2⟩,-⟩:=AO (BL (x:=.slice none 0 0) (y:=.slice none 0 0) (z:=.slice none 0 0) K2.out);exact Am (v:=.tuple #[.agg #[.slice none 0 0,.slice none 0 0,.slice none 0 0],.int .i64 2]) (by simp[results,Tryz.results187,go_sem,z0,z1,z2]) rfl DZ.out
 |true=>
  go_wp2_with fail;refine(Tn N (by omega) _ Ie.out _ _ HT.out).mono ?_;rintro e w6 ⟨x1,y1,x2,y2,x3,y3,rfl,Fx,hb6⟩;go_upto_region 9 with fail;obtain⟨gx,hg⟩:∃gx,w6.heap.size=gx:=⟨_,rfl⟩;obtain⟨wb,hwb⟩:∃wb,wb=w6.alloc (.cells #[.slice x1 N y1,.slice x2 N y2,.slice x3 N y3] 28):=⟨_,rfl⟩;have HX0:=hid (show PX w2.heap.size N wb gx (.slice x1 N y1) (.slice x2 N y2) (.slice x3 N y3) by rw[hwb,←hg];exact KJ Fx AQ hb6.size);have Ju:=hid (show Below w2.heap.size w2 wb by rw[hwb];exact hb6.alloc hb6.size _);rw[←hwb,hg];clear hwb hg Fx hb6;go_wp2_with fail;go_loopw [7] (fun iv wr=>∃i:Nat,i≤N∧iv= .int .i64 (i:Int)∧Hid (PX w2.heap.size N wr gx (.slice x1 N y1) (.slice x2 N y2) (.slice x3 N y3))∧Hid (Below w2.heap.size w2 wr)) (fun iv _=>N-(intOf iv).toNat);case atStart=>exact⟨0,AU _,rfl,HX0,Ju⟩
  case round=>
   clear HX0 Ju;obtain⟨i,hi,rfl,hX1,hB1⟩:=hrel;have hwi:IntKind.i64.wrap ((i:Int)+1)=(i:Int)+1:=AY _ (by omega);have hsz:=hB1.out.size;obtain⟨⟨p0,p1,p2⟩,-⟩:=AO hX1.out.1;have hgl:=hX1.out.lt;by_cases hlt:i+1<N
   ·have hki:(i:Int)+1<(N:Int):=by omega
    have EP:(0:Int)≤(i:Int):=by omega
    have hkN:(i:Int)<(N:Int):=by omega
    obtain⟨gp,rfl,hsl⟩:=hX1.out.Ow (i:=i) (by omega);have Ay:=hid hsl;have Ck:=QB hsl hX1.out;clear hsl;have EE:=hid (fun(W:World) (hk:AA Any wr W)=>show Calls Tryz.prog 94 #[.int .i64 (N:Int),.int .i64 ((i:Int)+1)] W (ShR N W) from lT N (i+1) (by omega) hlt W);go_upto_region 12 with fail;go_region_held3 (fun w'=>(∀b o,b<wr.heap.size→¬b=gp→w'.cell? ⟨b,o,none⟩=wr.cell? ⟨b,o,none⟩)∧AA (fun k=>k≠gp) wr w')
     (first|exact KO (by repeat(first|exact AB.drew|exact AA.refl _ _|refine AA.setCell ?_ (by simp) _|refine AA.trans ?_ (AA.of_below (by assumption)))))
     (first|(go_at_call 94;refine(EE.out _ (by repeat(first|exact AB.drew|exact AA.refl _ _|refine AA.drew ?_|refine AA.trans ?_ (AA.of_below (by assumption))))).mono ?_;rintro e w6 ⟨g6,c6,rfl,CJ,hb6⟩;have B6:Below wr.heap.size wr w6:=(by first|exact hb6|exact(AR.drew).trans hb6);have f6:=(Ay.out.below B6).1;obtain⟨u6,s6⟩:=(Ay.out.below B6).cell)|fail)
    rename_i hHd;clear hHd;have DI:=hid (show PX w2.heap.size N (w6.setCell ⟨gp,i,none⟩ (.slice (some ⟨g6,0,none⟩) N c6)) gx (.slice x1 N y1) (.slice (some ⟨gp,0,none⟩) N y2) (.slice x3 N y3) from
     (Ay.out.below B6).put (hX1.out.below B6) (CJ.mono (by first|exact hsz|simpa using hsz)))
    have BK:=hid (show Below w2.heap.size w2 (w6.setCell ⟨gp,i,none⟩ (.slice (some ⟨g6,0,none⟩) N c6)) from
     (hB1.out.trans (B6.mono hsz)).setCell (p:=⟨gp,i,none⟩) Ay.out.2.1 _)
    clear CJ hb6 B6 f6 s6 EE Ck Ay hgl p0 p1 p2 hX1 hB1;go_wp2_with fail;go_roundw;case rel=>exact⟨i+1,by omega,by go_num,DI,BK⟩
    case measure=>simp[intOf];omega
   ·have hki:¬(i:Int)+1<(N:Int):=by omega
    have LG:=hid (D7 hB1.out HS2.out K2.out);obtain⟨⟨f0,f1,f2⟩,q0,q1,q2⟩:=AO LG.out;have DZ:=hid (AGv (b:=12) 0 (by omega) hX1.out (HW2.out.trans (hB1.out.mono (EG HS2.out))) HS2.out hsz);clear hX1 hB1;go_wp2_with fail;obtain⟨⟨z0,z1,z2⟩,-⟩:=AO (BL (x:=.slice x1 N y1) (y:=.slice x2 N y2) (z:=.slice x3 N y3) LG.out);exact Am (v:=.tuple #[.agg #[.slice x1 N y1,.slice x2 N y2,.slice x3 N y3],.int .i64 0]) (by simp[results,Tryz.results187,go_sem,z0,z1,z2]) rfl DZ.out
end Go.Proofs.YtlmlamcoeegkbaaGreat.iU
namespace Go.Proofs.YtlmlamcoeegkbaaGreat.OI
open Go.RowKit Go.Lib Go.Proofs.YtlmlamcoeegkbaaGreat AJ Val DC CY DV DD Bv Fv Sl U9 uN iU VC
theorem PX.BL {B n g:Nat}{w:World}{a b c x y z:Value}(h:w.heap[g]?=some (.cells #[a,b,c] 28 (0,0)))(hg:B≤g)(hP:PT B w n x y z):PX B n (((w.setCell ⟨g,0,none⟩ x).setCell ⟨g,1,none⟩ y).setCell ⟨g,2,none⟩ z) g x y z:=
 ⟨Bv.BL h,hg,hP.ty (Ty.GX h)⟩
theorem V9 {B g:Nat}{w W:World}(h:Below B w W)(hg:B≤g)(x y z:Value):Below B w (((W.setCell ⟨g,0,none⟩ x).setCell ⟨g,1,none⟩ y).setCell ⟨g,2,none⟩ z):=
 ((h.setCell (p:=⟨g,0,none⟩) hg _).setCell (p:=⟨g,1,none⟩) hg _).setCell (p:=⟨g,2,none⟩) hg _
theorem AIE (s:ByteArray)(hs:s.size≤1000)(w:World):Calls Tryz.prog 222 #[.string s] w (Ub 12 w):=by
 obtain⟨g0,hg0⟩:∃g0,w.heap.size=g0:=⟨_,rfl⟩;obtain⟨w1,hw1⟩:∃w1,w1=w.alloc Bu:=⟨_,rfl⟩;have Jn:=hid hg0;have HB1:=hid (show Below w.heap.size w w1 by rw[hw1];exact AR.alloc AQ _);have BA:=hid (show w1.heap.size=g0+1 by rw[hw1,←hg0];simp);have HR:=hid (fun(W:World) (hb:Below w1.heap.size w1 W)=>show W.heap[g0]?=some Bu∧g0<W.heap.size from
  ⟨(hb.block g0 (by rw[BA.out];omega)).trans (by rw[hw1,←hg0];exact Av _ _),by have:=hb.size;rw[BA.out]at this;omega⟩)
 have HN:=hid (fun(W:World) (hb:Below w1.heap.size w1 W)=>show Ub 12 w (.returned (.tuple #[.agg #[.slice none 0 0,.slice none 0 0,.slice none 0 0],.int .i64 6])) (((W.setCell ⟨g0,0,none⟩ (.slice none 0 0)).setCell ⟨g0,1,none⟩ (.slice none 0 0)).setCell ⟨g0,2,none⟩ (.slice none 0 0)) from
  ⟨0,none,none,none,0,0,0,6,AU _,rfl,AAi _ _,V9 (HB1.out.trans (hb.mono HB1.out.size)) (Nat.le_of_eq Jn.out) _ _ _⟩)
 have Gt:=hid (fun W=>kY s 59 59 rfl hs W);go_enter Tryz.func222,Tryz.ntmps222;go_upto_region 1 with fail;rw[←hw1];clear hw1 hg0;go_upto_region 2 with(first|(go_at_call 230;refine(Gt.out _).mono ?_;rintro e w2 ⟨v,L,m,rfl,Yc,hm1,hm2,Ql,hO,hb2⟩)|fail);obtain⟨av,cv,rfl⟩:=FI hO;have HB2:=hid (show Below w1.heap.size w1 w2 from hb2);have uT:=hid Ql;have iJ:=hid Yc;have hx0:∃x0,L[0]?=some x0:=⟨_,AP (by omega)⟩;obtain⟨x0,hx0⟩:=hx0;obtain⟨g,c',he,_⟩:=Zo hO hx0;obtain⟨rfl,rfl⟩:av=some ⟨g,0,none⟩∧cv=c':=by simpa using he
 have HL:=hid (fun(W:World) (hb:Below w2.heap.size w2 W) (k:Nat) (x:ByteArray) (hk:L[k]?=some x)=>show W.cell? ⟨g,k,none⟩=some (.string x)∧g<W.heap.size from by
  obtain⟨g',c',he,hc1,hgl⟩:=Zo hO hk;obtain⟨rfl,rfl⟩:g=g'∧cv=c':=by simpa using he
  exact⟨(hb.cell (p:=⟨g,k,none⟩) hgl).trans hc1,Ad hgl hb.size⟩)
 obtain⟨q0,hgl⟩:=HL.out w2 AR 0 x0 hx0;have OP:=hid (fun W=>jW x0 (Ab (Ql x0 (Ar hx0)) hs) W);have Yd:(m:Int)≤1001:=by omega
 have hm0:(0:Int)<(m:Int):=by omega
 clear hO hb2 Gt Ql Yc hm2 he hx0;go_upto_region 3 with(first|(go_at_call 231;refine(OP.out _).mono ?_;rintro e w3 ⟨n,l,ao,co,b3,rfl,hll,hsl,M5,hpr,hb3⟩)|fail);have Rf:=hid (show Below w2.heap.size w2 w3 from hb3);have HB3:=hid (show Below w1.heap.size w1 w3 from HB2.out.trans (hb3.mono HB2.out.size));clear q0 hgl hpr hb3;cases b3 with
 |false=>
  obtain⟨⟨e0,e1,e2⟩,f0,f1,f2⟩:=AO (HR.out w3 HB3.out).1;have hgr:=(HR.out w3 HB3.out).2;go_wp2_with fail;obtain⟨⟨z0,z1,z2⟩,-⟩:=AO (BL (x:=.slice none 0 0) (y:=.slice none 0 0) (z:=.slice none 0 0) (HR.out w3 HB3.out).1);exact Am (v:=.tuple #[.agg #[.slice none 0 0,.slice none 0 0,.slice none 0 0],.int .i64 6]) (by simp[results,Tryz.results222,go_sem,z0,z1,z2]) rfl (HN.out w3 HB3.out)
 |true=>
  have IE:=hid (Tn n (by omega) l hll (.slice ao n co) w3 hsl);clear hll hsl;go_upto_region 6 with(first|(go_at_call 96;refine IE.out.mono ?_;rintro e w4 ⟨x1,y1,x2,y2,x3,y3,rfl,Iz,hb4⟩)|fail);obtain⟨g7,hg⟩:∃g7,w4.heap.size=g7:=⟨_,rfl⟩;obtain⟨w5,Ci⟩:∃w5,w5=w4.alloc (.cells #[.slice x1 n y1,.slice x2 n y2,.slice x3 n y3] 28):=⟨_,rfl⟩;rw[←Ci,hg];have ACl:=hid (show Below w3.heap.size w3 w5 by rw[Ci];exact hb4.alloc hb4.size _);have HI:=hid (show PX w3.heap.size n w5 g7 (.slice x1 n y1) (.slice x2 n y2) (.slice x3 n y3) from by rw[Ci,←hg];exact KJ Iz AQ hb4.size);have Sv:=hid (show w3.heap.size≤g7 from HI.out.2.1);clear Ci hg Iz hb4 IE OP;go_wp2_with fail;go_loopw [8] (fun iv wr=>∃(k:Nat),k+1≤m∧iv= .int .i64 ((k:Int)+1)∧Hid (∃x1 y1 x2 y2 x3 y3,PX w3.heap.size n wr g7 (.slice x1 n y1) (.slice x2 n y2) (.slice x3 n y3))∧Hid (Below w3.heap.size w3 wr)) (fun iv _=>m+1-(intOf iv).toNat);case atStart=>exact⟨0,hm1,rfl,hid ⟨_,_,_,_,_,_,HI.out⟩,ACl⟩
  case round=>
   clear HI ACl;obtain⟨k,hk,rfl,hQ,hB⟩:=hrel;obtain⟨X1,Y1,X2,Y2,X3,Y3,hX⟩:=hQ.out;have HX:=hid hX;have ACm:=hid (show Below w1.heap.size w1 wr from HB3.out.trans (hB.out.mono HB3.out.size));obtain⟨⟨d0,d1,d2⟩,-⟩:=AO hX.1;have dU:g7<wr.heap.size:=hX.lt;clear hX hQ;by_cases hlt:k+1<m
   ·have hki:(k:Int)+1<(m:Int):=by omega
    obtain⟨x,hx⟩:∃x,L[k+1]?=some x:=⟨_,AP (by rw[iJ.out];exact hlt)⟩;obtain⟨hc,hcl⟩:=HL.out wr (Rf.out.trans (hB.out.mono Rf.out.size)) (k+1) x hx;have Mv:=hid (fun(W:World) (hb:Below wr.heap.size wr W)=>AID w3.heap.size n (by omega) x (Ab (uT.out x (Ar hx)) hs) X1 X2 X3 Y1 Y2 Y3 W (Ab hB.out.size hb.size) (HX.out.below hb).2.2);clear hx;go_upto_region 9 with fail;go_cut [6] (fun v W=>∃b,v= .bool b∧Hid (∃x1 y1 x2 y2 x3 y3,PX w3.heap.size n W g7 (.slice x1 n y1) (.slice x2 n y2) (.slice x3 n y3))∧Hid (Below w3.heap.size w3 W));case first=>
     have hk0:((0:Int)≤(k:Int)+1)=True:=eq_true (by omega);go_region_law
      (first|(go_simp;go_at_call 232;refine(Mv.out _ (by first|exact Ag _ _|exact AR.drew)).mono ?_;rintro e w6 ⟨a1,c1,a2,c2,a3,c3,b,rfl,hP6,hb6⟩;have Ao:=hid (show Below wr.heap.size wr w6 from(by first|exact hb6|exact(AR.drew).trans hb6));have Bt:=hid hP6;have Cz:=hid (HX.out.below Ao.out);obtain⟨⟨u0,u1,u2⟩,r0,r1,r2⟩:=AO Cz.out.1;have Br:=Cz.out.lt;clear hP6 hb6)|(fail))
     all_goals
      go_wp2_with fail;go_meet;exact⟨_,rfl,hid ⟨_,_,_,_,_,_,PX.BL Cz.out.1 Sv.out Bt.out⟩,hid (V9 (hB.out.trans (Ao.out.mono hB.out.size)) Sv.out _ _ _)⟩
    case rest=>
     obtain⟨b,rfl,IA,BK⟩:=hcut;rename World=>w7;have Ny:=hid (show Below w1.heap.size w1 w7 from HB3.out.trans (BK.out.mono HB3.out.size));clear Mv dU hc hcl d0 d1 d2 hB HX;cases b with
     |true=>
      go_wp2_with fail;go_roundw;case rel=>exact⟨k+1,by omega,by go_num,IA,BK⟩
      case measure=>simp[intOf];omega
     |false=>
      obtain⟨⟨e0,e1,e2⟩,f0,f1,f2⟩:=AO (HR.out w7 Ny.out).1;have hgr:=(HR.out w7 Ny.out).2;go_wp2_with fail;obtain⟨⟨z0,z1,z2⟩,-⟩:=AO (BL (x:=.slice none 0 0) (y:=.slice none 0 0) (z:=.slice none 0 0) (HR.out w7 Ny.out).1);exact Am (v:=.tuple #[.agg #[.slice none 0 0,.slice none 0 0,.slice none 0 0],.int .i64 6]) (by simp[results,Tryz.results222,go_sem,z0,z1,z2]) rfl (HN.out w7 Ny.out)
   ·have hki:¬(k:Int)+1<(m:Int):=by omega
    obtain⟨P,hP,-⟩:=NI.AAf HX.out.2.2;have HV:=hid (hP.mono (S':=Any) fun _ _=>trivial);have Yf:=hid (aH.Ve wr _ _ _ P HV.out);have HTX:=hid (fun(hv:Valid P) (W:World) (hb:Below wr.heap.size wr W)=>SH.AFq P hv _ _ _ W (HV.out.keep (AA.of_below hb)));clear hP hk hlt;go_upto_region 12 with fail;go_cut [49] (fun v W=>(∃b,v= .bool b)∧Hid (Below wr.heap.size wr W));case first=>
     by_cases hv:Valid P
     ·have Eu:=hid hv;clear hv;go_wp2_with (first|(go_at_call 101;refine Yf.out.mono ?_;rintro e w6 ⟨r,rfl,hr,hb6⟩;obtain rfl:r=true:=hr.2 Eu.out;have Ao:=hid hb6;clear hr hb6;have Sw:=HX.out.below Ao.out;have Br:=Sw.lt;obtain⟨⟨d0,d1,d2⟩,-⟩:=AO Sw.1;clear Sw)|(go_at_call 233;refine(HTX.out Eu.out _ Ao.out).mono ?_;rintro e w7 ⟨st,rfl,hst,Bd⟩;have BK:=hid (Ao.out.trans (Bd.mono Ao.out.size));clear hst Bd));go_meet;exact⟨⟨_,rfl⟩,BK⟩
     ·have Eu:=hid hv;clear hv;go_wp2_with (go_at_call 101;refine Yf.out.mono ?_;rintro e w6 ⟨r,rfl,hr,hb6⟩;obtain rfl:r=false:=(by cases r with|false=>rfl|true=>exact absurd (hr.1 rfl) Eu.out);have Ao:=hid hb6;clear hr hb6);go_meet;exact⟨⟨_,rfl⟩,Ao⟩
    case rest=>
     obtain⟨⟨b,rfl⟩,Cr⟩:=hcut;rename World=>w8;have IX:=hid (show Below w1.heap.size w1 w8 from ACm.out.trans (Cr.out.mono ACm.out.size));obtain⟨⟨e0,e1,e2⟩,f0,f1,f2⟩:=AO (HR.out w8 IX.out).1;have hgr:=(HR.out w8 IX.out).2;clear d0 d1 d2 dU;cases b with
     |true=>
      go_wp2_with fail;obtain⟨⟨z0,z1,z2⟩,-⟩:=AO (BL (x:=.slice none 0 0) (y:=.slice none 0 0) (z:=.slice none 0 0) (HR.out w8 IX.out).1);exact Am (v:=.tuple #[.agg #[.slice none 0 0,.slice none 0 0,.slice none 0 0],.int .i64 6]) (by simp[results,Tryz.results222,go_sem,z0,z1,z2]) rfl (HN.out w8 IX.out)
     |false=>
      have Dv:=hid (HX.out.below Cr.out);obtain⟨⟨d0,d1,d2⟩,-⟩:=AO Dv.out.1;have dU:=Dv.out.lt;have hne:¬g7=g0:=by have h1:=BA.out;have h2:=HB3.out.size;have h3:=Sv.out;omega
      go_wp2_with fail;obtain⟨⟨z0,z1,z2⟩,-⟩:=AO (BL (x:=.slice X1 n Y1) (y:=.slice X2 n Y2) (z:=.slice X3 n Y3) (HR.out w8 IX.out).1);exact Am (v:=.tuple #[.agg #[.slice X1 n Y1,.slice X2 n Y2,.slice X3 n Y3],.int .i64 0]) (by simp[results,Tryz.results222,go_sem,z0,z1,z2]) rfl
       ⟨n,_,_,_,_,_,_,0,by omega,rfl,(Dv.out.2.2.ty (Ty.GX (HR.out w8 IX.out).1)).mono (Ab HB1.out.size HB3.out.size),V9 (HB1.out.trans (IX.out.mono HB1.out.size)) (Nat.le_of_eq Jn.out) _ _ _⟩
end Go.Proofs.YtlmlamcoeegkbaaGreat.OI
