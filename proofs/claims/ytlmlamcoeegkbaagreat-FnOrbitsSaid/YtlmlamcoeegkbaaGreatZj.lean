import Derived.Test.YtlmlamcoeegkbaaGreatZ0
import Derived.Test.YtlmlamcoeegkbaaGreatZg
import Derived.Test.YtlmlamcoeegkbaaGreatZi
import Derived.Deep.CutBlock
import Derived.Test.YtlmlamcoeegkbaaGreatZh
/-
  Lemmas for the law FnOrbits, in short spelling.
-/
open Go.Lib (hid)
set_option linter.unusedVariables false
set_option linter.unusedSimpArgs false
set_option maxRecDepth 100000
set_option maxHeartbeats 40000000
namespace Go.Proofs.YtlmlamcoeegkbaaGreat.DwR
open Go.Proofs.YtlmlamcoeegkbaaGreat.DwV (dec_t)
open Go.RowKit Go.Lib Go.Proofs.YtlmlamcoeegkbaaGreat Tow Val CyA CyB CyC DwT DwB DwD DwL DwM DwN DwO
def RlR (B n:Nat)(w:World)(e:Ending)(w':World):Prop:=∃a1 c1 a2 c2 a3 c3 b,e= .returned (.tuple #[.agg #[.slice a1 n c1,.slice a2 n c2,.slice a3 n c3],.bool b])∧PT B w' n (.slice a1 n c1) (.slice a2 n c2) (.slice a3 n c3)∧Below w.heap.size w w'
theorem two_of {L:List ByteArray}(h:L.length=2):∃x0 x1,L=[x0,x1]:=by
 match L,h with
 |[a,b],_=>exact⟨a,b,rfl⟩
theorem Ty.box {B b i:Nat}{w:World}{c:Value}{cur:Array Value}(hb:w.heap[b]?=some (.cells cur 28 (0,0))):Ty B w (w.setCell ⟨b,i,none⟩ c):=
 Ty.mk1 (fun n v h=>h.other hb (by decide)) (fun L v us h g=>⟨us,owns_other h hb (by decide),fun i n hi=>by obtain⟨u,h1,h2⟩:=g i n hi;exact⟨u,h1,h2.other hb (by decide)⟩⟩)
  (fun M v us h g h2=>⟨us,owns_other h hb (by decide),fun i L hi=>by obtain⟨u,h1,h3⟩:=g i L hi;exact⟨u,h1,h2 _ _ h3⟩⟩)
theorem Ty.box3 {B g:Nat}{w:World}{a b c x y z:Value}(h:w.heap[g]?=some (.cells #[a,b,c] 28 (0,0))):Ty B w (((w.setCell ⟨g,0,none⟩ x).setCell ⟨g,1,none⟩ y).setCell ⟨g,2,none⟩ z):=by
 have e1:(w.setCell ⟨g,0,none⟩ x).heap[g]?=some (.cells #[x,b,c] 28 (0,0)):=zq60 w g 0 _ _ _ h;have e2:((w.setCell ⟨g,0,none⟩ x).setCell ⟨g,1,none⟩ y).heap[g]?=some (.cells #[x,y,c] 28 (0,0)):=zq60 _ g 1 _ _ _ e1;exact((Ty.box h).trans (Ty.box e1)).trans (Ty.box e2)
def VcR (n:Nat)(w:World)(e:Ending)(w':World):Prop:=∃a k c b,e= .returned (.tuple #[.slice a k c,.bool b])∧(b=true→k=n∧R1 w.heap.size w' n (.slice a n c))∧Below w.heap.size w w'
theorem vec_u {n:Nat}{w w':World}{e:Ending}(h:VecR n w e w'):VcR n w e w':=by
 rcases h with⟨g,c,rfl,h1,h2⟩|⟨rfl,h2⟩
 ·exact⟨_,_,_,_,rfl,fun _=>⟨rfl,h1⟩,h2⟩
 ·exact⟨_,_,_,_,rfl,fun h=>Bool.noConfusion h,h2⟩
theorem slot_ne {B N n gp i g:Nat}{w:World}{vO vP vC:Value}(h:Slot B N w gp i)(hx:PX B n w g vO vP vC):¬g=gp:=fun e=>by
 obtain⟨_,_,_,cur,u0,h4,_⟩:=h;rw[←e,hx.1]at h4;simp at h4
theorem rel_t (B n:Nat)(hn:n≤20)(s:ByteArray)(hs:s.size≤1000)(a1 a2 a3:Option Addr)(c1 c2 c3:Nat)(w:World)(hBw:B≤w.heap.size)(hA:PT B w n (.slice a1 n c1) (.slice a2 n c2) (.slice a3 n c3)):
  Calls Tryz.prog 232 #[.agg #[.slice a1 n c1,.slice a2 n c2,.slice a3 n c3],.string s] w (RlR B n w):=by
 obtain⟨g0,hg0⟩:∃g0,w.heap.size=g0:=⟨_,rfl⟩;obtain⟨w1,hw1⟩:∃w1,w1=(w.alloc (.cells #[.slice a1 n c1,.slice a2 n c2,.slice a3 n c3] 28)).alloc zbox:=⟨_,rfl⟩;have HG0:=hid hg0;have HB1:=hid (show Below w.heap.size w w1 by rw[hw1];exact(zqB.alloc zqN _).alloc (by simp) _);have HS1:=hid (show w1.heap.size=g0+2 by rw[hw1,←hg0];simp);have HP:=hid (fun(W:World) (hb:Below w1.heap.size w1 W)=>show W.heap[g0]?=some (.cells #[.slice a1 n c1,.slice a2 n c2,.slice a3 n c3] 28 (0,0)) from
  (hb.block g0 (by rw[HS1.out];omega)).trans (by rw[hw1,←hg0];exact(zq48 _ _ _ (by simp)).trans (zq17 w _)))
 have HR:=hid (fun(W:World) (hb:Below w1.heap.size w1 W)=>show W.heap[g0+1]?=some zbox∧g0+1<W.heap.size from
  ⟨(hb.block (g0+1) (by rw[HS1.out];omega)).trans (by rw[hw1,←hg0];exact new2 w _ _),by have:=hb.size;rw[HS1.out]at this;omega⟩)
 have HVA:=hid (fun(W:World) (hb:Below w1.heap.size w1 W)=>hA.ty (Ty.below (HB1.out.trans (hb.mono HB1.out.size))));have HF:=hid (fun(W:World) (hb:Below w.heap.size w W) (x1 x2 x3:Option Addr) (y1 y2 y3:Nat) (b:Bool) (hz:W.heap[g0+1]?=some zbox) (hP:PT B W n (.slice x1 n y1) (.slice x2 n y2) (.slice x3 n y3))=>show RlR B n w (.returned (.tuple #[.agg #[.slice x1 n y1,.slice x2 n y2,.slice x3 n y3],.bool b])) (((W.setCell ⟨g0+1,0,none⟩ (.slice x1 n y1)).setCell ⟨g0+1,1,none⟩ (.slice x2 n y2)).setCell ⟨g0+1,2,none⟩ (.slice x3 n y3)) from by
  exact⟨_,_,_,_,_,_,b,rfl,hP.ty (Ty.box3 hz),((hb.setCell (p:=⟨g0+1,0,none⟩) (by show w.heap.size≤g0+1;omega) _).setCell (p:=⟨g0+1,1,none⟩) (by show w.heap.size≤g0+1;omega) _).setCell (p:=⟨g0+1,2,none⟩) (by show w.heap.size≤g0+1;omega) _⟩)
 have HBW:=hid (fun k (h:w1.heap.size≤k)=>zq11 hBw (zq11 HB1.out.size h));have HN:=hid (fun(W:World) (hb:Below w1.heap.size w1 W)=>HF.out W (HB1.out.trans (hb.mono HB1.out.size)) _ _ _ _ _ _ false (HR.out W hb).1 (HVA.out W hb));have HSP:=hid (fun W=>split_r s 61 61 rfl hs W);go_enter Tryz.func232,Tryz.ntmps232;go_upto_region 1 with fail;rw[←hw1];clear hw1 hg0 hA hBw;obtain⟨⟨p0,p1,p2⟩,-⟩:=row3f (HP.out w1 zqB);go_upto_region 3 with(first|(go_at_call 230;refine(HSP.out _).mono ?_;rintro e w2 ⟨v,L,m,rfl,hLm,hm1,hm2,hLs,hO,hb2⟩)|fail);obtain⟨av,cv,rfl⟩:=owns_form hO;have HB2:=hid (show Below w1.heap.size w1 w2 from hb2);have HLS:=hid hLs;have HLM:=hid hLm;have HL:=hid (fun(W:World) (hb:Below w2.heap.size w2 W) (k:Nat) (x:ByteArray) (hk:L[k]?=some x)=>show∃g,av=some ⟨g,0,none⟩∧W.cell? ⟨g,k,none⟩=some (.string x)∧g<W.heap.size from by
  obtain⟨g,c',he,hc1,hgl⟩:=str_at hO hk;obtain⟨rfl,rfl⟩:av=some ⟨g,0,none⟩∧cv=c':=by simpa using he
  exact⟨g,rfl,(hb.cell (p:=⟨g,k,none⟩) hgl).trans hc1,zq7 hgl hb.size⟩)
 have hm9:(m:Int)≤1001:=by omega
 clear hO hb2 HSP p0 p1 p2 hLs hLm hm1 hm2;go_cut [43] (fun v W=>(∃b,v= .bool b∧(b=false→∃x0 x1,L=[x0,x1]∧x0.size=4))∧W=w2);case first=>
  by_cases hm2:m=2
  ·obtain⟨x0,x1,rfl⟩:=two_of (HLM.out.trans hm2);obtain⟨g,rfl,hc,hgl⟩:=HL.out w2 zqB 0 x0 rfl;subst hm2;by_cases h4:x0.size=4
   ·have H4:=hid h4;have h40:0<x0.size:=by omega
    have h42:2<x0.size:=by omega
    have h4i:((x0.size:Int) !=4)=false:=by rw[h4];rfl
    cases hz2:((x0[0].toNat:Int) !=32)with
    |true=>
     go_wp2_with fail;go_meet;exact⟨⟨_,rfl,fun _=>⟨_,_,rfl,H4.out⟩⟩,rfl⟩
    |false=>
     cases hy2:((x0[2].toNat:Int) !=94)<;>
      (go_wp2_with fail
       go_meet;exact⟨⟨_,rfl,fun _=>⟨_,_,rfl,H4.out⟩⟩,rfl⟩)
   ·have h4i:((x0.size:Int) !=4)=true:=bne_iff_ne.2 (by omega);clear h4;go_wp2_with fail;go_meet;exact⟨⟨_,rfl,fun h=>Bool.noConfusion h⟩,rfl⟩
  ·have hmi:((m:Int) !=2)=true:=bne_iff_ne.2 (by omega);clear hm2;go_wp2_with fail;go_meet;exact⟨⟨_,rfl,fun h=>Bool.noConfusion h⟩,rfl⟩
 case rest=>
  obtain⟨⟨b,rfl,hb⟩,rfl⟩:=hcut;rename World=>w2;cases b with
  |true=>
   obtain⟨⟨p0,p1,p2⟩,-⟩:=row3f (HP.out w2 HB2.out);obtain⟨⟨e0,e1,e2⟩,f0,f1,f2⟩:=row3f (HR.out w2 HB2.out).1;have hgl:=(HR.out w2 HB2.out).2;clear hb;go_wp2_with fail;obtain⟨⟨z0,z1,z2⟩,-⟩:=row3f (put3 (x:=.slice a1 n c1) (y:=.slice a2 n c2) (z:=.slice a3 n c3) (HR.out w2 HB2.out).1);exact zq12 (v:=.tuple #[.agg #[.slice a1 n c1,.slice a2 n c2,.slice a3 n c3],.bool false]) (by simp[results,Tryz.results232,go_sem,z0,z1,z2]) rfl (HN.out w2 HB2.out)
  |false=>
   obtain⟨x0,x1,rfl,h4⟩:=hb rfl;obtain rfl:m=2:=HLM.out.symm;have hs1:x1.size≤1000:=zq11 (HLS.out x1 (by simp)) hs;obtain⟨g,rfl,q0,hgl⟩:=HL.out w2 zqB 0 x0 rfl;have q1:w2.cell? ⟨g,1,none⟩=some (.string x1):=by
    obtain⟨g',e,h,_⟩:=HL.out w2 zqB 1 x1 rfl;obtain rfl:g=g':=by simpa using e
    exact h
   have HSX:=hid (fun W=>parse_any n (by omega) x1 hs1 W);clear hb;go_upto_region 6 with(first|(go_at_call 237;refine(HSX.out _).mono ?_;rintro e w3 ⟨l,a4,c4,b3,rfl,ho3,hp3,hl3,hb3⟩)|fail);have HB3:=hid (show Below w1.heap.size w1 w3 from HB2.out.trans (hb3.mono HB2.out.size));have HB23:=hid (show Below w2.heap.size w2 w3 from hb3);clear q0 q1 hgl;obtain⟨ml,hml⟩:∃ml,l.length=ml:=⟨_,rfl⟩;have HVC:=hid ((vector_any n (by omega) a4 ml c4 l hml w3 (by rw[←hml];exact DwP.sl_own ho3 rfl) (by omega) hp3).mono fun e w' h=>vec_u h);rw[hml];clear ho3 hp3 hl3 hml hb3;cases b3 with
   |false=>
    obtain⟨⟨p0,p1,p2⟩,-⟩:=row3f (HP.out w3 HB3.out);obtain⟨⟨e0,e1,e2⟩,f0,f1,f2⟩:=row3f (HR.out w3 HB3.out).1;have hgl:=(HR.out w3 HB3.out).2;go_wp2_with fail;obtain⟨⟨z0,z1,z2⟩,-⟩:=row3f (put3 (x:=.slice a1 n c1) (y:=.slice a2 n c2) (z:=.slice a3 n c3) (HR.out w3 HB3.out).1);exact zq12 (v:=.tuple #[.agg #[.slice a1 n c1,.slice a2 n c2,.slice a3 n c3],.bool false]) (by simp[results,Tryz.results232,go_sem,z0,z1,z2]) rfl (HN.out w3 HB3.out)
   |true=>
    go_upto_region 9 with(first|(go_at_call 238;refine HVC.out.mono ?_;rintro e w4 ⟨a5,k5,c5,b4,rfl,hr4,hb4⟩)|fail);have HB4:=hid (show Below w1.heap.size w1 w4 from HB3.out.trans (hb4.mono HB3.out.size));have HB34:=hid (show Below w3.heap.size w3 w4 from hb4);have HR4:=hid hr4;obtain⟨g',eg,q0,hgl⟩:=HL.out w4 (HB23.out.trans (hb4.mono HB23.out.size)) 0 x0 rfl;obtain rfl:g=g':=by simpa using eg
    have hl1:1<x0.size:=by omega
    have hl3:3<x0.size:=by omega
    obtain⟨x,hx⟩:∃x:Int,(x0[1].toNat:Int)-97=x:=⟨_,rfl⟩;obtain⟨y,hy⟩:∃x:Int,(x0[3].toNat:Int)-97=x:=⟨_,rfl⟩;have hx1:=x0[1].toNat_lt;have hy1:=x0[3].toNat_lt;have hwx:IntKind.i64.wrap ((x0[1].toNat:Int)-97)=x:=by rw[zq6 _ (by omega)];exact hx
    have hwy:IntKind.i64.wrap ((x0[3].toNat:Int)-97)=y:=by rw[zq6 _ (by omega)];exact hy
    have hvx:IntKind.i64.wrap (x0[1].toNat:Int)=(x0[1].toNat:Int):=zq6 _ (by omega);have hvy:IntKind.i64.wrap (x0[3].toNat:Int)=(x0[3].toNat:Int):=zq6 _ (by omega);have HXY:=hid (show(-97≤x∧x≤300)∧(-97≤y∧y≤300) by omega);clear hb4 hr4 HVC eg hx hy hx1 hy1;go_cut [12,13] (fun u v W=>u= .int .i64 x∧v= .int .i64 y∧Hid (Below w4.heap.size w4 W));case first=>
     go_region_law (fail);all_goals
      go_wp2_with fail;go_meet;exact⟨rfl,rfl,hid zqB.drew⟩
    case rest=>
     obtain⟨rfl,rfl,HB5⟩:=hcut;rename World=>w5;have HB15:=hid (show Below w1.heap.size w1 w5 from HB4.out.trans (HB5.out.mono HB4.out.size));clear hwx hwy hvx hvy q0;go_upto_region 10 with fail;go_cut [84] (fun v W=>(∃b,v= .bool b∧(b=false→b4=true∧0≤x∧x<(n:Int)))∧W=w5);case first=>
      cases b4 with
      |false=>
       go_wp2_with fail;go_meet;exact⟨⟨_,rfl,fun h=>Bool.noConfusion h⟩,rfl⟩
      |true=>
       by_cases h1:x<0
       ·go_wp2_with fail;go_meet;exact⟨⟨_,rfl,fun h=>Bool.noConfusion h⟩,rfl⟩
       ·by_cases h2:(n:Int)≤x
        ·go_wp2_with fail;go_meet;exact⟨⟨_,rfl,fun h=>Bool.noConfusion h⟩,rfl⟩
        ·have HH:=hid (show 0≤x∧x<(n:Int) by omega);go_wp2_with fail;go_meet;exact⟨⟨_,rfl,fun _=>⟨by first|rfl|trivial,HH.out⟩⟩,rfl⟩
     case rest=>
      obtain⟨⟨b,rfl,hb⟩,rfl⟩:=hcut;rename World=>w5;cases b with
      |true=>
       clear hb;obtain⟨⟨p0,p1,p2⟩,-⟩:=row3f (HP.out w5 HB15.out);obtain⟨⟨e0,e1,e2⟩,f0,f1,f2⟩:=row3f (HR.out w5 HB15.out).1;have hgl:=(HR.out w5 HB15.out).2;go_wp2_with fail;obtain⟨⟨z0,z1,z2⟩,-⟩:=row3f (put3 (x:=.slice a1 n c1) (y:=.slice a2 n c2) (z:=.slice a3 n c3) (HR.out w5 HB15.out).1);exact zq12 (v:=.tuple #[.agg #[.slice a1 n c1,.slice a2 n c2,.slice a3 n c3],.bool false]) (by simp[results,Tryz.results232,go_sem,z0,z1,z2]) rfl (HN.out w5 HB15.out)
      |false=>
       obtain⟨rfl,hx0,hxn⟩:=hb rfl;obtain⟨rfl,hr4⟩:=HR4.out rfl;obtain⟨j,rfl⟩:∃j:Nat,x=(j:Int):=⟨x.toNat,by omega⟩;have hj:j<k5:=by omega
       have HOP:=hid (ownp_any k5 (by omega) a1 a2 a3 c1 c2 c3 w5 ((HVA.out w5 HB15.out).mono (zq4 _)));clear hb HR4 hx0;obtain⟨⟨p0,p1,p2⟩,-⟩:=row3f (HP.out w5 HB15.out);go_upto_region 13 with(first|(go_at_call 164;refine HOP.out.mono ?_;rintro e w6 ⟨vO,vP,vC,rfl,hpp,hb6⟩;obtain⟨x1',y1',x2',y2',x3',y3',rfl,rfl,rfl⟩:=hpp.form)|fail);obtain⟨w7,hw7⟩:∃w7,w7=w6.alloc (.cells #[.slice x1' k5 y1',.slice x2' k5 y2',.slice x3' k5 y3'] 28):=⟨_,rfl⟩;rw[←hw7];obtain⟨g7,hg7⟩:∃g7,w6.heap.size=g7:=⟨_,rfl⟩;rw[hg7];have HB57:=hid (show Below w5.heap.size w5 w7 from by rw[hw7];exact hb6.alloc hb6.size _);have HB17:=hid (show Below w1.heap.size w1 w7 from HB15.out.trans (HB57.out.mono HB15.out.size));have HB37:=hid (show Below w3.heap.size w3 w7 from(HB34.out.trans (HB5.out.mono HB34.out.size)).trans (HB57.out.mono (zq11 HB34.out.size HB5.out.size)));have HX:=hid (show PX w3.heap.size k5 w7 g7 (.slice x1' k5 y1') (.slice x2' k5 y2') (.slice x3' k5 y3') from by rw[hw7,←hg7];exact box_new hpp (zq11 HB34.out.size HB5.out.size) (zq11 (zq11 HB34.out.size HB5.out.size) hb6.size));have HV7:=hid (show R1 w3.heap.size w7 k5 (.slice a5 k5 c5) from(Ty.below (HB57.out)).one _ _ ((Ty.below HB5.out).one _ _ hr4));have HL7:=hid (fun(W:World) (hb:Below w7.heap.size w7 W)=>show W.cell? ⟨g,0,none⟩=some (.string x0)∧g<W.heap.size from by
        obtain⟨g',eg,h1,h2⟩:=HL.out W (by
         have h3:=HB23.out.trans (HB37.out.mono HB23.out.size);exact h3.trans (hb.mono h3.size)) 0 x0 rfl
        obtain rfl:g=g':=by simpa using eg
        exact⟨h1,h2⟩)
       obtain⟨go,curo,o,rfl,k1,_,_,_,k2⟩:=DwP.r1at (HVA.out w7 HB17.out).1 hj;have HDC:=hid (fun W=>dec_t o W);obtain⟨q0,hgl⟩:=HL7.out w7 zqB;obtain⟨⟨p0,p1,p2⟩,-⟩:=row3f (HP.out w7 HB17.out);have hpl7:g0<w7.heap.size:=by have h1:=HB17.out.size;have h2:=HS1.out;omega
       clear hw7 hg7 hpp hb6 HOP hr4;go_cut [98] (fun v W=>(∃b,v= .bool b)∧Hid (Below w7.heap.size w7 W));case first=>
        go_region_law
         (first|(go_simp;go_at_call 239;refine(HDC.out _).mono ?_;rintro e wd ⟨sd,rfl,hzd,hbd⟩;have HBD:=hid (show Below w7.heap.size w7 wd from(by first|exact hbd|exact(zqB.drew).trans hbd));obtain⟨qd0,hgd⟩:=HL7.out wd HBD.out)|(fail))
        all_goals
         go_wp2_with fail;go_meet;exact⟨⟨_,rfl⟩,HBD⟩
       case rest=>
        obtain⟨⟨b,rfl⟩,HB8⟩:=hcut;rename World=>w8;have HB18:=hid (show Below w1.heap.size w1 w8 from HB17.out.trans (HB8.out.mono HB17.out.size));have H13:=hid (show w1.heap.size≤w3.heap.size from HB3.out.size);have HX8:=hid (HX.out.below HB8.out);have HV8:=hid ((Ty.below HB8.out).one _ _ HV7.out);clear q0 hgl p0 p1 p2 hpl7 k1 k2 h4 hl1 hl3 HX HV7 HDC HL HL7;obtain⟨⟨d0,d1,d2⟩,-⟩:=row3f HX8.out.1;have hg7l:=HX8.out.lt;obtain⟨⟨e0,e1,e2⟩,f0,f1,f2⟩:=row3f (HR.out w8 HB18.out).1;have hgl8:=(HR.out w8 HB18.out).2;cases b with
        |true=>
         obtain⟨gp,ex2,hsl⟩:=HX8.out.pslot (i:=j) hj;subst ex2;have hgg:=slot_ne hsl HX8.out;obtain⟨u0,hp2⟩:=hsl.cell;have hp1:=hsl.1;have hp3:=hsl.2.2.1;have hg1:¬g0+1=gp:=by have h1:=HS1.out;have h2:=H13.out;have h3:=hsl.2.1;omega
         have HSL:=hid hsl;have HX9:=hid (hsl.put HX8.out HV8.out);have HR14:=hid ((zq53 w8 ⟨gp,j,none⟩ (g0+1) (.slice a5 k5 c5) hg1).trans (HR.out w8 HB18.out).1);have HB14:=hid ((HB1.out.trans (HB18.out.mono HB1.out.size)).setCell (p:=⟨gp,j,none⟩) (zq11 (zq11 HB1.out.size H13.out) hsl.2.1) (.slice a5 k5 c5));clear hsl;go_wp2_with fail;obtain⟨⟨z0,z1,z2⟩,-⟩:=row3f (put3 (x:=.slice x1' k5 y1') (y:=.slice (some ⟨gp,0,none⟩) k5 y2') (z:=.slice x3' k5 y3') HR14.out);exact zq12 (v:=.tuple #[.agg #[.slice x1' k5 y1',.slice (some ⟨gp,0,none⟩) k5 y2',.slice x3' k5 y3'],.bool true]) (by simp[results,Tryz.results232,go_sem,z0,z1,z2]) rfl (HF.out _ HB14.out _ _ _ _ _ _ _ HR14.out (HX9.out.2.2.mono (HBW.out _ H13.out)))
        |false=>
         go_upto_region 16 with fail;go_cut [111] (fun v W=>(∃b,v= .bool b∧(b=false→0≤y∧y<(j:Int)))∧W=w8);case first=>
          by_cases h1:y<0
          ·go_wp2_with fail;go_meet;exact⟨⟨_,rfl,fun h=>Bool.noConfusion h⟩,rfl⟩
          ·by_cases h2:(j:Int)≤y
           ·go_wp2_with fail;go_meet;exact⟨⟨_,rfl,fun h=>Bool.noConfusion h⟩,rfl⟩
           ·have HH:=hid (show 0≤y∧y<(j:Int) by omega);go_wp2_with fail;go_meet;exact⟨⟨_,rfl,fun _=>HH.out⟩,rfl⟩
         case rest=>
          obtain⟨⟨b,rfl,hb⟩,rfl⟩:=hcut;rename World=>w8;cases b with
          |true=>
           clear hb;obtain⟨⟨p0,p1,p2⟩,-⟩:=row3f (HP.out w8 HB18.out);go_wp2_with fail;obtain⟨⟨z0,z1,z2⟩,-⟩:=row3f (put3 (x:=.slice (some ⟨go,0,none⟩) k5 c1) (y:=.slice a2 k5 c2) (z:=.slice a3 k5 c3) (HR.out w8 HB18.out).1);exact zq12 (v:=.tuple #[.agg #[.slice (some ⟨go,0,none⟩) k5 c1,.slice a2 k5 c2,.slice a3 k5 c3],.bool false]) (by simp[results,Tryz.results232,go_sem,z0,z1,z2]) rfl (HN.out w8 HB18.out)
          |false=>
           obtain⟨hy0,hyj⟩:=hb rfl;obtain⟨i,rfl⟩:∃i:Nat,y=(i:Int):=⟨y.toNat,by omega⟩;obtain⟨kk,hkk⟩:∃kk,j-(i+1)=kk:=⟨_,rfl⟩;have hij:i<j:=by omega
           have hik:i<k5:=by omega
           obtain⟨gc,gr,yr,ex3,hp0,hgcl,hsl⟩:=HX8.out.cslot (i:=i) (j:=kk) hik (by omega);subst ex3;have hgg:=slot_ne hsl HX8.out;obtain⟨u0,hp2⟩:=hsl.cell;have hp1:=hsl.1;have hp3:=hsl.2.2.1;have hg1:¬g0+1=gr:=by have h1:=HS1.out;have h2:=H13.out;have h3:=hsl.2.1;omega
           have hw1:IntKind.i64.wrap ((j:Int)-(i:Int))=(j:Int)-(i:Int):=zq6 _ (by omega);have hw2:IntKind.i64.wrap ((j:Int)-(i:Int)-1)=(kk:Int):=by rw[zq6 _ (by omega)];omega
           obtain⟨ln,hln⟩:∃ln,k5-(i+1)=ln:=⟨_,rfl⟩;rw[hln]at hp0;have hkl:(kk:Int)<(ln:Int):=by omega
           have hkl':kk<ln:=by omega
           have hikI:(i:Int)<(k5:Int):=by omega
           have HX9:=hid (hsl.put HX8.out HV8.out);have HR14:=hid ((zq53 w8 ⟨gr,kk,none⟩ (g0+1) (.slice a5 k5 c5) hg1).trans (HR.out w8 HB18.out).1);have HB14:=hid ((HB1.out.trans (HB18.out.mono HB1.out.size)).setCell (p:=⟨gr,kk,none⟩) (zq11 (zq11 HB1.out.size H13.out) hsl.2.1) (.slice a5 k5 c5));clear hsl hb hln hkk;go_wp2_with fail;obtain⟨⟨z0,z1,z2⟩,-⟩:=row3f (put3 (x:=.slice x1' k5 y1') (y:=.slice x2' k5 y2') (z:=.slice (some ⟨gc,0,none⟩) k5 y3') HR14.out);exact zq12 (v:=.tuple #[.agg #[.slice x1' k5 y1',.slice x2' k5 y2',.slice (some ⟨gc,0,none⟩) k5 y3'],.bool true]) (by simp[results,Tryz.results232,go_sem,z0,z1,z2]) rfl (HF.out _ HB14.out _ _ _ _ _ _ _ HR14.out (HX9.out.2.2.mono (HBW.out _ H13.out)))
end Go.Proofs.YtlmlamcoeegkbaaGreat.DwR
namespace Go.Proofs.YtlmlamcoeegkbaaGreat.DwQ
open Go.RowKit Go.Proofs.YtlmlamcoeegkbaaGreat Tow Val CyA CyB CyC DwT DwB DwP DwL DwM
structure TOk (n:Nat)(os:List Int)(ps:List (List Nat))(cs:List (List (List Nat))):Prop where
 n6:n≤6
 ol:os.length=n
 pr:∀o∈os,o=2∨o=3∨o=5∨o=7
 pl:ps.length=n
 pv:∀v∈ps,v.length=n∧∀q∈v,q≤7
 cl:cs.length=n
 cv:∀i L,cs[i]?=some L→L.length=n-(i+1)∧∀v∈L,v.length=n∧∀q∈v,q≤7
theorem dec1 (o:Int)(h:o=2∨o=3∨o=5∨o=7)(w:World):Calls Tryz.prog 239 #[.int .i64 o] w (StrR 1 w):=by
 have key:∀m:Nat,(Lib.decDigits m).length≤1→m≤1000→Calls Tryz.prog 239 #[.int .i64 (m:Int)] w (StrR 1 w):=fun m hm hm2=>by
  refine(NumD.dec_any m w (by omega)).mono ?_;rintro e w' ⟨rfl,hb⟩;exact⟨_,rfl,by show(Lib.decDigits m).length≤1;exact hm,hb⟩
 rcases h with rfl|rfl|rfl|rfl
 ·exact key 2 (by rw[Lib.decDigits];simp) (by decide)
 ·exact key 3 (by rw[Lib.decDigits];simp) (by decide)
 ·exact key 5 (by rw[Lib.decDigits];simp) (by decide)
 ·exact key 7 (by rw[Lib.decDigits];simp) (by decide)
theorem stepB {a b c:World}{B:Nat}(h:Below a.heap.size a b)(hB:B≤b.heap.size)(h2:Below b.heap.size b c):Below a.heap.size a c:=h.trans (h2.mono h.size)
theorem form_of {w:World}{v:Value}{n:Nat}{α:Type}{E:World→Value→α→Prop}{S:Nat→Prop}{l:List α}(h:SlG E S w v l)(hn:l.length=n):∃a c,v= .slice a n c:=by
 obtain⟨a,c,h1,_⟩:=h;exact⟨a,c,by rw[h1,hn]⟩
theorem tyt_any (n:Nat)(os:List Int)(ps:List (List Nat))(cs:List (List (List Nat)))(h:TOk n os ps cs)(vO vP vC:Value)(w:World)(hV:ValP (fun _=>True) w vO vP vC ⟨os,ps.map ints,cs.map (fun L=>L.map ints)⟩):
  Calls Tryz.prog 233 #[.agg #[vO,vP,vC]] w (StrR 4000 w):=by
 obtain⟨aO,cO,rfl⟩:=form_of hV.os h.ol;obtain⟨aP,cP,rfl⟩:=form_of hV.ps (n:=n) (by simp[h.pl]);obtain⟨aC,cC,rfl⟩:=form_of hV.cs (n:=n) (by simp[h.cl]);have H:=hid h;have hn6:n≤6:=h.n6;have HV:=hid hV;clear h hV;go_enter Tryz.func233,Tryz.ntmps233;go_upto_region 1 with fail;obtain⟨w1,hw1⟩:∃w1,w1=w.alloc (.cells #[.slice aO n cO,.slice aP n cP,.slice aC n cC] 28):=⟨_,rfl⟩;rw[←hw1];have HB1:=hid (show Below w.heap.size w w1 by rw[hw1];exact zqB.alloc zqN _);have HBX:=hid (fun(W:World) (hb:Below w1.heap.size w1 W)=>show(W.cell? ⟨w.heap.size,0,none⟩=some (.slice aO n cO)∧W.cell? ⟨w.heap.size,1,none⟩=some (.slice aP n cP)∧W.cell? ⟨w.heap.size,2,none⟩=some (.slice aC n cC))∧w.heap.size<W.heap.size from by
  have hl:w.heap.size<w1.heap.size:=by rw[hw1];simp
  have hr:w1.heap[w.heap.size]?=some (.cells #[.slice aO n cO,.slice aP n cP,.slice aC n cC] 28 (0,0)):=by rw[hw1];exact zq17 _ _
  exact⟨row3' ((hb.block _ hl).trans hr),zq7 hl hb.size⟩)
 have HV1:=hid (HV.out.keep (Keep.of_below HB1.out));clear hw1;obtain⟨⟨e0,e1,e2⟩,hgl⟩:=HBX.out w1 zqB;by_cases hn0:n=0
 ·have hz:((n:Int)==0)=true:=by rw[hn0];rfl
  have HF:=hid (show StrR 4000 w (.returned (.string ⟨#[49]⟩)) w1 from⟨_,rfl,by show 1≤_;omega,HB1.out⟩);clear hn0;go_wp2_with fail;go_ret;exact HF.out
 have hz:((n:Int)==0)=false:=zq79.2 (by omega);clear hn0;go_wp2_with fail;go_loopw [4,5] (fun ov iv wr=>∃(i:Nat) (s:ByteArray),i≤n∧s.size≤2*i∧iv= .int .i64 (i:Int)∧ov= .string s∧Hid (Below w1.heap.size w1 wr)) (fun _ iv _=>n-(intOf iv).toNat);case atStart=>exact⟨0,_,zq4 _,zq1 _,rfl,rfl,hid zqB⟩
 case round=>
  clear e0 e1 e2 hgl;obtain⟨i,s,hi,hs,rfl,rfl,hB⟩:=hrel;by_cases hlt:i<n
  ·have hki:(i:Int)<(n:Int):=by omega
   have hki0:(0:Int)≤(i:Int):=by omega
   obtain⟨x,hx⟩:∃x,os[i]?=some x:=⟨_,zq0 (by rw[H.out.ol];exact hlt)⟩;have HPX:=hid (H.out.pr x (zq5 hx));obtain⟨b',o',u,rfl,_,hbu,hcu,rfl⟩:=slg_get (HV1.out.os.keep (Keep.of_below hB.out)) hx;obtain⟨⟨e0,e1,e2⟩,hgl⟩:=HBX.out wr hB.out;clear hx;have q1:(9223372036854775807<s.size+1)=False:=eq_false (by omega);go_upto_if 20 with(fail);go_cut [4] (fun v W=>∃s':ByteArray,v= .string s'∧s'.size≤2*i+1∧W=wr);case first=>
    by_cases hi0:i=0
    ·have hi0n:¬0<i:=by omega
     clear hi0;go_wp2_with fail;go_meet;exact⟨s,rfl,by omega,rfl⟩
    ·have hi0n:0<i:=by omega
     clear hi0;go_wp2_with fail;go_meet;exact⟨_,rfl,by rw[ByteArray.size_append];show _+1≤_;omega,rfl⟩
   case rest=>
    obtain⟨s',rfl,hs',rfl⟩:=hcut;rename World=>wr;have HDC:=hid (dec1 x HPX.out wr);clear hs q1;go_wp2_with (first|(go_at_call 239;refine HDC.out.mono ?_;rintro e w2 ⟨s1,rfl,hz1,hb1⟩;have q2:(9223372036854775807<s'.size+s1.size)=False:=eq_false (by omega))|fail);have HSZ:=hid (show(s'++s1).size≤2*(i+1) from by rw[ByteArray.size_append];omega);have HB2:=hid (hB.out.trans (hb1.mono hB.out.size));clear hz1 hb1 hB hs' q2;go_roundw;case rel=>exact⟨i+1,_,by omega,HSZ.out,by go_num,rfl,HB2⟩
    case measure=>simp[intOf];omega
  ·obtain rfl:n=i:=by omega
   have hs12:s.size≤12+0*60:=by omega
   have HB0:=hB;clear hB hs hlt hi;rename World=>w8;go_wp2_with fail;go_loopw [4,6] (fun ov iv wr=>∃(k:Nat) (s:ByteArray),k≤n∧s.size≤12+k*60∧iv= .int .i64 (k:Int)∧ov= .string s∧Hid (Below w1.heap.size w1 wr)) (fun _ iv _=>n-(intOf iv).toNat);case atStart=>exact⟨0,_,zq4 _,hs12,rfl,rfl,HB0⟩
   case round=>
    clear HB0 hs12;obtain⟨k,s,hk,hs,rfl,rfl,hB⟩:=hrel;by_cases hlt:k<n
    ·have hki:(k:Int)<(n:Int):=by omega
     have hki0:(0:Int)≤(k:Int):=by omega
     obtain⟨v,hv⟩:∃v,ps[k]?=some v:=⟨_,zq0 (by rw[H.out.pl];exact hlt)⟩;have HVV:=hid (H.out.pv v (zq5 hv));obtain⟨b',o',u,rfl,_,hbu,hcu,hsu⟩:=slg_get (HV1.out.ps.keep (Keep.of_below hB.out)) (show(ps.map ints)[k]?=some (ints v) by simp[hv]);obtain⟨au,cu,rfl⟩:=form_of hsu (n:=n) (by rw[ints_length];exact HVV.out.1);obtain⟨⟨e0,e1,e2⟩,hgl⟩:=HBX.out wr hB.out;obtain⟨x,hx⟩:∃x,os[k]?=some x:=⟨_,zq0 (by rw[H.out.ol];exact hlt)⟩;have HPX:=hid (H.out.pr x (zq5 hx));obtain⟨bq,oq,uq,rfl,_,hbq,hcq,rfl⟩:=slg_get (HV1.out.os.keep (Keep.of_below hB.out)) hx;have HSU:=hid hsu;have HZ:=hid (zero_r au n cu (ints v) (by rw[ints_length];exact HVV.out.1) (by omega) wr hsu);clear hv hsu hx;go_upto_block 3 with(fail);go_cut [4] (fun v W=>∃s':ByteArray,v= .string s'∧s'.size≤s.size+60∧Hid (Below w1.heap.size w1 W));case rest=>
      obtain⟨s',rfl,hs',hB'⟩:=hcut;clear HSU HZ hB;go_wp2_with fail;go_roundw;case rel=>exact⟨k+1,s',by omega,by omega,by go_num,rfl,hB'⟩
      case measure=>simp[intOf];omega
     case first=>
      have HNW:=hid (fun W (hk:Keep (fun _=>True) wr W)=>word_any au n cu v HVV.out.1 (by omega) HVV.out.2 W (HSU.out.keep hk));have HLE:=hid (fun W=>letter_any k (by omega) W);have HDC:=hid (fun W=>dec1 x HPX.out W);have hs9:s.size≤400:=by omega
      have c0:(9223372036854775807<s.size+2)=False:=eq_false (by omega);go_upto_if 42 with(go_at_call 240;refine HZ.out.mono ?_;rintro e w5 ⟨r,rfl,rfl⟩);cases r with
      |true=>
       go_wp2_with fail;go_meet;exact⟨s,rfl,by omega,hB⟩
      |false=>
       go_upto_region 15 with fail;go_region_held3 (fun w'=>(∀b o,b<w5.heap.size→w'.cell? ⟨b,o,none⟩=w5.cell? ⟨b,o,none⟩)∧Keep (fun _=>True) w5 w')
        (first|exact ks_mk (by repeat(first|exact zqK.drew|exact Keep.refl _ _|refine Keep.drewN ?_ _|refine Keep.trans ?_ (Keep.of_below (by assumption)))))
        (first|(go_at_call 241;refine(HLE.out _).mono ?_;rintro e wa ⟨sa,rfl,hza,hba⟩;have c1:(9223372036854775807<s.size+2+sa.size)=False:=(eq_false (by omega));have c2:(9223372036854775807<s.size+2+sa.size+1)=False:=(eq_false (by omega)))|(go_at_call 239;refine(HDC.out _).mono ?_;rintro e wb ⟨sx,rfl,hzx,hbx⟩;have c3:(9223372036854775807<s.size+2+sa.size+1+sx.size)=False:=(eq_false (by omega));have c4:(9223372036854775807<s.size+2+sa.size+1+sx.size+1)=False:=(eq_false (by omega)))|(go_at_call 243;refine(HNW.out _ (by repeat(first|exact zqK.drew|exact Keep.refl _ _|refine Keep.drewN ?_ _|refine Keep.trans ?_ (Keep.of_below (by assumption))))).mono ?_;rintro e w6 ⟨n6,a6,c6,rfl,⟨l6,hl6,ho6,-, hm6⟩,hb6⟩)|(go_at_call 242;refine(text6_any a6 n6 c6 l6 hl6 (by omega) _ (sl_own ho6 hl6)).mono ?_;rintro e w7 ⟨s7,rfl,hz7,hb7⟩;have c5:(9223372036854775807<s.size+2+sa.size+1+sx.size+1+s7.size)=False:=(eq_false (by omega))))
       have h7:Below w5.heap.size w5 w7:=(by repeat(first|exact zq3 _ _|exact zqB.drew|refine stepB ?_ zqN (by assumption)));have HB2:=hid (hB.out.trans (h7.mono hB.out.size));have HSZ:=hid (show(((((((s++⟨#[59,32]⟩)++sa)++⟨#[94]⟩)++sx)++⟨#[61]⟩)++s7):ByteArray).size≤s.size+60 from by
        simp only[ByteArray.size_append];show s.size+2+sa.size+1+sx.size+1+s7.size≤_;omega)
       clear h7;go_wp2_with fail;go_meet;exact⟨_,rfl,HSZ.out,HB2⟩
    ·obtain rfl:n=k:=by omega
     have hs372:s.size≤372+0*360:=by omega
     have HB8:=hid hB.out;clear hB hlt hk hs;rename World=>w9;go_wp2_with fail;go_loopw [4,7] (fun ov iv wr=>∃(i:Nat) (s:ByteArray),i≤n∧s.size≤372+i*360∧iv= .int .i64 (i:Int)∧ov= .string s∧Hid (Below w1.heap.size w1 wr)) (fun _ iv _=>n-(intOf iv).toNat);case atStart=>exact⟨0,_,zq4 _,hs372,rfl,rfl,HB8⟩
     case round=>
      clear HB8 hs372;obtain⟨i,s,hi,hs,rfl,rfl,hB⟩:=hrel;by_cases hlt:i<n
      ·have hki:(i:Int)<(n:Int):=by omega
       have hki0:(0:Int)≤(i:Int):=by omega
       have hi6:i≤6:=by omega
       obtain⟨L,hL⟩:∃L,cs[i]?=some L:=⟨_,zq0 (by rw[H.out.cl];exact hlt)⟩;obtain⟨hLl,hLr⟩:=H.out.cv i L hL;obtain⟨ln,hln⟩:∃ln,n-(i+1)=ln:=⟨_,rfl⟩;rw[hln]at hLl;have HLN:=hid hln;have hln6:ln≤6:=by omega
       obtain⟨bC,oC,u,rfl,_,hbu1,hcu1,hsu⟩:=slg_get HV1.out.cs (show(cs.map (fun L=>L.map ints))[i]?=some (L.map ints) by simp[hL]);obtain⟨aL,cL,rfl⟩:=form_of hsu (n:=ln) (by rw[zq18];exact hLl);have HSL:=hid hsu;have HCU:=hid (fun(W:World) (hb:Below w1.heap.size w1 W)=>show W.cell? ⟨bC,oC+i,none⟩=some (.slice aL ln cL)∧bC<W.heap.size from⟨((Keep.of_below (S:=fun _=>True) hb).cell trivial hbu1).trans hcu1,zq7 hbu1 hb.size⟩);have HLF:=hid (And.intro hLl hLr);have hs9:s.size≤372+i*360+0*60:=by omega
       have HB9:=hid hB.out;have hw1:IntKind.i64.wrap ((i:Int)+1)=(i:Int)+1:=zq6 _ (by omega);have hin:i+1+ln=n:=by omega
       clear hL hLl hLr hln hsu hs hB hbu1 hcu1;go_wp2_with fail;go_loopw [4,8] (fun ov jv wr=>∃(k:Nat) (s:ByteArray),k≤ln∧s.size≤372+i*360+k*60∧jv= .int .i64 ((i:Int)+1+(k:Int))∧ov= .string s∧Hid (Below w1.heap.size w1 wr)) (fun _ jv _=>n-(intOf jv).toNat);case atStart=>exact⟨0,_,zq4 _,hs9,by simp,rfl,HB9⟩
       case round=>
        clear HB9 hs9;obtain⟨k,s,hk,hs,rfl,rfl,hB⟩:=hrel;have hw2:IntKind.i64.wrap ((i:Int)+1+(k:Int))=(i:Int)+1+(k:Int):=zq6 _ (by omega);have hw5:IntKind.i64.wrap ((i:Int)+1+(k:Int)+1)=(i:Int)+1+(k:Int)+1:=zq6 _ (by omega);by_cases hlt2:k<ln
        ·have hki2:(k:Int)<(ln:Int):=by omega
         have hki20:(0:Int)≤(k:Int):=by omega
         obtain⟨j,hj⟩:∃j,i+1+k=j:=⟨_,rfl⟩;have hji:(i:Int)+1+(k:Int)=(j:Int):=by omega
         have hjn:j<n:=by omega
         have hjn':(j:Int)<(n:Int):=by omega
         have hji':i<j:=by omega
         rw[hji]at hw2 hw5 ⊢;have HJI:=hid hji;have hw3:IntKind.i64.wrap ((j:Int)-(i:Int))=(j:Int)-(i:Int):=zq6 _ (by omega);have hw4:IntKind.i64.wrap ((j:Int)-(i:Int)-1)=(k:Int):=by rw[zq6 _ (by omega)];omega
         have hw6:IntKind.i64.wrap (j:Int)=(j:Int):=zq6 _ (by omega);have hw7:IntKind.i64.wrap (i:Int)=(i:Int):=zq6 _ (by omega);obtain⟨v,hv⟩:∃v,L[k]?=some v:=⟨_,zq0 (by rw[HLF.out.1];exact hlt2)⟩;have HVV:=hid (HLF.out.2 v (zq5 hv));obtain⟨b',o',u,rfl,_,hbv1,hcv1,hsu⟩:=slg_get HSL.out (show(L.map ints)[k]?=some (ints v) by simp[hv]);obtain⟨au,cu,rfl⟩:=form_of hsu (n:=n) (by rw[ints_length];exact HVV.out.1);have HSU:=hid hsu;have HCV:=hid (fun(W:World) (hb:Below w1.heap.size w1 W)=>show W.cell? ⟨b',o'+k,none⟩=some (.slice au n cu)∧b'<W.heap.size from⟨((Keep.of_below (S:=fun _=>True) hb).cell trivial hbv1).trans hcv1,zq7 hbv1 hb.size⟩);have hsb:s.size≤3000:=by omega
         clear hv hsu hbv1 hcv1 hj hji;go_upto_block 7 with(fail);go_cut [4] (fun v W=>∃s':ByteArray,v= .string s'∧s'.size≤s.size+60∧Hid (Below w1.heap.size w1 W));case rest=>
          obtain⟨s',rfl,hs',hB'⟩:=hcut;have hjk:(j:Int)+1=(i:Int)+1+((k+1:Nat):Int):=by have:=HJI.out;omega
          have HJK:=hid hjk;have HM:=hid (show n-(intOf (.int .i64 ((j:Int)+1))).toNat<n-(intOf (.int .i64 (j:Int))).toNat from by simp[intOf];omega);clear HSU HCV HVV hB hjk;go_wp2_with fail;go_roundw;case rel=>exact⟨k+1,s',by omega,by omega,zq38 (Value.int .i64) HJK.out,rfl,hB'⟩
          case measure=>exact HM.out
         case first=>
          obtain⟨⟨e0,e1,e2⟩,hgl⟩:=HBX.out wr hB.out;obtain⟨hcu,hbu⟩:=HCU.out wr hB.out;obtain⟨hcv,hbv⟩:=HCV.out wr hB.out;have HUN:=hid (fun W=>(DwB.unit_any n j (by omega) hjn W).mono (R':=fun e w'=>∃g c,e= .returned (.slice (some ⟨g,0,none⟩) n c)∧SlI (fun _=>True) w' (.slice (some ⟨g,0,none⟩) n c) (ints ((List.replicate n 0).set j 1))∧Below W.heap.size W w') (by
           rintro e w' ⟨g,c,rfl,ho,hb⟩;have hl:(ints ((List.replicate n 0).set j 1)).length=n:=by rw[ints_length];simp
           rw[hl]at ho ⊢;exact⟨g,c,rfl,(Own.sl ho).mono (fun _ _=>trivial),hb⟩))
          have HSA:=hid (HSU.out.keep (Keep.of_below hB.out));go_upto_region 22 with fail;go_cut [92] (fun x W=>∃r:Bool,x= .bool r∧Hid (Below w1.heap.size w1 W));case first=>
           go_region_held3 (fun w'=>(∀b o,b<wr.heap.size→w'.cell? ⟨b,o,none⟩=wr.cell? ⟨b,o,none⟩)∧Keep (fun _=>True) wr w')
            (first|exact ks_mk (by repeat(first|exact zqK.drew|exact Keep.refl _ _|refine Keep.drewN ?_ _|refine Keep.trans ?_ (Keep.of_below (by assumption)))))
            (first|(go_at_call 94;refine(HUN.out _).mono ?_;rintro e w5 ⟨g5,c5,rfl,hs5,hb5⟩)|(go_at_call 183;refine(SpecD.same_any _ _ _ (ints v) _ (HSA.out.keep (by repeat(first|exact zqK.drew|exact Keep.refl _ _|refine Keep.drewN ?_ _|refine Keep.trans ?_ (Keep.of_below (by assumption))))) hs5).mono ?_;rintro e w8 ⟨rfl,n7,rfl⟩))
           have h7:Below wr.heap.size wr (w5.drewN n7):=zq61 (by repeat(first|exact zq3 _ _|exact zqB.drew|refine stepB ?_ zqN (by assumption))) _;have HB2:=hid (hB.out.trans (h7.mono hB.out.size));clear h7;go_wp2_with fail;go_meet;exact⟨_,rfl,HB2⟩
          case rest=>
           obtain⟨r,rfl,hBm⟩:=hcut;rename World=>wr;clear hB e0 e1 e2 hgl hcu hbu hcv hbv HSA;have hB:=hBm;clear hBm;cases r with
           |false=>
            go_wp2_with fail;go_meet;exact⟨s,rfl,by omega,hB⟩
           |true=>
            obtain⟨⟨e0,e1,e2⟩,hgl⟩:=HBX.out wr hB.out;obtain⟨hcu,hbu⟩:=HCU.out wr hB.out;obtain⟨hcv,hbv⟩:=HCV.out wr hB.out;have HNW:=hid (fun W (hk:Keep (fun _=>True) wr W)=>word_any au n cu v HVV.out.1 (by omega) HVV.out.2 W ((HSU.out.keep (Keep.of_below hB.out)).keep hk));have HLE:=hid (fun W=>letter_any j (by omega) W);have HLI:=hid (fun W=>letter_any i (by omega) W);have c0:(9223372036854775807<s.size+2)=False:=eq_false (by omega);go_upto_region 23 with fail;go_region_held3 (fun w'=>(∀b o,b<wr.heap.size→w'.cell? ⟨b,o,none⟩=wr.cell? ⟨b,o,none⟩)∧Keep (fun _=>True) wr w')
             (first|exact ks_mk (by repeat(first|exact zqK.drew|exact Keep.refl _ _|refine Keep.drewN ?_ _|refine Keep.trans ?_ (Keep.of_below (by assumption)))))
             (first|(go_at_call_of 241 j;refine(HLE.out _).mono ?_;rintro e wa ⟨sa,rfl,hza,hba⟩;have c1:(9223372036854775807<s.size+2+sa.size)=False:=(eq_false (by omega));have c2:(9223372036854775807<s.size+2+sa.size+1)=False:=(eq_false (by omega)))|(go_at_call_of 241 i;refine(HLI.out _).mono ?_;rintro e wb ⟨sx,rfl,hzx,hbx⟩;have c3:(9223372036854775807<s.size+2+sa.size+1+sx.size)=False:=(eq_false (by omega));have c4:(9223372036854775807<s.size+2+sa.size+1+sx.size+1)=False:=(eq_false (by omega)))|(go_at_call 243;refine(HNW.out _ (by repeat(first|exact zqK.drew|exact Keep.refl _ _|refine Keep.drewN ?_ _|refine Keep.trans ?_ (Keep.of_below (by assumption))))).mono ?_;rintro e w6 ⟨n6,a6,c6,rfl,⟨l6,hl6,ho6,-, hm6⟩,hb6⟩)|(go_at_call 242;refine(text6_any a6 n6 c6 l6 hl6 (by omega) _ (sl_own ho6 hl6)).mono ?_;rintro e w7 ⟨s7,rfl,hz7,hb7⟩;have c5:(9223372036854775807<s.size+2+sa.size+1+sx.size+1+s7.size)=False:=(eq_false (by omega))))
            have h7:Below wr.heap.size wr w7:=(by repeat(first|exact zq3 _ _|exact zqB.drew|refine stepB ?_ zqN (by assumption)));have HSZ:=hid (show(((((((s++⟨#[59,32]⟩)++sa)++⟨#[94]⟩)++sx)++⟨#[61]⟩)++s7):ByteArray).size≤s.size+60 from by
             simp only[ByteArray.size_append];show s.size+2+sa.size+1+sx.size+1+s7.size≤_;omega)
            have HB2:=hid (hB.out.trans (h7.mono hB.out.size));clear h7;go_wp2_with fail;go_meet;exact⟨_,rfl,HSZ.out,HB2⟩
        ·obtain rfl:ln=k:=by omega
         have hjn':¬(i:Int)+1+(ln:Int)<(n:Int):=by omega
         have HB5:=hB;clear hB;go_wp2_with fail;go_roundw;case rel=>exact⟨i+1,s,by omega,by omega,by go_num,rfl,HB5⟩
         case measure=>simp[intOf];omega
      ·obtain rfl:n=i:=by omega
       have HF:=hid (show StrR 4000 w (.returned (.string s)) wr from⟨_,rfl,by omega,HB1.out.trans (hB.out.mono HB1.out.size)⟩);clear hB;go_wp2_with fail;go_ret;exact HF.out
theorem tail_nats {os v:List Int}{z:Nat}(h:TailV os z v)(hp:∀o∈os,primeB o=true):ints (nats v)=v∧(nats v).length=os.length∧∀q∈nats v,q≤7:=by
 have hx:∀x∈v,0≤x∧x≤7:=fun x hx=>by
  obtain⟨j,hj⟩:=zq45 hx;have hl:=(zq2.1 hj).1;obtain⟨o,ho⟩:∃o,os[j]?=some o:=⟨_,zq0 (by rw[←h.1];exact hl)⟩;have h1:=h.2 j x o hj ho;have h2:=primeB_le (hp o (zq5 ho));omega
 refine⟨ints_nats fun x h1=>(hx x h1).1,by unfold nats;rw[zq18];exact h.1,fun q hq=>?_⟩;unfold nats at hq;obtain⟨x,h1,rfl⟩:=zq35.1 hq;have:=hx x h1;omega
theorem tok_of {P:Pres}(h:Valid P):∃ps cs,P=⟨P.os,ps.map ints,cs.map (fun L=>L.map ints)⟩∧TOk P.os.length P.os ps cs:=by
 have e1:(P.ps.map nats).map ints=P.ps:=by
  rw[List.map_map]
  conv=>rhs;rw[←List.map_id P.ps]
  refine zq126 fun v hv=>?_;obtain⟨i,hi⟩:=zq45 hv;exact(tail_nats (h.pv i v hi) h.pr).1
 have e2:(P.cs.map (fun L=>L.map nats)).map (fun L=>L.map ints)=P.cs:=by
  rw[List.map_map]
  conv=>rhs;rw[←List.map_id P.cs]
  refine zq126 fun L hL=>?_;obtain⟨i,hi⟩:=zq45 hL;show(L.map nats).map ints=L;rw[List.map_map]
  conv=>rhs;rw[←List.map_id L]
  exact zq126 fun v hv=>(tail_nats ((h.cv i L hi).2 v hv) h.pr).1
 refine⟨P.ps.map nats,P.cs.map (fun L=>L.map nats),by rw[e1,e2],?_⟩;refine⟨h.n6,rfl,fun o ho=>?_,by rw[zq18,h.pl],fun v hv=>?_,by rw[zq18,h.cl],fun i L hL=>?_⟩
 ·have:=h.pr o ho;simp[primeB]at this;omega
 ·obtain⟨x,hx,rfl⟩:=zq35.1 hv;obtain⟨i,hi⟩:=zq45 hx;exact(tail_nats (h.pv i x hi) h.pr).2
 ·simp only[zq20,zq46]at hL;obtain⟨c,hc,rfl⟩:=hL;obtain⟨h1,h2⟩:=h.cv i c hc;refine⟨by rw[zq18,h1];omega,fun v hv=>?_⟩;obtain⟨y,hy,rfl⟩:=zq35.1 hv;exact(tail_nats (h2 y hy) h.pr).2
theorem text_val (P:Pres)(h:Valid P)(vO vP vC:Value)(w:World)(hV:ValP (fun _=>True) w vO vP vC P):
  Calls Tryz.prog 233 #[.agg #[vO,vP,vC]] w (StrR 4000 w):=by
 obtain⟨ps,cs,e,hk⟩:=tok_of h;rw[e]at hV;exact tyt_any _ _ ps cs hk vO vP vC w hV
end Go.Proofs.YtlmlamcoeegkbaaGreat.DwQ
namespace Go.Proofs.YtlmlamcoeegkbaaGreat.DwJ
open Go.RowKit Go.Proofs.YtlmlamcoeegkbaaGreat Tow CyA CyB CyC DwT DwB DwC DwD DwE DwF
def PreR (b:Nat)(w:World)(e:Ending)(w':World):Prop:=∃(N:Nat) (x1 x2 x3:Option Addr) (y1 y2 y3:Nat) (c:Int),N≤b∧e= .returned (.tuple #[.agg #[.slice x1 N y1,.slice x2 N y2,.slice x3 N y3],.int .i64 c])∧PT w.heap.size w' N (.slice x1 N y1) (.slice x2 N y2) (.slice x3 N y3)∧Below w.heap.size w w'
theorem pt_nil (B:Nat)(w:World):PT B w 0 (.slice none 0 0) (.slice none 0 0) (.slice none 0 0):=
 ⟨⟨[],rfl,zq56 _ _ _ _⟩,⟨[],zq56 _ _ _ _,fun i n h=>by simp at h⟩,⟨[],zq56 _ _ _ _,fun i n h=>by simp at h⟩⟩
theorem fin_pre {B N g y1 y2 y3:Nat}{w wr:World}{x1 x2 x3:Option Addr}{b:Nat}(c:Int)(hN:N≤b)(hX:PX B N wr g (.slice x1 N y1) (.slice x2 N y2) (.slice x3 N y3))(hB:Below w.heap.size w wr)(hgB:w.heap.size<B)(hBw:B≤wr.heap.size):
  PreR b w (.returned (.tuple #[.agg #[.slice x1 N y1,.slice x2 N y2,.slice x3 N y3],.int .i64 c])) (((wr.setCell ⟨w.heap.size,0,none⟩ (.slice x1 N y1)).setCell ⟨w.heap.size,1,none⟩ (.slice x2 N y2)).setCell ⟨w.heap.size,2,none⟩ (.slice x3 N y3)):=by
 refine⟨N,x1,x2,x3,y1,y2,y3,c,hN,rfl,?_,?_⟩
 ·exact(hX.2.2.ty (Ty.keep (S:=fun k=>B≤k) ((((Keep.refl _ wr).setCell (by simp;omega) _).setCell (by simp;omega) _).setCell (by simp;omega) _) fun _ h=>h)).mono (by omega)
 ·exact((hB.setCell (p:=⟨w.heap.size,0,none⟩) zqN _).setCell (p:=⟨w.heap.size,1,none⟩) zqN _).setCell (p:=⟨w.heap.size,2,none⟩) zqN _
theorem cyc_any (n:Nat)(hn:1≤n∧n≤40)(w:World):Calls Tryz.prog 187 #[.int .i64 (n:Int)] w (PreR 12 w):=by
 have HF1:=hid (fun W=>fac_r n hn.1 hn.2 W);have HIN:=hid (fun W=>in_T (n:Int) 1 729 (by omega) (by omega) W);clear hn;go_enter Tryz.func187,Tryz.ntmps187;go_upto_region 1 with fail;obtain⟨w1,hw1⟩:∃w1,w1=w.alloc zbox:=⟨_,rfl⟩;rw[←hw1];have K1:=hid (show w1.heap[w.heap.size]?=some zbox by rw[hw1];exact zq17 _ _);have HB1:=hid (show Below w.heap.size w w1 by rw[hw1];exact zqB.alloc zqN _);have HS1:=hid (show w1.heap.size=w.heap.size+1 by rw[hw1];simp);clear hw1;go_wp2_with fail;refine(HIN.out _).mono ?_;rintro e w0 ⟨rfl,rfl⟩;go_wp2_with fail;refine(HF1.out _).mono ?_;rintro e w2 ⟨N,T,aT,cT,bT,rfl,hTl,hT,hk6,hTp,hb2⟩;have HT:=hid hT;have HTL:=hid hTl;have HW2:=hid (HB1.out.trans (hb2.mono (by have:=HS1.out;omega)));have HS2:=hid (show w.heap.size<w2.heap.size from by have h1:=HS1.out;have h2:=hb2.size;omega);have K2:=hid (blk' hb2 (by have:=HS1.out;omega) K1.out);have hN6:¬(6:Int)<(N:Int):=by omega
 clear hT hTl hTp hb2 K1 HB1 HS1 HF1 HIN;cases bT with
 |false=>
  obtain⟨⟨f0,f1,f2⟩,q0,q1,q2⟩:=row3f K2.out;have HFIN:=hid (show PreR 12 w (.returned (.tuple #[.agg #[.slice none 0 0,.slice none 0 0,.slice none 0 0],.int .i64 2])) (((w2.setCell ⟨w.heap.size,0,none⟩ (.slice none 0 0)).setCell ⟨w.heap.size,1,none⟩ (.slice none 0 0)).setCell ⟨w.heap.size,2,none⟩ (.slice none 0 0)) from
   ⟨0,none,none,none,0,0,0,2,by omega,rfl,pt_nil _ _,((HW2.out.setCell (p:=⟨w.heap.size,0,none⟩) zqN _).setCell (p:=⟨w.heap.size,1,none⟩) zqN _).setCell (p:=⟨w.heap.size,2,none⟩) zqN _⟩)
  go_wp2_with fail;obtain⟨⟨z0,z1,z2⟩,-⟩:=row3f (put3 (x:=.slice none 0 0) (y:=.slice none 0 0) (z:=.slice none 0 0) K2.out);exact zq12 (v:=.tuple #[.agg #[.slice none 0 0,.slice none 0 0,.slice none 0 0],.int .i64 2]) (by simp[results,Tryz.results187,go_sem,z0,z1,z2]) rfl HFIN.out
 |true=>
  go_wp2_with fail;refine(triv_r N (by omega) _ HTL.out _ _ HT.out).mono ?_;rintro e w6 ⟨x1,y1,x2,y2,x3,y3,rfl,hp6,hb6⟩;go_upto_region 9 with fail;obtain⟨gx,hg⟩:∃gx,w6.heap.size=gx:=⟨_,rfl⟩;obtain⟨wb,hwb⟩:∃wb,wb=w6.alloc (.cells #[.slice x1 N y1,.slice x2 N y2,.slice x3 N y3] 28):=⟨_,rfl⟩;have HX0:=hid (show PX w2.heap.size N wb gx (.slice x1 N y1) (.slice x2 N y2) (.slice x3 N y3) by rw[hwb,←hg];exact box_new hp6 zqN hb6.size);have HOB:=hid (show Below w2.heap.size w2 wb by rw[hwb];exact hb6.alloc hb6.size _);rw[←hwb,hg];clear hwb hg hp6 hb6;go_wp2_with fail;go_loopw [7] (fun iv wr=>∃i:Nat,i≤N∧iv= .int .i64 (i:Int)∧Hid (PX w2.heap.size N wr gx (.slice x1 N y1) (.slice x2 N y2) (.slice x3 N y3))∧Hid (Below w2.heap.size w2 wr)) (fun iv _=>N-(intOf iv).toNat);case atStart=>exact⟨0,zq4 _,rfl,HX0,HOB⟩
  case round=>
   clear HX0 HOB;obtain⟨i,hi,rfl,hX1,hB1⟩:=hrel;have hwi:IntKind.i64.wrap ((i:Int)+1)=(i:Int)+1:=zq6 _ (by omega);have hsz:=hB1.out.size;obtain⟨⟨p0,p1,p2⟩,-⟩:=row3f hX1.out.1;have hgl:=hX1.out.lt;by_cases hlt:i+1<N
   ·have hki:(i:Int)+1<(N:Int):=by omega
    have hki0:(0:Int)≤(i:Int):=by omega
    have hkN:(i:Int)<(N:Int):=by omega
    obtain⟨gp,rfl,hsl⟩:=hX1.out.pslot (i:=i) (by omega);have HSL:=hid hsl;have hgp:=gp_ne hsl hX1.out;clear hsl;have HSH:=hid (fun(W:World) (hk:Keep Any wr W)=>show Calls Tryz.prog 94 #[.int .i64 (N:Int),.int .i64 ((i:Int)+1)] W (ShR N W) from unit_r N (i+1) (by omega) hlt W);go_upto_region 12 with fail;go_region_held3 (fun w'=>(∀b o,b<wr.heap.size→¬b=gp→w'.cell? ⟨b,o,none⟩=wr.cell? ⟨b,o,none⟩)∧Keep (fun k=>k≠gp) wr w')
     (first|exact kn_mk (by repeat(first|exact zqK.drew|exact Keep.refl _ _|refine Keep.setCell ?_ (by simp) _|refine Keep.trans ?_ (Keep.of_below (by assumption)))))
     (first|(go_at_call 94;refine(HSH.out _ (by repeat(first|exact zqK.drew|exact Keep.refl _ _|refine Keep.drew ?_|refine Keep.trans ?_ (Keep.of_below (by assumption))))).mono ?_;rintro e w6 ⟨g6,c6,rfl,hr6,hb6⟩;have B6:Below wr.heap.size wr w6:=(by first|exact hb6|exact(zqB.drew).trans hb6);have f6:=(HSL.out.below B6).1;obtain⟨u6,s6⟩:=(HSL.out.below B6).cell)|fail)
    rename_i hHd;clear hHd;have HX7:=hid (show PX w2.heap.size N (w6.setCell ⟨gp,i,none⟩ (.slice (some ⟨g6,0,none⟩) N c6)) gx (.slice x1 N y1) (.slice (some ⟨gp,0,none⟩) N y2) (.slice x3 N y3) from
     (HSL.out.below B6).put (hX1.out.below B6) (hr6.mono (by first|exact hsz|simpa using hsz)))
    have HB7:=hid (show Below w2.heap.size w2 (w6.setCell ⟨gp,i,none⟩ (.slice (some ⟨g6,0,none⟩) N c6)) from
     (hB1.out.trans (B6.mono hsz)).setCell (p:=⟨gp,i,none⟩) HSL.out.2.1 _)
    clear hr6 hb6 B6 f6 s6 HSH hgp HSL hgl p0 p1 p2 hX1 hB1;go_wp2_with fail;go_roundw;case rel=>exact⟨i+1,by omega,by go_num,HX7,HB7⟩
    case measure=>simp[intOf];omega
   ·have hki:¬(i:Int)+1<(N:Int):=by omega
    have LG:=hid (blk' hB1.out HS2.out K2.out);obtain⟨⟨f0,f1,f2⟩,q0,q1,q2⟩:=row3f LG.out;have HFIN:=hid (fin_pre (b:=12) 0 (by omega) hX1.out (HW2.out.trans (hB1.out.mono (zq44 HS2.out))) HS2.out hsz);clear hX1 hB1;go_wp2_with fail;obtain⟨⟨z0,z1,z2⟩,-⟩:=row3f (put3 (x:=.slice x1 N y1) (y:=.slice x2 N y2) (z:=.slice x3 N y3) LG.out);exact zq12 (v:=.tuple #[.agg #[.slice x1 N y1,.slice x2 N y2,.slice x3 N y3],.int .i64 0]) (by simp[results,Tryz.results187,go_sem,z0,z1,z2]) rfl HFIN.out
end Go.Proofs.YtlmlamcoeegkbaaGreat.DwJ
namespace Go.Proofs.YtlmlamcoeegkbaaGreat.DwS
open Go.RowKit Go.Lib Go.Proofs.YtlmlamcoeegkbaaGreat Tow Val CyA CyB CyC DwT DwB DwD DwL DwM DwN DwJ DwR
theorem PX.put3 {B n g:Nat}{w:World}{a b c x y z:Value}(h:w.heap[g]?=some (.cells #[a,b,c] 28 (0,0)))(hg:B≤g)(hP:PT B w n x y z):PX B n (((w.setCell ⟨g,0,none⟩ x).setCell ⟨g,1,none⟩ y).setCell ⟨g,2,none⟩ z) g x y z:=
 ⟨DwB.put3 h,hg,hP.ty (Ty.box3 h)⟩
theorem below3 {B g:Nat}{w W:World}(h:Below B w W)(hg:B≤g)(x y z:Value):Below B w (((W.setCell ⟨g,0,none⟩ x).setCell ⟨g,1,none⟩ y).setCell ⟨g,2,none⟩ z):=
 ((h.setCell (p:=⟨g,0,none⟩) hg _).setCell (p:=⟨g,1,none⟩) hg _).setCell (p:=⟨g,2,none⟩) hg _
theorem par_t (s:ByteArray)(hs:s.size≤1000)(w:World):Calls Tryz.prog 222 #[.string s] w (PreR 12 w):=by
 obtain⟨g0,hg0⟩:∃g0,w.heap.size=g0:=⟨_,rfl⟩;obtain⟨w1,hw1⟩:∃w1,w1=w.alloc zbox:=⟨_,rfl⟩;have HG0:=hid hg0;have HB1:=hid (show Below w.heap.size w w1 by rw[hw1];exact zqB.alloc zqN _);have HS1:=hid (show w1.heap.size=g0+1 by rw[hw1,←hg0];simp);have HR:=hid (fun(W:World) (hb:Below w1.heap.size w1 W)=>show W.heap[g0]?=some zbox∧g0<W.heap.size from
  ⟨(hb.block g0 (by rw[HS1.out];omega)).trans (by rw[hw1,←hg0];exact zq17 _ _),by have:=hb.size;rw[HS1.out]at this;omega⟩)
 have HN:=hid (fun(W:World) (hb:Below w1.heap.size w1 W)=>show PreR 12 w (.returned (.tuple #[.agg #[.slice none 0 0,.slice none 0 0,.slice none 0 0],.int .i64 6])) (((W.setCell ⟨g0,0,none⟩ (.slice none 0 0)).setCell ⟨g0,1,none⟩ (.slice none 0 0)).setCell ⟨g0,2,none⟩ (.slice none 0 0)) from
  ⟨0,none,none,none,0,0,0,6,zq4 _,rfl,pt_nil _ _,below3 (HB1.out.trans (hb.mono HB1.out.size)) (Nat.le_of_eq HG0.out) _ _ _⟩)
 have HSP:=hid (fun W=>split_r s 59 59 rfl hs W);go_enter Tryz.func222,Tryz.ntmps222;go_upto_region 1 with fail;rw[←hw1];clear hw1 hg0;go_upto_region 2 with(first|(go_at_call 230;refine(HSP.out _).mono ?_;rintro e w2 ⟨v,L,m,rfl,hLm,hm1,hm2,hLs,hO,hb2⟩)|fail);obtain⟨av,cv,rfl⟩:=owns_form hO;have HB2:=hid (show Below w1.heap.size w1 w2 from hb2);have HLS:=hid hLs;have HLM:=hid hLm;have hx0:∃x0,L[0]?=some x0:=⟨_,zq0 (by omega)⟩;obtain⟨x0,hx0⟩:=hx0;obtain⟨g,c',he,_⟩:=str_at hO hx0;obtain⟨rfl,rfl⟩:av=some ⟨g,0,none⟩∧cv=c':=by simpa using he
 have HL:=hid (fun(W:World) (hb:Below w2.heap.size w2 W) (k:Nat) (x:ByteArray) (hk:L[k]?=some x)=>show W.cell? ⟨g,k,none⟩=some (.string x)∧g<W.heap.size from by
  obtain⟨g',c',he,hc1,hgl⟩:=str_at hO hk;obtain⟨rfl,rfl⟩:g=g'∧cv=c':=by simpa using he
  exact⟨(hb.cell (p:=⟨g,k,none⟩) hgl).trans hc1,zq7 hgl hb.size⟩)
 obtain⟨q0,hgl⟩:=HL.out w2 zqB 0 x0 hx0;have HOR:=hid (fun W=>orders_any x0 (zq11 (hLs x0 (zq5 hx0)) hs) W);have hm9:(m:Int)≤1001:=by omega
 have hm0:(0:Int)<(m:Int):=by omega
 clear hO hb2 HSP hLs hLm hm2 he hx0;go_upto_region 3 with(first|(go_at_call 231;refine(HOR.out _).mono ?_;rintro e w3 ⟨n,l,ao,co,b3,rfl,hll,hsl,hn6,hpr,hb3⟩)|fail);have HB23:=hid (show Below w2.heap.size w2 w3 from hb3);have HB3:=hid (show Below w1.heap.size w1 w3 from HB2.out.trans (hb3.mono HB2.out.size));clear q0 hgl hpr hb3;cases b3 with
 |false=>
  obtain⟨⟨e0,e1,e2⟩,f0,f1,f2⟩:=row3f (HR.out w3 HB3.out).1;have hgr:=(HR.out w3 HB3.out).2;go_wp2_with fail;obtain⟨⟨z0,z1,z2⟩,-⟩:=row3f (put3 (x:=.slice none 0 0) (y:=.slice none 0 0) (z:=.slice none 0 0) (HR.out w3 HB3.out).1);exact zq12 (v:=.tuple #[.agg #[.slice none 0 0,.slice none 0 0,.slice none 0 0],.int .i64 6]) (by simp[results,Tryz.results222,go_sem,z0,z1,z2]) rfl (HN.out w3 HB3.out)
 |true=>
  have HTV:=hid (triv_r n (by omega) l hll (.slice ao n co) w3 hsl);clear hll hsl;go_upto_region 6 with(first|(go_at_call 96;refine HTV.out.mono ?_;rintro e w4 ⟨x1,y1,x2,y2,x3,y3,rfl,hpp,hb4⟩)|fail);obtain⟨g7,hg⟩:∃g7,w4.heap.size=g7:=⟨_,rfl⟩;obtain⟨w5,hw5⟩:∃w5,w5=w4.alloc (.cells #[.slice x1 n y1,.slice x2 n y2,.slice x3 n y3] 28):=⟨_,rfl⟩;rw[←hw5,hg];have HB35:=hid (show Below w3.heap.size w3 w5 by rw[hw5];exact hb4.alloc hb4.size _);have HI:=hid (show PX w3.heap.size n w5 g7 (.slice x1 n y1) (.slice x2 n y2) (.slice x3 n y3) from by rw[hw5,←hg];exact box_new hpp zqN hb4.size);have HG7:=hid (show w3.heap.size≤g7 from HI.out.2.1);clear hw5 hg hpp hb4 HTV HOR;go_wp2_with fail;go_loopw [8] (fun iv wr=>∃(k:Nat),k+1≤m∧iv= .int .i64 ((k:Int)+1)∧Hid (∃x1 y1 x2 y2 x3 y3,PX w3.heap.size n wr g7 (.slice x1 n y1) (.slice x2 n y2) (.slice x3 n y3))∧Hid (Below w3.heap.size w3 wr)) (fun iv _=>m+1-(intOf iv).toNat);case atStart=>exact⟨0,hm1,rfl,hid ⟨_,_,_,_,_,_,HI.out⟩,HB35⟩
  case round=>
   clear HI HB35;obtain⟨k,hk,rfl,hQ,hB⟩:=hrel;obtain⟨X1,Y1,X2,Y2,X3,Y3,hX⟩:=hQ.out;have HX:=hid hX;have HB1r:=hid (show Below w1.heap.size w1 wr from HB3.out.trans (hB.out.mono HB3.out.size));obtain⟨⟨d0,d1,d2⟩,-⟩:=row3f hX.1;have hg7l:g7<wr.heap.size:=hX.lt;clear hX hQ;by_cases hlt:k+1<m
   ·have hki:(k:Int)+1<(m:Int):=by omega
    obtain⟨x,hx⟩:∃x,L[k+1]?=some x:=⟨_,zq0 (by rw[HLM.out];exact hlt)⟩;obtain⟨hc,hcl⟩:=HL.out wr (HB23.out.trans (hB.out.mono HB23.out.size)) (k+1) x hx;have HRE:=hid (fun(W:World) (hb:Below wr.heap.size wr W)=>rel_t w3.heap.size n (by omega) x (zq11 (HLS.out x (zq5 hx)) hs) X1 X2 X3 Y1 Y2 Y3 W (zq11 hB.out.size hb.size) (HX.out.below hb).2.2);clear hx;go_upto_region 9 with fail;go_cut [6] (fun v W=>∃b,v= .bool b∧Hid (∃x1 y1 x2 y2 x3 y3,PX w3.heap.size n W g7 (.slice x1 n y1) (.slice x2 n y2) (.slice x3 n y3))∧Hid (Below w3.heap.size w3 W));case first=>
     have hk0:((0:Int)≤(k:Int)+1)=True:=eq_true (by omega);go_region_law
      (first|(go_simp;go_at_call 232;refine(HRE.out _ (by first|exact zq3 _ _|exact zqB.drew)).mono ?_;rintro e w6 ⟨a1,c1,a2,c2,a3,c3,b,rfl,hP6,hb6⟩;have HB6:=hid (show Below wr.heap.size wr w6 from(by first|exact hb6|exact(zqB.drew).trans hb6));have HP6:=hid hP6;have HX6:=hid (HX.out.below HB6.out);obtain⟨⟨u0,u1,u2⟩,r0,r1,r2⟩:=row3f HX6.out.1;have hg6:=HX6.out.lt;clear hP6 hb6)|(fail))
     all_goals
      go_wp2_with fail;go_meet;exact⟨_,rfl,hid ⟨_,_,_,_,_,_,PX.put3 HX6.out.1 HG7.out HP6.out⟩,hid (below3 (hB.out.trans (HB6.out.mono hB.out.size)) HG7.out _ _ _)⟩
    case rest=>
     obtain⟨b,rfl,HP7,HB7⟩:=hcut;rename World=>w7;have HB17:=hid (show Below w1.heap.size w1 w7 from HB3.out.trans (HB7.out.mono HB3.out.size));clear HRE hg7l hc hcl d0 d1 d2 hB HX;cases b with
     |true=>
      go_wp2_with fail;go_roundw;case rel=>exact⟨k+1,by omega,by go_num,HP7,HB7⟩
      case measure=>simp[intOf];omega
     |false=>
      obtain⟨⟨e0,e1,e2⟩,f0,f1,f2⟩:=row3f (HR.out w7 HB17.out).1;have hgr:=(HR.out w7 HB17.out).2;go_wp2_with fail;obtain⟨⟨z0,z1,z2⟩,-⟩:=row3f (put3 (x:=.slice none 0 0) (y:=.slice none 0 0) (z:=.slice none 0 0) (HR.out w7 HB17.out).1);exact zq12 (v:=.tuple #[.agg #[.slice none 0 0,.slice none 0 0,.slice none 0 0],.int .i64 6]) (by simp[results,Tryz.results222,go_sem,z0,z1,z2]) rfl (HN.out w7 HB17.out)
   ·have hki:¬(k:Int)+1<(m:Int):=by omega
    obtain⟨P,hP,-⟩:=DwP.pt_val HX.out.2.2;have HV:=hid (hP.mono (S':=Any) fun _ _=>trivial);have HIP:=hid (SpecW.isPres_any wr _ _ _ P HV.out);have HTX:=hid (fun(hv:Valid P) (W:World) (hb:Below wr.heap.size wr W)=>DwQ.text_val P hv _ _ _ W (HV.out.keep (Keep.of_below hb)));clear hP hk hlt;go_upto_region 12 with fail;go_cut [49] (fun v W=>(∃b,v= .bool b)∧Hid (Below wr.heap.size wr W));case first=>
     by_cases hv:Valid P
     ·have HVV:=hid hv;clear hv;go_wp2_with (first|(go_at_call 101;refine HIP.out.mono ?_;rintro e w6 ⟨r,rfl,hr,hb6⟩;obtain rfl:r=true:=hr.2 HVV.out;have HB6:=hid hb6;clear hr hb6;have hX6:=HX.out.below HB6.out;have hg6:=hX6.lt;obtain⟨⟨d0,d1,d2⟩,-⟩:=row3f hX6.1;clear hX6)|(go_at_call 233;refine(HTX.out HVV.out _ HB6.out).mono ?_;rintro e w7 ⟨st,rfl,hst,hb7⟩;have HB7:=hid (HB6.out.trans (hb7.mono HB6.out.size));clear hst hb7));go_meet;exact⟨⟨_,rfl⟩,HB7⟩
     ·have HVV:=hid hv;clear hv;go_wp2_with (go_at_call 101;refine HIP.out.mono ?_;rintro e w6 ⟨r,rfl,hr,hb6⟩;obtain rfl:r=false:=(by cases r with|false=>rfl|true=>exact absurd (hr.1 rfl) HVV.out);have HB6:=hid hb6;clear hr hb6);go_meet;exact⟨⟨_,rfl⟩,HB6⟩
    case rest=>
     obtain⟨⟨b,rfl⟩,HB8⟩:=hcut;rename World=>w8;have HB18:=hid (show Below w1.heap.size w1 w8 from HB1r.out.trans (HB8.out.mono HB1r.out.size));obtain⟨⟨e0,e1,e2⟩,f0,f1,f2⟩:=row3f (HR.out w8 HB18.out).1;have hgr:=(HR.out w8 HB18.out).2;clear d0 d1 d2 hg7l;cases b with
     |true=>
      go_wp2_with fail;obtain⟨⟨z0,z1,z2⟩,-⟩:=row3f (put3 (x:=.slice none 0 0) (y:=.slice none 0 0) (z:=.slice none 0 0) (HR.out w8 HB18.out).1);exact zq12 (v:=.tuple #[.agg #[.slice none 0 0,.slice none 0 0,.slice none 0 0],.int .i64 6]) (by simp[results,Tryz.results222,go_sem,z0,z1,z2]) rfl (HN.out w8 HB18.out)
     |false=>
      have HX8:=hid (HX.out.below HB8.out);obtain⟨⟨d0,d1,d2⟩,-⟩:=row3f HX8.out.1;have hg7l:=HX8.out.lt;have hne:¬g7=g0:=by have h1:=HS1.out;have h2:=HB3.out.size;have h3:=HG7.out;omega
      go_wp2_with fail;obtain⟨⟨z0,z1,z2⟩,-⟩:=row3f (put3 (x:=.slice X1 n Y1) (y:=.slice X2 n Y2) (z:=.slice X3 n Y3) (HR.out w8 HB18.out).1);exact zq12 (v:=.tuple #[.agg #[.slice X1 n Y1,.slice X2 n Y2,.slice X3 n Y3],.int .i64 0]) (by simp[results,Tryz.results222,go_sem,z0,z1,z2]) rfl
       ⟨n,_,_,_,_,_,_,0,by omega,rfl,(HX8.out.2.2.ty (Ty.box3 (HR.out w8 HB18.out).1)).mono (zq11 HB1.out.size HB3.out.size),below3 (HB1.out.trans (HB18.out.mono HB1.out.size)) (Nat.le_of_eq HG0.out) _ _ _⟩
end Go.Proofs.YtlmlamcoeegkbaaGreat.DwS
