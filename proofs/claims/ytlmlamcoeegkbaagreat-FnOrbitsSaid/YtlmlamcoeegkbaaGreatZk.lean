import Derived.Test.YtlmlamcoeegkbaaGreatZ0
import Derived.Test.YtlmlamcoeegkbaaGreatZh
import Derived.Test.YtlmlamcoeegkbaaGreatZj
import Derived.Deep.AppendLies
/-
  Lemmas for the law FnOrbits, in short spelling.
-/
open Go.Lib (hid)
set_option linter.unusedVariables false
set_option linter.unusedSimpArgs false
set_option maxRecDepth 100000
set_option maxHeartbeats 40000000
namespace Go.Proofs.YtlmlamcoeegkbaaGreat.DwI
open Go.RowKit Go.Proofs.YtlmlamcoeegkbaaGreat Tow CyA CyB CyC DwT DwB DwC DwD DwE DwF DwH
def HEq3 (wb wr:World)(x3:Option Addr):Prop:=wb.heap.size≤wr.heap.size∧∀gc,x3=some ⟨gc,0,none⟩→wr.heap[gc]?=wb.heap[gc]?
theorem heq_step {B N g y3 gp i j:Nat}{wb wr w6:World}{vO vP u:Value}{x3:Option Addr}(hX:PX B N wr g vO vP (.slice x3 N y3))(hs:Slot B N wr gp j)(B6:Below wr.heap.size wr w6)
  (he:HEq3 wb wr x3):HEq3 wb (w6.setCell ⟨gp,i,none⟩ u) x3:=by
 refine⟨by have h1:=he.1;have h2:=B6.size;simp;omega,fun gc hgc=>?_⟩;subst hgc;obtain⟨us,q1,_⟩:=hX.2.2.2.2;rw[zq53 w6 ⟨gp,i,none⟩ gc u (gc_ne (i:=0) hX hs),B6.block gc (zq8 q1 gc rfl).2];exact he.2 gc rfl
theorem heq_below {B N g y3:Nat}{wb wr w6:World}{vO vP:Value}{x3:Option Addr}(hX:PX B N wr g vO vP (.slice x3 N y3))(B6:Below wr.heap.size wr w6)
  (he:HEq3 wb wr x3):HEq3 wb w6 x3:=by
 refine⟨zq11 he.1 B6.size,fun gc hgc=>?_⟩;subst hgc;obtain⟨us,q1,_⟩:=hX.2.2.2.2;rw[B6.block gc (zq8 q1 gc rfl).2];exact he.2 gc rfl
theorem cslot_lt {B N g y3 i ni yr gr gc:Nat}{wb wr:World}{vO vP:Value}(hX:PX B N wb g vO vP (.slice (some ⟨gc,0,none⟩) N y3))(he:wr.heap[gc]?=wb.heap[gc]?)(hi:i<N)(hc:wr.cell? ⟨gc,i,none⟩=some (.slice (some ⟨gr,0,none⟩) ni yr)):gr<wb.heap.size:=by
 obtain⟨gc',u,e,h1,h2,h3,h4⟩:=hX.2.2.2.2.at (cshape_get hi);obtain rfl:gc=gc':=by simpa using e
 have h5:wr.cell? ⟨gc,i,none⟩=wb.cell? ⟨gc,i,none⟩:=by simp only[World.cell?,he]
 rw[h5,h1]at hc;injection hc with hc;subst hc;obtain⟨us,q1,_⟩:=h2;exact(zq8 q1 gr rfl).2
theorem R2.keepne {B N gr i j:Nat}{B':Nat}{w:World}{L:List Nat}{v u:Value}(h:R2 B w L v)(hs:Slot B' N w gr j)(hne:v.ownBlock≠some gr):R2 B (w.setCell ⟨gr,i,none⟩ u) L v:=by
 obtain⟨_,_,_,cur,u0,h4,_⟩:=hs;obtain⟨us,q1,q2⟩:=h;refine⟨us,ownsRow_keep1 q1 hne,fun k n hk=>?_⟩;obtain⟨x,e1,e2⟩:=q2 k n hk;exact⟨x,e1,e2.other h4 (by decide)⟩
where
 ownsRow_keep1 {B n gr i:Nat} {e:TypeId} {w:World} {v u:Value} {xs:List Value} (h:w.ownsRow B e 1 v n xs) (hne:v.ownBlock≠some gr):(w.setCell ⟨gr,i,none⟩ u).ownsRow B e 1 v n xs:=
  owns_keep1 h (S:=fun k=>k≠gr) ((Keep.refl _ w).setCell (by simp) _) (fun k hk e=>hne (by rw[hk,e]))
theorem affine_any (p n m:Nat)(hp:1≤p∧p≤7)(hn:1≤n∧n≤40)(hm:m≤4)(ab:Option Addr)(cb:Nat)(w:World)(hA:R2 0 w (List.replicate m m) (.slice ab m cb)):
  Calls Tryz.prog 190 #[.int .i64 (p:Int),.slice ab m cb,.int .i64 (n:Int)] w (DrwR 12 w):=by
 obtain⟨i0,hi0,hz0,hz1,hz2⟩:=zq41 infoI;have HF1:=hid (fun W=>fac_r n hn.1 hn.2 W);have HPP:=hid hp;have HA:=hid hA;clear hn hp hA;go_enter Tryz.func190,Tryz.ntmps190;go_upto_region 1 with fail;obtain⟨w1,hw1⟩:∃w1,w1=w.alloc zbox:=⟨_,rfl⟩;rw[←hw1];have K1:=hid (show w1.heap[w.heap.size]?=some zbox by rw[hw1];exact zq17 _ _);have HB1:=hid (show Below w.heap.size w w1 by rw[hw1];exact zqB.alloc zqN _);have HS1:=hid (show w1.heap.size=w.heap.size+1 by rw[hw1];simp);clear hw1;go_wp2_with fail;refine(HF1.out _).mono ?_;rintro e w2 ⟨k,T,aT,cT,bT,rfl,hTl,hT,hk6,hTp,hb2⟩;have HT:=hid hT;have HTL:=hid hTl;have HTP:=hid hTp;have HW2:=hid (HB1.out.trans (hb2.mono (by have:=HS1.out;omega)));have HS2:=hid (show w.heap.size<w2.heap.size from by have h1:=HS1.out;have h2:=hb2.size;omega);have K2:=hid (blk' hb2 (by have:=HS1.out;omega) K1.out);clear hT hTl hTp hb2 K1 HB1 HS1 HF1;go_wp2_with fail;refine(own_r k (by omega) aT cT T HTL.out _ HT.out).mono ?_;rintro e w4 ⟨gO,cO,rfl,ho4,hb4⟩;have HO4:=hid (show w4.ownsRow w2.heap.size 2 1 (.slice (some ⟨gO,0,none⟩) (k+0) cO) (k+0) (vals (T++List.replicate 0 (p:Int))) by simpa using ho4);have HB4:=hid hb4;clear ho4 hb4;go_wp2_with fail;go_loopw [9,10] (fun ov iv wr=>∃(i g c:Nat),i≤m∧iv= .int .i64 (i:Int)∧ov= .slice (some ⟨g,0,none⟩) (k+i) c∧Hid (wr.ownsRow w2.heap.size 2 1 (.slice (some ⟨g,0,none⟩) (k+i) c) (k+i) (vals (T++List.replicate i (p:Int))))∧Hid (Below w2.heap.size w2 wr)) (fun _ iv _=>m-(intOf iv).toNat);case atStart=>exact⟨0,gO,cO,zq4 _,rfl,rfl,HO4,HB4⟩
 case round=>
  clear HO4 HB4;obtain⟨i,g,c,hi,rfl,rfl,hO,hB⟩:=hrel;by_cases hlt:i<m
  ·have hki:(i:Int)<(m:Int):=by omega
   obtain⟨l,hl⟩:∃l,k+i=l:=⟨_,rfl⟩;have HL:=hid hl;have hl10:l≤10:=by omega
   rw[hl]at hO ⊢;have a1:=ownsRow_keep hO.out (S:=Any) ((Keep.refl _ wr).alloc (.cells #[.int .i64 (p:Int)] 2)) (fun _ _=>trivial);have hBs:=hB.out.size;clear hO hl;go_wp2_with (at_builtin;(refine zq52 _ rfl _ _ 24 rfl w2.heap.size 2 i0 (.int .i64 0) 1 8 Tryz.underlying24 hi0 hz0 hz1 hz2 rfl (by decide) _ _ _ rfl a1 ⟨wr.heap.size,0,none⟩ 1 1 [.int .i64 (p:Int)] rfl rfl (zq50 (cs:= #[.int .i64 (p:Int)]) (t:=2) (fr:=(0,0)) (zq17 wr _)) (by simp[Value.oneCell']) (by decide) (by unfold maxLen;omega) (by omega) (by simp;omega) _ rfl ?_));intro g2 cap2 w6 hown2 hgrow2 hat2 hlt2;have HB6:=hid ((hB.out.alloc hBs (.cells #[.int .i64 (p:Int)] 2)).grown hgrow2 (by simp;omega) (fun g hg=>(zq8 a1 g hg).1));have HO6:=hid (show w6.ownsRow w2.heap.size 2 1 (.slice (some ⟨g2,0,none⟩) (l+1) cap2) (l+1) (vals (T++List.replicate (i+1) (p:Int))) from by
    rw[zq101,←zq74];simpa[vals]using hown2)
   clear a1 hown2 hgrow2 hat2 hlt2 hB hBs;go_wp2_with fail;go_roundw;case rel=>exact⟨i+1,g2,cap2,by omega,by go_num,by have:=HL.out;rw[show k+(i+1)=l+1 by omega],by have:=HL.out;rw[show k+(i+1)=l+1 by omega];exact HO6,HB6⟩
   case measure=>simp[intOf];omega
  ·obtain rfl:m=i:=by omega
   have hnl:¬(m:Int)<(m:Int):=by omega
   obtain⟨w5,hw5⟩:∃w5,w5=wr:=⟨_,rfl⟩;rw[←hw5]at hO hB ⊢;clear hw5 hlt hi;obtain⟨N,hN⟩:∃N,k+m=N:=⟨_,rfl⟩;have HN:=hid hN;have hN12:N≤12:=by omega
   have HOL:=hid (show(T++List.replicate m (p:Int)).length=N by rw[zq31,HTL.out,zq29,hN]);rw[hN]at hO ⊢;have HOS:=hid (sl_own hO.out HOL.out);have hs25:=hB.out.size;clear hN hO;go_wp2_with fail;refine(triv_r N (by omega) _ HOL.out _ _ HOS.out).mono ?_;rintro e w6 ⟨x1,y1,x2,y2,x3,y3,rfl,hp6,hb6⟩;go_upto_region 8 with fail;obtain⟨gx,hg⟩:∃gx,w6.heap.size=gx:=⟨_,rfl⟩;obtain⟨wb,hwb⟩:∃wb,wb=w6.alloc (.cells #[.slice x1 N y1,.slice x2 N y2,.slice x3 N y3] 28):=⟨_,rfl⟩;have HX0:=hid (show PX w5.heap.size N wb gx (.slice x1 N y1) (.slice x2 N y2) (.slice x3 N y3) by rw[hwb,←hg];exact box_new hp6 zqN hb6.size);have HOB:=hid (show Below w5.heap.size w5 wb by rw[hwb];exact hb6.alloc hb6.size _);rw[←hwb,hg];clear hwb hg hp6 hb6 HOS;have HT5:=hid (HT.out.keep (Keep.of_below (S:=Any) hB.out));have HW5:=hid (HW2.out.trans (hB.out.mono (zq44 HS2.out)));have HS5:=hid (show w.heap.size<w5.heap.size from zq7 HS2.out hs25);have K5:=hid (blk' hB.out HS2.out K2.out);have HA5:=hid ((Ty.below HW5.out).two _ _ HA.out);clear HT hB K2 HA HS2 hs25 HW2;go_wp2_with fail;go_loopw [13] (fun iv wr=>∃i:Nat,i≤k∧iv= .int .i64 (i:Int)∧Hid (PX w5.heap.size N wr gx (.slice x1 N y1) (.slice x2 N y2) (.slice x3 N y3))∧Hid (HEq3 wb wr x3)∧Hid (Below w5.heap.size w5 wr)) (fun iv _=>k-(intOf iv).toNat);case atStart=>exact⟨0,zq4 _,rfl,HX0,hid ⟨zq1 _,fun _ _=>rfl⟩,HOB⟩
   case round=>
    clear HOB;obtain⟨i,hi,rfl,hX1,hE1,hB1⟩:=hrel;have hwi:IntKind.i64.wrap ((i:Int)+1)=(i:Int)+1:=zq6 _ (by omega);have hsz:=hB1.out.size;obtain⟨⟨p0,p1,p2⟩,-⟩:=row3f hX1.out.1;have hgl:=hX1.out.lt;by_cases hlt:i+1<k
    ·have hki:(i:Int)+1<(k:Int):=by omega
     have hki0:(0:Int)≤(i:Int):=by omega
     have hkN:(i:Int)<(N:Int):=by have:=HN.out;omega
     obtain⟨gp,rfl,hsl⟩:=hX1.out.pslot (i:=i) (by omega);have HSL:=hid hsl;have hgp:=gp_ne hsl hX1.out;clear hsl;have HSH:=hid (fun(W:World) (hk:Keep Any wr W)=>show Calls Tryz.prog 94 #[.int .i64 (N:Int),.int .i64 ((i:Int)+1)] W (ShR N W) from unit_r N (i+1) (by omega) (by have:=HN.out;omega) W);go_upto_region 12 with fail;go_region_held3 (fun w'=>(∀b o,b<wr.heap.size→¬b=gp→w'.cell? ⟨b,o,none⟩=wr.cell? ⟨b,o,none⟩)∧Keep (fun k=>k≠gp) wr w')
      (first|exact kn_mk (by repeat(first|exact zqK.drew|exact Keep.refl _ _|refine Keep.setCell ?_ (by simp) _|refine Keep.trans ?_ (Keep.of_below (by assumption)))))
      (first|(go_at_call 94;refine(HSH.out _ (by repeat(first|exact zqK.drew|exact Keep.refl _ _|refine Keep.drew ?_|refine Keep.trans ?_ (Keep.of_below (by assumption))))).mono ?_;rintro e w6 ⟨g6,c6,rfl,hr6,hb6⟩;have B6:Below wr.heap.size wr w6:=(by first|exact hb6|exact(zqB.drew).trans hb6);have f6:=(HSL.out.below B6).1;obtain⟨u6,s6⟩:=(HSL.out.below B6).cell)|fail)
     rename_i hHd;clear hHd;have HX7:=hid (show PX w5.heap.size N (w6.setCell ⟨gp,i,none⟩ (.slice (some ⟨g6,0,none⟩) N c6)) gx (.slice x1 N y1) (.slice (some ⟨gp,0,none⟩) N y2) (.slice x3 N y3) from
      (HSL.out.below B6).put (hX1.out.below B6) (hr6.mono (by first|exact hsz|simpa using hsz)))
     have HE7:=hid (heq_step (i:=i) (u:=(.slice (some ⟨g6,0,none⟩) N c6)) hX1.out HSL.out B6 hE1.out);have HB7:=hid (show Below w5.heap.size w5 (w6.setCell ⟨gp,i,none⟩ (.slice (some ⟨g6,0,none⟩) N c6)) from
      (hB1.out.trans (B6.mono hsz)).setCell (p:=⟨gp,i,none⟩) HSL.out.2.1 _)
     clear hr6 hb6 B6 f6 s6 HSH hgp HSL hgl p0 p1 p2 hX1 hB1 hE1;go_wp2_with fail;go_roundw;case rel=>exact⟨i+1,by omega,by go_num,HX7,HE7,HB7⟩
     case measure=>simp[intOf];omega
    ·have hki:¬(i:Int)+1<(k:Int):=by omega
     have HA8:=hid ((Ty.below hB1.out).two _ _ HA5.out);clear hi p0 p1 p2 hgl hlt;go_wp2_with fail;refine(own2_r m m (by omega) (by omega) ab cb _ HA8.out).mono ?_;rintro e w8 ⟨a8,c8,rfl,hr8,hb8⟩;have HX8:=hid (hX1.out.below hb8);have HB8:=hid (hB1.out.trans (hb8.mono hsz));have HE8:=hid (heq_below hX1.out hb8 hE1.out);have HR8:=hid (show R2 wb.heap.size w8 (List.replicate m m) (.slice a8 m c8) from hr8.mono hE1.out.1);clear hX1 hE1 hB1 hsz hr8 hb8 HA8 hki hwi;go_wp2_with fail;go_loopw [14,15] (fun av iv wr=>∃(i:Nat) (a8:Option Addr) (c8:Nat),i≤k∧av= .slice a8 m c8∧iv= .int .i64 (i:Int)∧Hid (R2 wb.heap.size wr (List.replicate m m) (.slice a8 m c8))∧Hid (PX w5.heap.size N wr gx (.slice x1 N y1) (.slice x2 N y2) (.slice x3 N y3))∧Hid (HEq3 wb wr x3)∧Hid (Below w5.heap.size w5 wr)) (fun _ iv _=>k-(intOf iv).toNat);case atStart=>exact⟨0,a8,c8,zq4 _,rfl,rfl,HR8,HX8,HE8,HB8⟩
     case round=>
      clear HX8 HB8 HR8 HE8;obtain⟨i,a8,c8,hi,rfl,rfl,hR1,hX1,hE1,hB1⟩:=hrel;by_cases hlt:i<k
      ·have hki:(i:Int)<(k:Int):=by omega
       have hki0:(0:Int)≤(i:Int):=by omega
       have HI:=hid hlt;go_wp2_with fail;go_loopw [16] (fun jv wr=>∃j:Nat,j≤m∧jv= .int .i64 (j:Int)∧Hid (R2 wb.heap.size wr (List.replicate m m) (.slice a8 m c8))∧Hid (PX w5.heap.size N wr gx (.slice x1 N y1) (.slice x2 N y2) (.slice x3 N y3))∧Hid (HEq3 wb wr x3)∧Hid (Below w5.heap.size w5 wr)) (fun jv _=>m-(intOf jv).toNat);case atStart=>exact⟨0,zq4 _,rfl,hR1,hX1,hE1,hB1⟩
       case round=>
        clear hR1 hX1 hE1 hB1;obtain⟨j,hj,rfl,hR1,hX1,hE1,hB1⟩:=hrel;have hsz:=hB1.out.size;by_cases hlj:j<m
        ·have hkj:(j:Int)<(m:Int):=by omega
         have hkj0:(0:Int)≤(j:Int):=by omega
         obtain⟨d,hd⟩:∃d:Nat,d+i+1=k+j:=⟨k+j-i-1,by have:=HI.out;omega⟩;have hw0:IntKind.i64.wrap ((k:Int)+(j:Int))=(k:Int)+(j:Int):=zq6 _ (by omega);have hw1:IntKind.i64.wrap ((k:Int)+(j:Int)-(i:Int))=(d:Int)+1:=by rw[zq6 _ (by omega)];omega
         have hw2:IntKind.i64.wrap ((d:Int)+1-1)=(d:Int):=by rw[zq6 _ (by omega)];omega
         have hw3:IntKind.i64.wrap (d:Int)=(d:Int):=zq6 _ (by omega);have hiN:(i:Int)<(N:Int):=by have:=HN.out;have:=HI.out;omega
         obtain⟨⟨p0,p1,p2⟩,-⟩:=row3f hX1.out.1;have hgl:=hX1.out.lt;obtain⟨ni,hni⟩:∃ni,N-(i+1)=ni:=⟨_,rfl⟩;obtain⟨gc,gr,yr,rfl,hc1,hc2,hsl⟩:=hX1.out.cslot (i:=i) (j:=d) (by omega) (by have:=HN.out;omega);rw[hni]at hc1;have hdn:(d:Int)<(ni:Int):=by have:=HN.out;omega
         have HSL:=hid hsl;have hgp:=gp_ne hsl hX1.out;have hgcr:=gc_ne (i:=0) hX1.out hsl;have hgrb:=cslot_lt HX0.out (hE1.out.2 gc rfl) (i:=i) (by omega) hc1;obtain⟨ga,aa,ca,rfl,ha1,ha2,ha3⟩:=r2row hR1.out hlj;have hgaB:¬ga=gr:=by
          obtain⟨ga',u',cur',e',_,_,_,_,_,h6,_⟩:=hR1.out.at (rep_get hlj);have:ga=ga':=by simpa using e'
          omega
         have HSH:=hid (fun(W:World) (hk:Keep Any wr W)=>show Calls Tryz.prog 192 #[.int .i64 (k:Int),.slice aa m ca,.int .i64 0] W (ShR N W) from by
          have h:=shift_r k 0 m (by omega) (by omega) (by omega) (.slice aa m ca) _ W ((Ty.keep hk (fun _ _=>trivial)).one _ _ ha3);rw[show k+m+0=N from by have:=HN.out;omega]at h;exact h)
         clear hsl hni hd ha3;go_upto_region 20 with fail;go_region_held3 (fun w'=>(∀b o,b<wr.heap.size→¬b=gr→w'.cell? ⟨b,o,none⟩=wr.cell? ⟨b,o,none⟩)∧Keep (fun k=>k≠gr) wr w')
          (first|exact kn_mk (by repeat(first|exact zqK.drew|exact Keep.refl _ _|refine Keep.setCell ?_ (by simp) _|refine Keep.trans ?_ (Keep.of_below (by assumption)))))
          (first|(go_at_call 192;refine(HSH.out _ (by repeat(first|exact zqK.drew|exact Keep.refl _ _|refine Keep.drew ?_|refine Keep.trans ?_ (Keep.of_below (by assumption))))).mono ?_;rintro e w6 ⟨g6,c6,rfl,hr6,hb6⟩;have B6:Below wr.heap.size wr w6:=(by first|exact hb6|exact(zqB.drew).trans hb6);have f6:=(HSL.out.below B6).1;obtain⟨u6,s6⟩:=(HSL.out.below B6).cell)|fail)
         rename_i hHd;clear hHd;have hR6:=hr6.mono (B':=w5.heap.size) (by first|exact hsz|simpa using hsz);have HX7:=hid (show PX w5.heap.size N (w6.setCell ⟨gr,d,none⟩ (.slice (some ⟨g6,0,none⟩) N c6)) gx (.slice x1 N y1) (.slice x2 N y2) (.slice (some ⟨gc,0,none⟩) N y3) from
          (HSL.out.below B6).put (hX1.out.below B6) hR6)
         have HR7:=hid (R2.keepne (i:=d) (u:=(.slice (some ⟨g6,0,none⟩) N c6)) ((Ty.below B6).two _ _ hR1.out) (HSL.out.below B6) (by simpa[Value.ownBlock]using hgaB));have HE7:=hid (heq_step (i:=d) (u:=(.slice (some ⟨g6,0,none⟩) N c6)) hX1.out HSL.out B6 hE1.out);have HB7:=hid (show Below w5.heap.size w5 (w6.setCell ⟨gr,d,none⟩ (.slice (some ⟨g6,0,none⟩) N c6)) from
          (hB1.out.trans (B6.mono hsz)).setCell (p:=⟨gr,d,none⟩) HSL.out.2.1 _)
         clear hr6 hb6 B6 f6 s6 HSH hgp hgcr HSL hgl p0 p1 p2 hX1 hB1 hc1 hc2 hw1 hw2 hR1 hR6 ha1 ha2 hgaB hE1;go_wp2_with fail;go_roundw;case rel=>exact⟨j+1,by omega,by go_num,HR7,HX7,HE7,HB7⟩
         case measure=>simp[intOf];omega
        ·obtain rfl:m=j:=by omega
         have hnj:¬(m:Int)<(m:Int):=by omega
         obtain⟨z,hz⟩:∃z,T[i]?=some z:=⟨_,zq0 (by rw[HTL.out];exact HI.out)⟩;obtain⟨q,rfl,hq1,hq7⟩:=HTP.out z (zq5 hz);have HTZ:=hid hz;have hik:(i:Int)<(k:Int):=by have:=HI.out;omega
         clear hz hlj hj;go_wp2_with fail;rename World=>wo;have HBR:=hid (show wb.heap.size≤wo.heap.size from hE1.out.1);go_loopw [14,18] (fun av tv wr=>∃(t:Nat) (a9:Option Addr) (c9:Nat),t≤q∧av= .slice a9 m c9∧tv= .int .i64 (t:Int)∧Hid (R2 wb.heap.size wr (List.replicate m m) (.slice a9 m c9))∧Hid (Below wo.heap.size wo wr)) (fun _ tv _=>q-(intOf tv).toNat);case atStart=>exact⟨1,a8,c8,hq1,rfl,rfl,hR1,hid zqB⟩
         case round=>
          obtain⟨t,a9,c9,ht,rfl,rfl,hR9,hB9⟩:=hrel;have hB19:=hid (hB1.out.trans (hB9.out.mono hsz));obtain⟨b,o,u,rfl,_,hbl,hcu,rfl⟩:=slg_get (HT5.out.keep (Keep.of_below hB19.out)) HTZ.out;by_cases hltq:t<q
          ·have htq:(t:Int)<(q:Int):=by omega
           have HPR:=hid (product_r m m rfl (by omega) (p:Int) (by have:=HPP.out;omega) a9 c9 a8 c8 wr (hR9.out.mono (zq4 _)) (((Ty.below hB9.out).two _ _ hR1.out).mono (zq4 _)));have hs9:=hB19.out.size;go_wp2_with fail;refine HPR.out.mono ?_;rintro e w10 ⟨a10,c10,rfl,hr10,hb10⟩;have HR10:=hid (hr10.mono (B':=wb.heap.size) (zq11 HBR.out hB9.out.size));have HB10:=hid (hB9.out.trans (hb10.mono hB9.out.size));clear hr10 hb10 hR9 hB9 hB19 hs9 HPR;go_wp2_with fail;go_roundw;case rel=>exact⟨t+1,a10,c10,by omega,rfl,by go_num,HR10,HB10⟩
           case measure=>simp[intOf];omega
          ·have htq:¬(t:Int)<(q:Int):=by omega
           have HX9:=hid (hX1.out.below hB9.out);have HE9:=hid (heq_below hX1.out hB9.out hE1.out);have hi6:i≤100:=by omega
           clear hB9 hltq ht;go_wp2_with fail;go_roundw;case rel=>exact⟨i+1,a9,c9,by have:=HI.out;omega,rfl,by go_num,hR9,HX9,HE9,hB19⟩
           case measure=>have:=HI.out;simp[intOf];omega
      ·obtain rfl:k=i:=by omega
       have hki:¬(k:Int)<(k:Int):=by omega
       have hsz:=hB1.out.size;have LG:=hid (blk' hB1.out HS5.out K5.out);obtain⟨⟨e0,e1,e2⟩,-⟩:=row3f hX1.out.1;obtain⟨⟨f0,f1,f2⟩,q0,q1,q2⟩:=row3f LG.out;have HFIN:=hid (fin_res (b:=12) (wq:=w) hN12 hX1.out (HW5.out.trans (hB1.out.mono (zq44 HS5.out))) HS5.out hsz);clear hX1 hB1 hR1;go_wp2_with fail;obtain⟨⟨z0,z1,z2⟩,-⟩:=row3f (put3 (x:=.slice x1 N y1) (y:=.slice x2 N y2) (z:=.slice x3 N y3) LG.out);exact zq12 (v:=.agg #[.slice x1 N y1,.slice x2 N y2,.slice x3 N y3]) (by simp[results,Tryz.results190,go_sem,z0,z1,z2]) rfl HFIN.out
end Go.Proofs.YtlmlamcoeegkbaaGreat.DwI
namespace Go.Proofs.YtlmlamcoeegkbaaGreat.DwK
open Go.RowKit Go.Proofs.YtlmlamcoeegkbaaGreat Tow CyA CyB CyC DwT DwB DwC DwD DwE DwF
theorem alloc_set (w:World)(o:Obj)(g i:Nat)(u:Value)(h:g<w.heap.size):(w.alloc o).setCell ⟨g,i,none⟩ u=(w.setCell ⟨g,i,none⟩ u).alloc o:=by
 unfold World.setCell World.alloc;simp only[World.mk.injEq,and_true,true_and];apply Array.ext
 ·simp
 ·intro k h1 h2;simp only[Array.getElem_modify,Array.getElem_push];by_cases hk:k<w.heap.size
  ·by_cases hg:g=k<;>simp[hk,hg,Array.size_modify]
  ·have hg:g≠k:=by omega
   simp[hk,hg,Array.size_modify]
theorem next_small (n:Int)(h:n≤1)(w:World)(g:Nat):Calls Tryz.prog 52 #[.pointer (some ⟨g,0,none⟩),.int .i64 n] w fun e w'=>e= .returned (.int .i64 0)∧w'=w:=by
 go_enter Tryz.func52,Tryz.ntmps52;go_wp2_with fail;go_ret;exact⟨rfl,rfl⟩
def FamR (b g:Nat)(a:Option Addr)(len cap:Nat)(w:World)(e:Ending)(w':World):Prop:=∃(N:Nat) (x1 x2 x3:Option Addr) (y1 y2 y3:Nat),N≤b∧e= .returned (.agg #[.slice x1 N y1,.slice x2 N y2,.slice x3 N y3])∧PT w.heap.size w' N (.slice x1 N y1) (.slice x2 N y2) (.slice x3 N y3)∧CyB.Src w' g a len cap∧w.grownBy w' (some g)
theorem gr_below {w w':World}{r:Option Nat}(h:Below w.heap.size w w'):w.grownBy w' r:=⟨h.os,h.tape,h.output,h.size,fun k hk _=>h.block k hk⟩
theorem srckept {w w':World}{S:Nat→Prop}{g:Nat}{a:Option Addr}{len cap:Nat}(h:CyB.Src w g a len cap)(hk:Keep S w w')(hS:S g):CyB.Src w' g a len cap:=by
 obtain⟨k,s,h1,h2,h3,h4⟩:=h;exact⟨k,s,(hk.block g hS (zq10.1 h1).1).trans h1,h2,h3,h4⟩
theorem gr_drewl {w w':World}{r:Option Nat}(h:w.drew.grownBy w' r):w.grownBy w' r:=⟨h.os,h.tape,h.output,h.size,h.block⟩
theorem Ty.gr {B g:Nat}{w w':World}(h:w.grownBy w' (some g))(hg:g<B):Ty B w w':=Ty.keep (S:=fun k=>B≤k) (Keep.grown h fun k hk e=>by injection e with e;omega) fun _ h=>h
theorem slotgrown {B N gp i g:Nat}{w w':World}(h:Slot B N w gp i)(hg:w.grownBy w' (some g))(hb:g<B):Slot B N w' gp i:=by
 obtain⟨h1,h2,h3,cur,u0,h4,h5,h6⟩:=h;have hgg:=(hg.block gp h3 (fun e=>by injection e with e;omega)).trans h4;exact⟨zq25 w' gp i cur _ hgg,h2,zq7 h3 hg.size,cur,u0,hgg,h5,(Ty.gr hg hb).one _ _ h6⟩
theorem pxgrown {B n gx g:Nat}{w w':World}{vO vP vC:Value}(h:PX B n w gx vO vP vC)(hg:w.grownBy w' (some g))(hb:g<B):PX B n w' gx vO vP vC:=
 ⟨(hg.block gx h.lt (fun e=>by injection e with e;have:=h.2.1;omega)).trans h.1,h.2.1,h.2.2.ty (Ty.gr hg hb)⟩
theorem ks2_mk {gp g:Nat}{wr w':World}(h:Keep (fun k=>k≠gp∧k≠g) wr w'):(∀b o,b<wr.heap.size→¬b=gp→¬b=g→w'.cell? ⟨b,o,none⟩=wr.cell? ⟨b,o,none⟩)∧Keep (fun k=>k≠gp∧k≠g) wr w':=⟨fun b o hb h1 h2=>h.cell ⟨h1,h2⟩ hb,h⟩
theorem keep2 {gp g:Nat}{w w':World}(h:w.grownBy w' (some g)):Keep (fun k=>k≠gp∧k≠g) w w':=Keep.grown h fun k hk e=>hk.2 (by injection e)
theorem lit_r1 {B:Nat}(w:World)(x y z:Int)(hB:B≤w.heap.size):R1 B (w.alloc (.cells #[.int .i64 x,.int .i64 y,.int .i64 z] 2)) 3 (.slice (some ⟨w.heap.size,0,none⟩) 3 3):=
 ⟨[x,y,z],rfl,Own_lit w _ [x,y,z] hB (by simp[maxLen]) rfl⟩
theorem gr_old {w w6:World}{g gp i:Nat}{o:Obj}{u:Value}(h:w.grownBy w6 (some g))(hk:Keep (fun k=>k≠gp) w6 ((w6.alloc o).setCell ⟨gp,i,none⟩ u))(hg:w.heap.size≤gp):w.grownBy ((w6.alloc o).setCell ⟨gp,i,none⟩ u) (some g):=
 ⟨h.os,h.tape,h.output,zq11 h.size hk.size,fun k hk1 hk2=>(hk.block k (by omega) (zq7 hk1 h.size)).trans (h.block k hk1 hk2)⟩
theorem fin_fam {b N g gx len cap y1 y2 y3:Nat}{a x1 x2 x3:Option Addr}{w wr:World}(hN:N≤b)(hX:PX (w.heap.size+1) N wr gx (.slice x1 N y1) (.slice x2 N y2) (.slice x3 N y3))(hs:CyB.Src wr g a len cap)(hg:g<w.heap.size)(hb:w.grownBy wr (some g))(hsz:w.heap.size+1≤wr.heap.size):
  FamR b g a len cap w (.returned (.agg #[.slice x1 N y1,.slice x2 N y2,.slice x3 N y3])) (((wr.setCell ⟨w.heap.size,0,none⟩ (.slice x1 N y1)).setCell ⟨w.heap.size,1,none⟩ (.slice x2 N y2)).setCell ⟨w.heap.size,2,none⟩ (.slice x3 N y3)):=by
 have hk:Keep (fun k=>k≠w.heap.size) wr (((wr.setCell ⟨w.heap.size,0,none⟩ (.slice x1 N y1)).setCell ⟨w.heap.size,1,none⟩ (.slice x2 N y2)).setCell ⟨w.heap.size,2,none⟩ (.slice x3 N y3)):=
  (((Keep.refl _ wr).setCell (by simp) _).setCell (by simp) _).setCell (by simp) _
 refine⟨N,x1,x2,x3,y1,y2,y3,hN,rfl,?_,srckept hs hk (by omega),?_⟩
 ·exact((hX.2.2.ty (Ty.keep hk fun k h=>by omega))).mono (by omega)
 ·refine⟨hb.os,hb.tape,hb.output,by simpa using hb.size,fun k hk1 hk2=>?_⟩;exact(hk.block k (by omega) (zq7 hk1 hb.size)).trans (hb.block k hk1 hk2)
theorem heis_any (q:Nat)(hq:2≤q∧q≤7)(w:World)(g:Nat)(a:Option Addr)(len cap:Nat)(hS:CyB.Src w g a len cap)(hR:Rd w g a len):
  Calls Tryz.prog 189 #[.pointer (some ⟨g,0,none⟩),.int .i64 (q:Int)] w (FamR 12 g a len cap w):=by
 have HQ:=hid hq;have HS:=hid hS;have HR:=hid hR;have hgw:=CyB.Src.lt hS;clear hq hS hR;go_enter Tryz.func189,Tryz.ntmps189;go_upto_region 1 with fail;obtain⟨w1,hw1⟩:∃w1,w1=w.alloc zbox:=⟨_,rfl⟩;rw[←hw1];have K1:=hid (show w1.heap[w.heap.size]?=some zbox by rw[hw1];exact zq17 _ _);have HB1:=hid (show Below w.heap.size w w1 by rw[hw1];exact zqB.alloc zqN _);have HS1:=hid (show w1.heap.size=w.heap.size+1 by rw[hw1];simp);clear hw1;have HL:=hid (show SlI Any (w1.alloc (.cells #[.int .i64 (q:Int),.int .i64 (q:Int),.int .i64 (q:Int)] 2)) (.slice (some ⟨w1.heap.size,0,none⟩) 3 3) [(q:Int),(q:Int),(q:Int)] from
  sl_own (Own_lit (B:=0) w1 _ [(q:Int),(q:Int),(q:Int)] (zq4 _) (by simp[maxLen]) rfl) rfl)
 go_wp2_with fail;refine(triv_r 3 (by omega) _ rfl _ _ HL.out).mono ?_;rintro e w6 ⟨x1,y1,x2,y2,x3,y3,rfl,hp6,hb6⟩;go_upto_region 2 with fail;obtain⟨gx,hgx0⟩:∃gx,w6.heap.size=gx:=⟨_,rfl⟩;obtain⟨wb,hwb⟩:∃wb,wb=w6.alloc (.cells #[.slice x1 3 y1,.slice x2 3 y2,.slice x3 3 y3] 28):=⟨_,rfl⟩;have HX0:=hid (show PX (w.heap.size+1) 3 wb gx (.slice x1 3 y1) (.slice x2 3 y2) (.slice x3 3 y3) by rw[hwb,←hgx0];exact box_new hp6 (by have:=HS1.out;simp;omega) (by have:=HS1.out;have:=hb6.size;simp at this;omega));have HOB:=hid (show Below (w.heap.size+1) w1 wb by rw[hwb];exact(((zq3 _ w1).alloc (by have:=HS1.out;omega) _).trans (hb6.mono (by have:=HS1.out;simp;omega))).alloc (by have:=HS1.out;have:=hb6.size;simp at this;omega) _);rw[←hwb,hgx0];clear hwb hgx0 hp6 hb6 HL;have HWB:=hid (HB1.out.trans (HOB.out.mono (by omega)));have KB:=hid (blk' HOB.out (by omega) K1.out);have HSB:=hid (show w.heap.size+1≤wb.heap.size by have:=HOB.out.size;have:=HS1.out;omega);clear HB1 HOB K1 HS1;obtain⟨⟨p0,p1,p2⟩,-⟩:=row3f HX0.out.1;obtain⟨gc,gr,yr,rfl,hc1,hc2,hsl⟩:=HX0.out.cslot (i:=0) (j:=0) (by omega) (by omega);have hfs:=hsl.1;obtain⟨us,hus⟩:=hsl.cell;have hgrl:=hsl.2.2.1;have HSL:=hid hsl;clear hsl;go_upto_region 3 with fail;have B2:Below wb.heap.size wb (wb.alloc (.cells #[.int .i64 0,.int .i64 1,.int .i64 1] 2)):=zqB.alloc zqN _;obtain⟨wr,hwr⟩:∃wr,wr=(wb.alloc (.cells #[.int .i64 0,.int .i64 1,.int .i64 1] 2)).setCell ⟨gr,0,none⟩ (.slice (some ⟨wb.heap.size,0,none⟩) 3 3):=⟨_,rfl⟩;have HX:=hid (show PX (w.heap.size+1) 3 wr gx (.slice x1 3 y1) (.slice x2 3 y2) (.slice (some ⟨gc,0,none⟩) 3 y3) by
  rw[hwr];exact(HSL.out.below B2).put (HX0.out.below B2) (lit_r1 wb 0 1 1 HSB.out))
 have HBW:=hid (show Below w.heap.size w wr by rw[hwr];exact(HWB.out.trans (B2.mono (by have:=HSB.out;omega))).setCell (p:=⟨gr,0,none⟩) (by have:=HSL.out.2.1;simp;omega) _);have KR:=hid (show wr.heap[w.heap.size]?=some zbox by
  rw[hwr,zq53 _ ⟨gr,0,none⟩ _ _ (by have:=HSL.out.2.1;simp;omega),zq48 _ _ _ (by have:=HSB.out;omega)];exact KB.out)
 rw[alloc_set _ _ _ _ _ hgrl]at hwr;rw[←hwr];have HSR:=hid (srckept HS.out (Keep.of_below (S:=Any) HBW.out) trivial);have HRR:=hid (HR.out.keep (Keep.of_below HBW.out));have HSW:w.heap.size+1≤wr.heap.size:=by rw[hwr];have:=HSB.out;simp;omega
 clear hwr B2 hfs hus hgrl HSL HX0 p0 p1 p2 hc1 hc2 KB HWB;have HGR:=hid (gr_below (r:=some g) HBW.out);have HSZ:=hid (show w.heap.size+1≤wr.heap.size from HSW);clear HBW;have HN2:=hid (next_any 2 (by omega) (by omega) wr g a len cap HSR.out HRR.out);go_wp2_with fail;refine HN2.out.mono ?_;rintro e w7 ⟨r,rfl,hr,hS7,hg7⟩;have HX7:=hid (pxgrown HX.out hg7 (by omega));have HG7:=hid (gr_tr HGR.out hg7);have HS7:=hid hS7;have HZ7:=hid (show w.heap.size+1≤w7.heap.size from zq11 HSZ.out hg7.size);have KR7:=hid ((hg7.block _ (by have:=HSZ.out;omega) (fun e=>by injection e with e;omega)).trans KR.out);have HR7:=hid (HR.out.grown HG7.out);clear HX HGR HSR HSZ KR HRR hg7 hS7 HN2;have HX:=HX7;have HGR:=HG7;have HSR:=HS7;have HSZ:=HZ7;have KR:=KR7;have HRR:=HR7;clear HX7 HG7 HS7 HZ7 KR7 HR7;by_cases hr0:r=0
 ·subst hr0;go_wp2_with fail;obtain⟨wr,hwr⟩:∃wr,w7=wr:=⟨_,rfl⟩;rw[hwr]at HX HGR HSR HSZ KR HRR ⊢;clear hwr;obtain⟨⟨p0,p1,p2⟩,-⟩:=row3f HX.out.1;have hbx:=HX.out.1;have hgx:=HX.out.lt;have hgxg:some gx≠some g:=fun e=>by injection e with e;have:=HX.out.2.1;omega
  obtain⟨gp,rfl,hsl⟩:=HX.out.pslot (i:=0) (by omega);have hgpg:g<w.heap.size+1:=by omega
  have hgxn:¬gx=g:=fun e=>hgxg (by rw[e]);have hgp:=gp_ne hsl HX.out;have hgpn:¬gp=g:=by have:=hsl.2.1;omega
  have HNX:=hid (fun(W:World) (hk:Keep Any wr W)=>next_any q HQ.out.1 (by have:=HQ.out.2;omega) W g a len cap (srckept HSR.out hk trivial) (Rd.keep HRR.out (hk.mono fun _ _=>trivial)));go_upto_region 4 with fail;go_region_held3 (fun w'=>(∀b o,b<wr.heap.size→¬b=gp→¬b=g→w'.cell? ⟨b,o,none⟩=wr.cell? ⟨b,o,none⟩)∧Keep (fun k=>k≠gp∧k≠g) wr w')
   (first|exact ks2_mk (by repeat(first|exact zqK.drew|exact Keep.refl _ _|exact keep2 (by assumption)|refine Keep.drew ?_|refine Keep.alloc ?_ _|refine Keep.setCell ?_ (by simp) _|refine Keep.trans ?_ (keep2 (by assumption)))))
   (first|(go_at_call 52;refine(HNX.out _ (by repeat(first|exact zqK.drew|exact Keep.refl _ _|refine Keep.drew ?_|refine Keep.trans ?_ (Keep.of_below (by assumption))))).mono ?_;rintro e w6 ⟨r,rfl,hr,hS6,hg6'⟩;have hg6:wr.grownBy w6 (some g):=(by first|exact hg6'|exact gr_drewl hg6');have x0:=(row3f ((hg6.block gx hgx hgxg).trans hbx)).1.2.1;have f6:=(slotgrown hsl hg6 hgpg).1;obtain⟨u6,s6⟩:=(slotgrown hsl hg6 hgpg).cell;have hl6:=(slotgrown hsl hg6 hgpg).2.2.1)|fail)
  rename_i hHd;clear hHd;have HX8:=hid (show PX (w.heap.size+1) 3 ((w6.alloc (.cells #[.int .i64 0,.int .i64 0,.int .i64 (r:Int)] 2)).setCell ⟨gp,0,none⟩ (.slice (some ⟨w6.heap.size,0,none⟩) 3 3)) gx (.slice x1 3 y1) (.slice (some ⟨gp,0,none⟩) 3 y2) (.slice (some ⟨gc,0,none⟩) 3 y3) from
   ((slotgrown hsl hg6 hgpg).below (zqB.alloc zqN _)).put ((pxgrown HX.out hg6 hgpg).below (zqB.alloc zqN _)) (lit_r1 w6 0 0 (r:Int) (by have:=HSZ.out;have:=hg6.size;omega)))
  have hk8:Keep (fun k=>k≠gp) w6 ((w6.alloc (.cells #[.int .i64 0,.int .i64 0,.int .i64 (r:Int)] 2)).setCell ⟨gp,0,none⟩ (.slice (some ⟨w6.heap.size,0,none⟩) 3 3)):=(zqK.alloc _).setCell (by simp) _;have HSR8:=hid (srckept hS6 hk8 (fun e=>hgpn e.symm));have HG8:=hid (show w.grownBy ((w6.alloc (.cells #[.int .i64 0,.int .i64 0,.int .i64 (r:Int)] 2)).setCell ⟨gp,0,none⟩ (.slice (some ⟨w6.heap.size,0,none⟩) 3 3)) (some g) from
   gr_old (gr_tr HGR.out hg6) hk8 (by have:=hsl.2.1;omega))
  have HSZ8:=hid (show w.heap.size+1≤((w6.alloc (.cells #[.int .i64 0,.int .i64 0,.int .i64 (r:Int)] 2)).setCell ⟨gp,0,none⟩ (.slice (some ⟨w6.heap.size,0,none⟩) 3 3)).heap.size from by have:=HSZ.out;have:=hg6.size;simp at this ⊢; omega);have KR8:=hid (show((w6.alloc (.cells #[.int .i64 0,.int .i64 0,.int .i64 (r:Int)] 2)).setCell ⟨gp,0,none⟩ (.slice (some ⟨w6.heap.size,0,none⟩) 3 3)).heap[w.heap.size]?=some zbox from
   (hk8.block _ (by have:=hsl.2.1;omega) (by have:=HSZ.out;have:=hg6.size;omega)).trans ((hg6.block _ (by have:=HSZ.out;first|omega|(simp;omega)) (fun e=>by injection e with e;omega)).trans KR.out))
  have HRR8:=hid (HR.out.grown HG8.out);obtain⟨w8,hw8⟩:∃w8,(w6.alloc (.cells #[.int .i64 0,.int .i64 0,.int .i64 (r:Int)] 2)).setCell ⟨gp,0,none⟩ (.slice (some ⟨w6.heap.size,0,none⟩) 3 3)=w8:=⟨_,rfl⟩;rw[hw8]at HX8 HSR8 HG8 HSZ8 KR8 HRR8;rw[alloc_set _ _ _ _ _ hl6]at hw8;rw[hw8];clear hw8 hk8 HX HSR HGR HSZ KR HRR hsl hg6 hg6' hS6 x0 f6 s6 hl6 HNX p0 p1 p2 hbx hgx hgxg hgxn hgpn hgp hgpg;have HX:=HX8;have HSR:=HSR8;have HGR:=HG8;have HSZ:=HSZ8;have KR:=KR8;have HRR:=HRR8;clear HX8 HSR8 HG8 HSZ8 KR8 HRR8;obtain⟨wr,hwr⟩:∃wr,w8=wr:=⟨_,rfl⟩;rw[hwr]at HX HGR HSR HSZ KR HRR ⊢;clear hwr;obtain⟨⟨p0,p1,p2⟩,-⟩:=row3f HX.out.1;have hbx:=HX.out.1;have hgx:=HX.out.lt;have hgxg:some gx≠some g:=fun e=>by injection e with e;have:=HX.out.2.1;omega
  obtain⟨gp',hgp',hsl⟩:=HX.out.pslot (i:=1) (by omega);obtain rfl:gp=gp':=by simpa using hgp'
  clear hgp';have hgpg:g<w.heap.size+1:=by omega
  have hgxn:¬gx=g:=fun e=>hgxg (by rw[e]);have hgp:=gp_ne hsl HX.out;have hgpn:¬gp=g:=by have:=hsl.2.1;omega
  have HNX:=hid (fun(W:World) (hk:Keep Any wr W)=>next_any q HQ.out.1 (by have:=HQ.out.2;omega) W g a len cap (srckept HSR.out hk trivial) (Rd.keep HRR.out (hk.mono fun _ _=>trivial)));go_upto_region 5 with fail;go_region_held3 (fun w'=>(∀b o,b<wr.heap.size→¬b=gp→¬b=g→w'.cell? ⟨b,o,none⟩=wr.cell? ⟨b,o,none⟩)∧Keep (fun k=>k≠gp∧k≠g) wr w')
   (first|exact ks2_mk (by repeat(first|exact zqK.drew|exact Keep.refl _ _|exact keep2 (by assumption)|refine Keep.drew ?_|refine Keep.alloc ?_ _|refine Keep.setCell ?_ (by simp) _|refine Keep.trans ?_ (keep2 (by assumption)))))
   (first|(go_at_call 52;refine(HNX.out _ (by repeat(first|exact zqK.drew|exact Keep.refl _ _|refine Keep.drew ?_|refine Keep.trans ?_ (Keep.of_below (by assumption))))).mono ?_;rintro e w6 ⟨r,rfl,hr,hS6,hg6'⟩;have hg6:wr.grownBy w6 (some g):=(by first|exact hg6'|exact gr_drewl hg6');have x0:=(row3f ((hg6.block gx hgx hgxg).trans hbx)).1.2.1;have f6:=(slotgrown hsl hg6 hgpg).1;obtain⟨u6,s6⟩:=(slotgrown hsl hg6 hgpg).cell;have hl6:=(slotgrown hsl hg6 hgpg).2.2.1)|fail)
  rename_i hHd;clear hHd;have HX8:=hid (show PX (w.heap.size+1) 3 ((w6.alloc (.cells #[.int .i64 0,.int .i64 0,.int .i64 (r:Int)] 2)).setCell ⟨gp,1,none⟩ (.slice (some ⟨w6.heap.size,0,none⟩) 3 3)) gx (.slice x1 3 y1) (.slice (some ⟨gp,0,none⟩) 3 y2) (.slice (some ⟨gc,0,none⟩) 3 y3) from
   ((slotgrown hsl hg6 hgpg).below (zqB.alloc zqN _)).put ((pxgrown HX.out hg6 hgpg).below (zqB.alloc zqN _)) (lit_r1 w6 0 0 (r:Int) (by have:=HSZ.out;have:=hg6.size;omega)))
  have hk8:Keep (fun k=>k≠gp) w6 ((w6.alloc (.cells #[.int .i64 0,.int .i64 0,.int .i64 (r:Int)] 2)).setCell ⟨gp,1,none⟩ (.slice (some ⟨w6.heap.size,0,none⟩) 3 3)):=(zqK.alloc _).setCell (by simp) _;have HSR8:=hid (srckept hS6 hk8 (fun e=>hgpn e.symm));have HG8:=hid (show w.grownBy ((w6.alloc (.cells #[.int .i64 0,.int .i64 0,.int .i64 (r:Int)] 2)).setCell ⟨gp,1,none⟩ (.slice (some ⟨w6.heap.size,0,none⟩) 3 3)) (some g) from
   gr_old (gr_tr HGR.out hg6) hk8 (by have:=hsl.2.1;omega))
  have HSZ8:=hid (show w.heap.size+1≤((w6.alloc (.cells #[.int .i64 0,.int .i64 0,.int .i64 (r:Int)] 2)).setCell ⟨gp,1,none⟩ (.slice (some ⟨w6.heap.size,0,none⟩) 3 3)).heap.size from by have:=HSZ.out;have:=hg6.size;simp at this ⊢; omega);have KR8:=hid (show((w6.alloc (.cells #[.int .i64 0,.int .i64 0,.int .i64 (r:Int)] 2)).setCell ⟨gp,1,none⟩ (.slice (some ⟨w6.heap.size,0,none⟩) 3 3)).heap[w.heap.size]?=some zbox from
   (hk8.block _ (by have:=hsl.2.1;omega) (by have:=HSZ.out;have:=hg6.size;omega)).trans ((hg6.block _ (by have:=HSZ.out;first|omega|(simp;omega)) (fun e=>by injection e with e;omega)).trans KR.out))
  have HRR8:=hid (HR.out.grown HG8.out);obtain⟨w8,hw8⟩:∃w8,(w6.alloc (.cells #[.int .i64 0,.int .i64 0,.int .i64 (r:Int)] 2)).setCell ⟨gp,1,none⟩ (.slice (some ⟨w6.heap.size,0,none⟩) 3 3)=w8:=⟨_,rfl⟩;rw[hw8]at HX8 HSR8 HG8 HSZ8 KR8 HRR8;rw[alloc_set _ _ _ _ _ hl6]at hw8;rw[hw8];clear hw8 hk8 HX HSR HGR HSZ KR HRR hsl hg6 hg6' hS6 x0 f6 s6 hl6 HNX p0 p1 p2 hbx hgx hgxg hgxn hgpn hgp hgpg;have HX:=HX8;have HSR:=HSR8;have HGR:=HG8;have HSZ:=HSZ8;have KR:=KR8;have HRR:=HRR8;clear HX8 HSR8 HG8 HSZ8 KR8 HRR8;obtain⟨⟨e0,e1,e2⟩,-⟩:=row3f HX.out.1;obtain⟨⟨f0,f1,f2⟩,q0,q1,q2⟩:=row3f KR.out;have HFIN:=hid (fin_fam (b:=12) (by omega) HX.out HSR.out hgw HGR.out HSZ.out);clear HX HSR HGR HSZ;go_wp2_with fail;obtain⟨⟨z0,z1,z2⟩,-⟩:=row3f (put3 (x:=.slice x1 3 y1) (y:=.slice (some ⟨gp,0,none⟩) 3 y2) (z:=.slice (some ⟨gc,0,none⟩) 3 y3) KR.out);exact zq12 (v:=.agg #[.slice x1 3 y1,.slice (some ⟨gp,0,none⟩) 3 y2,.slice (some ⟨gc,0,none⟩) 3 y3]) (by simp[results,Tryz.results189,go_sem,z0,z1,z2]) rfl HFIN.out
 ·have hri:((r:Int)==0)=false:=by simp;omega
  obtain⟨⟨e0,e1,e2⟩,-⟩:=row3f HX.out.1;obtain⟨⟨f0,f1,f2⟩,q0,q1,q2⟩:=row3f KR.out;have HFIN:=hid (fin_fam (b:=12) (by omega) HX.out HSR.out hgw HGR.out HSZ.out);clear HX HSR HGR HSZ;go_wp2_with fail;obtain⟨⟨z0,z1,z2⟩,-⟩:=row3f (put3 (x:=.slice x1 3 y1) (y:=.slice x2 3 y2) (z:=.slice (some ⟨gc,0,none⟩) 3 y3) KR.out);exact zq12 (v:=.agg #[.slice x1 3 y1,.slice x2 3 y2,.slice (some ⟨gc,0,none⟩) 3 y3]) (by simp[results,Tryz.results189,go_sem,z0,z1,z2]) rfl HFIN.out
end Go.Proofs.YtlmlamcoeegkbaaGreat.DwK
namespace Go.Proofs.YtlmlamcoeegkbaaGreat.DwU
open Go.RowKit Go.Proofs.YtlmlamcoeegkbaaGreat Tow CyA CyB CyC DwT DwB DwD DwF DwI DwJ DwK DwS
open Go.Proofs.YtlmlamcoeegkbaaGreat.DwR (Ty.box Ty.box3)
def Sr (g:Nat)(a:Option Addr)(len cap:Nat)(w W:World):Prop:=CyB.Src W g a len cap∧Rd W g a len∧w.grownBy W (some g)
theorem Sr.drew {g len cap:Nat}{a:Option Addr}{w W:World}(h:Sr g a len cap w W):Sr g a len cap w W.drew:=⟨h.1,h.2.1,gr_drew h.2.2⟩
theorem Sr.next {g len cap:Nat}{a:Option Addr}{w W W':World}(h:Sr g a len cap w W)(hS:CyB.Src W' g a len cap)(hg:W.grownBy W' (some g)):Sr g a len cap w W':=⟨hS,h.2.1.grown hg,gr_tr h.2.2 hg⟩
theorem Sr.tr {g len cap:Nat}{a:Option Addr}{w W W':World}(h:Sr g a len cap w W)(h':Sr g a len cap W W'):Sr g a len cap w W':=⟨h'.1,h'.2.1,gr_tr h.2.2 h'.2.2⟩
theorem Sr.lt {g len cap:Nat}{a:Option Addr}{w W:World}(h:Sr g a len cap w W):g<W.heap.size:=h.1.lt
theorem Sr.below {g len cap:Nat}{a:Option Addr}{w W W':World}(h:Sr g a len cap w W)(hb:Below W.heap.size W W'):Sr g a len cap w W':=
 h.next (srckept h.1 (Keep.of_below (S:=Any) hb) trivial) (gr_below hb)
theorem Sr.alloc {g len cap:Nat}{a:Option Addr}{w W:World}(h:Sr g a len cap w W)(o:Obj):Sr g a len cap w (W.alloc o):=h.below (zqB.alloc zqN _)
theorem Sr.ha {g len cap:Nat}{a:Option Addr}{w W:World}(h:Sr g a len cap w W)(q o:Nat)(hl:0<len)(e:a=some ⟨q,o,none⟩):q<W.heap.size:=by
 obtain⟨q',o',z,h1,h2,h3,h4⟩:=h.2.1 0 hl;rw[e]at h1;injection h1 with h1;injection h1 with h1;omega
theorem Sr.own {g len cap:Nat}{a:Option Addr}{r:Option Nat}{w W W':World}(h:Sr g a len cap w W)(hw:Sr g a len cap w w)(h':W.grownBy W' r)(hr:∀k,r=some k→w.heap.size≤k):Sr g a len cap w W':=by
 have hk:Keep (fun k=>k<w.heap.size) W W':=Keep.grown h' fun k hk e=>by have:=hr k e.symm;omega
 refine⟨srckept h.1 hk hw.lt,fun k hk'=>?_,⟨h'.os.trans h.2.2.os,h'.tape.trans h.2.2.tape,h'.output.trans h.2.2.output,zq11 h.2.2.size h'.size,fun j hj hne=>(hk.block j hj (zq7 hj h.2.2.size)).trans (h.2.2.block j hj hne)⟩⟩;obtain⟨q,o,z,h1,h2,h3,h4,h5⟩:=h.2.1 k hk';exact⟨q,o,z,h1,h2,zq7 h3 h'.size,(hk.cell (hw.ha q o (by omega) h1) h3).trans h4,h5⟩
theorem Sr.set {g len cap b i:Nat}{a:Option Addr}{w W:World}(h:Sr g a len cap w W)(hw:Sr g a len cap w w)(hb:w.heap.size≤b)(u:Value):Sr g a len cap w (W.setCell ⟨b,i,none⟩ u):=
 h.own hw (gr_set (g:=b) (gr_refl W _) u) fun k e=>by injection e with e;omega
theorem Sr.set3 {g len cap b:Nat}{a:Option Addr}{w W:World}(h:Sr g a len cap w W)(hw:Sr g a len cap w w)(hb:w.heap.size≤b)(x y z:Value):Sr g a len cap w (((W.setCell ⟨b,0,none⟩ x).setCell ⟨b,1,none⟩ y).setCell ⟨b,2,none⟩ z):=
 ((h.set hw hb x).set hw hb y).set hw hb z
def NxS (x:Int)(g:Nat)(a:Option Addr)(len cap:Nat)(W:World)(e:Ending)(W':World):Prop:=∃r:Nat,e= .returned (.int .i64 (r:Int))∧((2≤x∧(r:Int)<x)∨(x<2∧r=0))∧Sr g a len cap W W'
theorem nx_any (x:Int)(g:Nat)(a:Option Addr)(len cap:Nat)(w W:World)(h:Sr g a len cap w W):
  Calls Tryz.prog 52 #[.pointer (some ⟨g,0,none⟩),.int .i64 x] W (NxS x g a len cap W):=by
 by_cases h2:2≤x
 ·obtain⟨n,rfl⟩:∃n:Nat,x=n:=⟨x.toNat,by omega⟩;refine(CyB.next_l n (by omega) W g a len cap h.1 h.2.1).mono ?_;rintro e W' ⟨r,rfl,hr,hS,hg⟩;exact⟨r,rfl,.inl ⟨h2,by omega⟩,hS,h.2.1.grown hg,hg⟩
 ·refine(next_small x (by omega) W g).mono ?_;rintro e W' ⟨rfl,rfl⟩;exact⟨0,rfl,.inr ⟨by omega,rfl⟩,h.1,h.2.1,gr_refl _ _⟩
def PkS (L:List Int)(g:Nat)(a:Option Addr)(len cap:Nat)(W:World)(e:Ending)(W':World):Prop:=∃x:Int,x∈L∧e= .returned (.int .i64 x)∧Sr g a len cap W W'
theorem pk_any (L:List Int)(m:Nat)(hm:L.length=m)(hm2:2≤m)(hm8:m≤12)(g:Nat)(a:Option Addr)(len cap:Nat)(w W:World)(h:Sr g a len cap w W):
  Calls Tryz.prog 74 #[.pointer (some ⟨g,0,none⟩),.slice (some ⟨W.heap.size,0,none⟩) m m] (W.alloc (.cells (L.map (Value.int .i64)).toArray 2)) (PkS L g a len cap (W.alloc (.cells (L.map (Value.int .i64)).toArray 2))):=by
 subst hm;have h':=h.alloc (.cells (L.map (Value.int .i64)).toArray 2);refine(pick_any L _ rfl hm2 hm8 _ W.heap.size g a len cap (lit_sl h.lt (by omega)) h'.1 h'.2.1).mono ?_;rintro e W' ⟨x,hx,rfl,hS,hg⟩;exact⟨x,hx,rfl,hS,h'.2.1.grown hg,hg⟩
def UnR (b:Nat)(w:World)(e:Ending)(w':World):Prop:=∃(N:Nat) (x1 x2 x3:Option Addr) (y1 y2 y3:Nat),N≤b∧e= .returned (.agg #[.slice x1 N y1,.slice x2 N y2,.slice x3 N y3])∧PT w.heap.size w' N (.slice x1 N y1) (.slice x2 N y2) (.slice x3 N y3)∧Below w.heap.size w w'
theorem TrivR.un {N b:Nat}{w w':World}{e:Ending}(h:TrivR N w e w')(hN:N≤b):UnR b w e w':=by
 obtain⟨vO,vP,vC,rfl,hp,hb⟩:=h;obtain⟨x1,y1,x2,y2,x3,y3,rfl,rfl,rfl⟩:=hp.form;exact⟨N,_,_,_,_,_,_,hN,rfl,hp,hb⟩
theorem DrwR.un {b:Nat}{w w':World}{e:Ending}(h:DrwR b w e w'):UnR b w e w':=by
 obtain⟨N,hN,h⟩:=h;exact TrivR.un h hN
theorem triv_l (L:List Int)(m:Nat)(hm:L.length=m)(h12:m≤12)(w:World):Calls Tryz.prog 96 #[.slice (some ⟨w.heap.size,0,none⟩) m m] (w.alloc (.cells (L.map (Value.int .i64)).toArray 2)) (UnR 12 (w.alloc (.cells (L.map (Value.int .i64)).toArray 2))):=by
 subst hm;refine(triv_any L _ _ (DwD.sl_own (Own_lit (B:=0) w _ L (zq4 _) (by unfold maxLen;omega) (by simp[vals])) rfl) (by omega)).mono ?_;exact fun e w' h=>TrivR.un h h12
theorem tab_any (k:Nat)(hk:k<10)(w:World):Calls Tryz.prog 191 #[.int .i64 (k:Int)] w (UnR 12 w):=by
 obtain⟨w1,hw1⟩:∃w1,w1=w.alloc zbox:=⟨_,rfl⟩;obtain⟨g0,hg0⟩:∃g0,w.heap.size=g0:=⟨_,rfl⟩;have HB1:=hid (show Below w.heap.size w w1 by rw[hw1];exact zqB.alloc zqN _);have HS1:=hid (show w1.heap.size=g0+1 by rw[hw1,←hg0];simp);have HR:=hid (fun(W:World) (hb:Below w1.heap.size w1 W)=>show W.heap[g0]?=some zbox∧g0<W.heap.size from
  ⟨(hb.block g0 (by rw[HS1.out];omega)).trans (by rw[hw1,←hg0];exact zq17 _ _),by have:=hb.size;rw[HS1.out]at this;omega⟩)
 have HG:=hid hg0;have HF:=hid (fun(W:World) (hb:Below w1.heap.size w1 W) (N:Nat) (hN:N≤12) (x1 x2 x3:Option Addr) (y1 y2 y3:Nat) (hP:PT w1.heap.size W N (.slice x1 N y1) (.slice x2 N y2) (.slice x3 N y3))=>show UnR 12 w (.returned (.agg #[.slice x1 N y1,.slice x2 N y2,.slice x3 N y3])) (((W.setCell ⟨g0,0,none⟩ (.slice x1 N y1)).setCell ⟨g0,1,none⟩ (.slice x2 N y2)).setCell ⟨g0,2,none⟩ (.slice x3 N y3)) from
  ⟨N,_,_,_,_,_,_,hN,rfl,(hP.ty (Ty.box3 (HR.out W hb).1)).mono HB1.out.size,below3 (HB1.out.trans (hb.mono HB1.out.size)) (Nat.le_of_eq HG.out) _ _ _⟩)
 have HT1:=hid (fun(W:World)=>show Calls Tryz.prog 96 #[.slice (some ⟨W.heap.size,0,none⟩) 1 1] (W.alloc (.cells #[.int .i64 2] 2)) (UnR 12 (W.alloc (.cells #[.int .i64 2] 2))) from triv_l [2] 1 rfl (by omega) W);have hk:k=0∨k=1∨k=2∨k=3∨k=4∨k=5∨k=6∨k=7∨k=8∨k=9:=by omega
 have HW:=hid (And.intro hw1 hg0);clear hw1 hg0;rcases hk with rfl|rfl|rfl|rfl|rfl|rfl|rfl|rfl|rfl|rfl;all_goals
  go_enter Tryz.func191,Tryz.ntmps191;go_upto_region 1 with fail;rw[←HW.out.1,HW.out.2];go_upto_region 3 with(go_at_call 222;refine(par_t _ (by decide) _).mono ?_;rintro e w2 ⟨N,x1,x2,x3,y1,y2,y3,c,hN,rfl,hp,hb⟩);have HN:=hid hN;have HB2:=hid (show Below w1.heap.size w1 w2 from((zq3 _ w1).alloc zqN _).trans (hb.mono (by simp)));have HX:=hid (show PX w1.heap.size N (w2.alloc (.cells #[.slice x1 N y1,.slice x2 N y2,.slice x3 N y3] 28)) w2.heap.size (.slice x1 N y1) (.slice x2 N y2) (.slice x3 N y3) from box_new (hp.mono (by simp)) zqN HB2.out.size);have HB3:=hid (show Below w1.heap.size w1 (w2.alloc (.cells #[.slice x1 N y1,.slice x2 N y2,.slice x3 N y3] 28)) from HB2.out.alloc HB2.out.size _);clear hN hp hb;obtain⟨w3,hw3⟩:∃w3,w3=w2.alloc (.cells #[.slice x1 N y1,.slice x2 N y2,.slice x3 N y3] 28):=⟨_,rfl⟩;rw[←hw3]at HX HB3 ⊢;obtain⟨g7,hg7⟩:∃g7,w2.heap.size=g7:=⟨_,rfl⟩;rw[hg7]at HX ⊢;clear hw3 hg7 HB2;obtain⟨⟨d0,d1,d2⟩,f0,f1,f2⟩:=row3f HX.out.1;have hgl:=HX.out.lt;have hne:¬g7=g0:=by have h1:=HS1.out;have h2:=HX.out.2.1;omega
  by_cases hc:c=0
  ·have hci:(c !=0)=false:=by rw[hc];rfl
   obtain⟨⟨e0,e1,e2⟩,r0,r1,r2⟩:=row3f (HR.out w3 HB3.out).1;have hgr:=(HR.out w3 HB3.out).2;clear hc;go_wp2_with fail;obtain⟨⟨z0,z1,z2⟩,-⟩:=row3f (put3 (x:=.slice x1 N y1) (y:=.slice x2 N y2) (z:=.slice x3 N y3) (HR.out w3 HB3.out).1);exact zq12 (v:=.agg #[.slice x1 N y1,.slice x2 N y2,.slice x3 N y3]) (by simp[results,Tryz.results191,go_sem,z0,z1,z2]) rfl (HF.out _ HB3.out N HN.out _ _ _ _ _ _ HX.out.2.2)
  ·have hci:(c !=0)=true:=bne_iff_ne.2 hc;clear hc;go_upto_region 5 with(go_at_call 96;refine(HT1.out _).mono ?_;rintro e w5 ⟨M,X1,X2,X3,Y1,Y2,Y3,hM,rfl,hp,hb⟩;have HB5:=hid (show Below w3.heap.size w3 w5 from((zq3 _ w3).alloc zqN _).trans (hb.mono (by simp)));have HP5:=hid hp;have HM:=hid hM;have hX5:=HX.out.below HB5.out;obtain⟨⟨u0,u1,u2⟩,r0,r1,r2⟩:=row3f hX5.1;have hgl5:=hX5.lt;clear hp hb hM hX5);have HX5:=hid (show PX w1.heap.size M (((w5.setCell ⟨g7,0,none⟩ (.slice X1 M Y1)).setCell ⟨g7,1,none⟩ (.slice X2 M Y2)).setCell ⟨g7,2,none⟩ (.slice X3 M Y3)) g7 (.slice X1 M Y1) (.slice X2 M Y2) (.slice X3 M Y3) from PX.put3 (HX.out.below HB5.out).1 HX.out.2.1 (HP5.out.mono (zq11 HB3.out.size (by simp))));have HB6:=hid (show Below w1.heap.size w1 (((w5.setCell ⟨g7,0,none⟩ (.slice X1 M Y1)).setCell ⟨g7,1,none⟩ (.slice X2 M Y2)).setCell ⟨g7,2,none⟩ (.slice X3 M Y3)) from below3 (HB3.out.trans (HB5.out.mono HB3.out.size)) HX.out.2.1 _ _ _);obtain⟨w6,hw6⟩:∃w6,w6=(((w5.setCell ⟨g7,0,none⟩ (.slice X1 M Y1)).setCell ⟨g7,1,none⟩ (.slice X2 M Y2)).setCell ⟨g7,2,none⟩ (.slice X3 M Y3)):=⟨_,rfl⟩;rw[←hw6]at HX5 HB6 ⊢;clear hw6 d0 d1 d2 f0 f1 f2 r0 r1 r2 u0 u1 u2;obtain⟨⟨d0,d1,d2⟩,-⟩:=row3f HX5.out.1;have hgl6:=HX5.out.lt;obtain⟨⟨e0,e1,e2⟩,r0,r1,r2⟩:=row3f (HR.out w6 HB6.out).1;have hgr:=(HR.out w6 HB6.out).2;go_wp2_with fail;obtain⟨⟨z0,z1,z2⟩,-⟩:=row3f (put3 (x:=.slice X1 M Y1) (y:=.slice X2 M Y2) (z:=.slice X3 M Y3) (HR.out w6 HB6.out).1);exact zq12 (v:=.agg #[.slice X1 M Y1,.slice X2 M Y2,.slice X3 M Y3]) (by simp[results,Tryz.results191,go_sem,z0,z1,z2]) rfl (HF.out _ HB6.out M HM.out _ _ _ _ _ _ HX5.out.2.2)
end Go.Proofs.YtlmlamcoeegkbaaGreat.DwU
namespace Go.Proofs.YtlmlamcoeegkbaaGreat.DwW
open Go.RowKit Go.Lib Go.Proofs.YtlmlamcoeegkbaaGreat Tow CyA CyB CyC DwT DwB DwD
theorem setRow_one {w:World}{g n:Nat}{cur:Array Value}{x:Value}(hg:w.heap[g]?=some (.cells cur 2 (0,0)))(hn:n<cur.size):w.setRow g (cur.toList.take n++[x]++cur.toList.drop (n+1)).toArray=w.setCell ⟨g,n,none⟩ x:=by
 have hv:=(zq10.1 hg).2;unfold World.setRow World.setCell;cases w with
 |mk heap tape drawn os output=>
  congr 1;apply Array.ext
  ·simp
  ·intro k h1 h2;simp only[Array.getElem_modify];split
   ·rename_i hk;subst hk;simp only at hv;rw[hv];simp only[Option.isSome_none,Bool.false_eq_true,if_false,Obj.cells.injEq,and_true];apply Array.ext
    ·simp;omega
    ·intro j h3 h4;simp only[List.getElem_toArray];rw[Array.getElem_setIfInBounds (by simpa using h4)];split
     ·rename_i e;subst e;rw[List.getElem_append_left (by simp;omega),List.getElem_append_right (by simp;omega)];simp
     ·rcases zq36 j n with h|h
      ·rw[List.getElem_append_left (by simp;omega),List.getElem_append_left (by simp;omega)];simp
      ·rw[List.getElem_append_right (by simp;omega)];simp only[List.getElem_drop,zq31,zq75,List.length_singleton,Array.length_toList,Array.getElem_toList];congr 1;omega
   ·rfl
theorem app_ty (w:World)(base:Nat)(ty:TypeId)(n:Nat)(v:Value)(xs:List Value)(hown:w.ownsRow base 2 1 v n xs)(g c:Nat)(x:Int)(hx:w.cell? ⟨g,0,none⟩=some (.int .i64 x))(h63:n+1≤1000000)(hbase:base≤w.heap.size):
  ∃v' w',(Builtin.append_ #[24,24] ty #[v,.slice (some ⟨g,0,none⟩) 1 c]).run Tryz.prog w= .ok v' w'∧w'.ownsRow base 2 1 v' (n+1) (xs++[.int .i64 x])∧w.grownBy w' v.ownBlock∧∀B,Ty B w w':=by
 obtain⟨i0,hi,hz0,hz1,hz2⟩:=zq41 infoI;have ht:=Tryz.underlying24;have hnews:∀j u,[Value.int .i64 x][j]?=some u→w.cell? ((⟨g,0,none⟩:Addr).add j)=some u:=by
  intro j u hu;cases j with
  |zero=>simp at hu;subst hu;simpa[Addr.add]using hx
  |succ j=>simp at hu
 have h1:∀u∈[Value.int .i64 x],u.oneCell'=true:=by simp[Value.oneCell']
 obtain⟨v',w',hr,ho,hg,_⟩:=run_append_own (P:=Tryz.prog) w base 24 ty 2 i0 (.int .i64 0) 1 8 ht hi hz0 hz1 hz2 rfl (by decide) v n xs hown ⟨g,0,none⟩ 1 c [.int .i64 x] rfl hnews h1 (by unfold maxLen;omega) (by omega) hbase;refine⟨v',w',hr,ho,hg,fun B=>?_⟩;have key:∀(v2:Value) (w2:World),(Builtin.append_ #[24,24] ty #[v,.slice (some ⟨g,0,none⟩) 1 c]).run Tryz.prog w= .ok v2 w2→Ty B w w2→Ty B w w':=fun v2 w2 h2 h3=>by
  rw[hr]at h2;injection h2 with _ h2;rw[h2];exact h3
 have hal:∀o,Ty B w (w.drew.alloc o):=fun o=>Ty.keep (S:=Any) (((Keep.refl _ w).drew).alloc o) fun _ _=>trivial;rcases id hown.2 with⟨rfl,rfl⟩|⟨gr,cap,cur,rfl,hbg,hgr,hnc,hcm,hcs,htake⟩
 ·exact key _ _ (run_append_nil (P:=Tryz.prog) w 24 ty 2 i0 (.int .i64 0) ht hi hz0 ⟨g,0,none⟩ 1 c [.int .i64 x] (by rw[hz1];rfl) hnews (by omega) (by omega) (by rw[hz2];omega)) (hal _)
 ·by_cases hroom:n+1≤cap
  ·have hr2:=run_append_room (P:=Tryz.prog) w 24 ty 2 i0 ht hi gr n cap cur hgr ⟨g,0,none⟩ 1 c [.int .i64 x] (by rw[hz1];rfl) hnews h1 hroom (by rw[hz1];simp;omega);rw[hz1,zq100,List.length_singleton,setRow_one hgr (by omega)]at hr2;exact key _ _ hr2 (Ty.set1 hgr x)
  ·have holds:∀j u,xs[j]?=some u→w.cell? ((⟨gr,0,none⟩:Addr).add j)=some u:=hown.cells (g:=gr) rfl;exact key _ _ (run_append_grow (P:=Tryz.prog) w 24 ty 2 i0 (.int .i64 0) ht hi hz0 ⟨gr,0,none⟩ n cap xs (by rw[hz1];exact hown.1) holds ⟨g,0,none⟩ 1 c [.int .i64 x] (by rw[hz1];rfl) hnews (by omega) (by omega) (by rw[hz2];exact growslice_fits (by omega) (by omega))) (hal _)
theorem wpList_app1 {ops:Array Oper}{rest:List Oper}{o:Oper}{a:Act}{w:World}{Q:Exit→Act→World→Prop}(hgd:o.guard=none)(s x:Operand)
  (ho:o.op= .call { callee:=.builtin .append,args:= #[s,x],argTypes:= #[24,24] }) (base n g c:Nat) (v:Value) (xs:List Value) (y:Int) (hs:a.eval s=v) (hown:w.ownsRow base 2 1 v n xs)
  (hx:a.eval x= .slice (some ⟨g,0,none⟩) 1 c) (hy:w.cell? ⟨g,0,none⟩=some (.int .i64 y)) (h63:n+1≤1000000) (hbase:base≤w.heap.size)
  (h:∀v' w',w'.ownsRow base 2 1 v' (n+1) (xs++[.int .i64 y])→w.grownBy w' v.ownBlock→(∀B,Ty B w w')→wpList Tryz.prog ops Q rest (a.put o.dst v') w'):wpList Tryz.prog ops Q (o::rest) a w:=by
 refine wpList_plain hgd fun K hK=>?_;obtain⟨v',w',hr,h2,h3,h4⟩:=app_ty w base o.type n v xs hown g c y hy h63 hbase;unfold Oper.wp execOp;simp only[ho,resolve,invoke,builtin,Sem.run_bind,Sem.run_pure,zq122,zq132,zq81,zq129,hs,hx,hr];exact hK _ _ (h v' w' h2 h3 h4)
def A1 (B:Nat)(w:World)(v:Value):Prop:=∃n,n≤100∧R1 B w n v
def A2 (B:Nat)(w:World)(k:Nat)(v:Value):Prop:=∃us:List Value,us.length=k∧w.ownsRow B 24 1 v k us∧∀(i:Nat) u,us[i]?=some u→A1 B w u
def A3 (B:Nat)(w:World)(K:List Nat)(v:Value):Prop:=∃us:List Value,us.length=K.length∧w.ownsRow B 25 1 v K.length us∧∀(i:Nat) u k,us[i]?=some u→K[i]?=some k→A2 B w k u
structure TyA (B:Nat)(w w':World):Prop where
 one:∀v,A1 B w v→A1 B w' v
 two:∀k v,A2 B w k v→A2 B w' k v
 three:∀K v,A3 B w K v→A3 B w' K v
theorem TyA.trans {B:Nat}{a b c:World}(h:TyA B a b)(g:TyA B b c):TyA B a c:=⟨fun v x=>g.one v (h.one v x),fun k v x=>g.two k v (h.two k v x),fun k v x=>g.three k v (h.three k v x)⟩
theorem TyA.mk' {B:Nat}{w w':World}(h1:∀n v,R1 B w n v→R1 B w' n v)
  (h2:∀(n:Nat) (v:Value) us,w.ownsRow B 24 1 v n us→us.length=n→∃us',w'.ownsRow B 24 1 v n us'∧us'.length=n∧∀(i:Nat) u',us'[i]?=some u'→us[i]?=some u'∨A1 B w' u')
  (h3:∀(n:Nat) (v:Value) us,w.ownsRow B 25 1 v n us→w'.ownsRow B 25 1 v n us):TyA B w w':=by
 have k1:∀v,A1 B w v→A1 B w' v:=fun v ⟨n,a,b⟩=>⟨n,a,h1 n v b⟩;have k2:∀k v,A2 B w k v→A2 B w' k v:=fun k v ⟨us,a,b,c⟩=>by
  obtain⟨us',b',a',d⟩:=h2 k v us b a;exact⟨us',a',b',fun i u hu=>(d i u hu).elim (fun h=>k1 _ (c i u h)) id⟩
 exact⟨k1,k2,fun K v ⟨us,a,b,c⟩=>⟨us,a,h3 _ v us b,fun i u k hu hk=>k2 k u (c i u k hu hk)⟩⟩
theorem TyA.other {B b i:Nat}{w:World}{c:Value}{t:TypeId}{cur:Array Value}(hb:w.heap[b]?=some (.cells cur t (0,0)))(h1:t≠2)(h2:t≠24)(h3:t≠25):TyA B w (w.setCell ⟨b,i,none⟩ c):=
 TyA.mk' (fun n v h=>h.other hb h1) (fun n v us h hl=>⟨us,owns_other h hb h2.symm,hl,fun i u hu=>.inl hu⟩) fun n v us h=>owns_other h hb h3.symm
theorem TyA.set2 {B b i:Nat}{w:World}{cur:Array Value}{u:Value}(hb:w.heap[b]?=some (.cells cur 24 (0,0)))(hu:A1 B w u):TyA B w (w.setCell ⟨b,i,none⟩ u):=by
 obtain⟨m,hm,hu⟩:=hu;refine TyA.mk' (fun n v h=>h.other hb (by decide)) (fun n v us h hl=>?_) fun n v us h=>owns_other h hb (by decide);obtain⟨us',e1,e2⟩:=owns_same (b:=b) (i:=i) (c:=u) h;have hl':us'.length=n:=by have:=e1.1;omega
 refine⟨us',e1,hl',fun j x hx=>?_⟩;have hj:=(zq2.1 hx).1;rcases e2 j _ (zq0 (show j<us.length by omega))with h6|⟨_,rfl,h7⟩
 ·rw[hx]at h6;exact .inl (h6▸zq0 _)
 ·rw[hx]at h7;injection h7 with h7;exact .inr ⟨m,hm,by rw[h7];exact hu.other hb (by decide)⟩
theorem A2.of {B:Nat}{L:List Nat}{w:World}{v:Value}(h:R2 B w L v)(hL:∀n∈L,n≤100):A2 B w L.length v:=by
 obtain⟨us,h1,h2⟩:=h;have hl:us.length=L.length:=by have:=h1.1;omega
 refine⟨us,hl,h1,fun i u hu=>?_⟩;have hi:=(zq2.1 hu).1;obtain⟨u',e1,e2⟩:=h2 i _ (zq0 (by omega));rw[hu]at e1;injection e1 with e1;exact⟨_,hL _ (zq76 _),e1▸e2⟩
theorem A3.of {B:Nat}{M:List (List Nat)}{w:World}{v:Value}(h:R3 B w M v)(hM:∀L∈M,∀n∈L,n≤100):A3 B w (M.map List.length) v:=by
 obtain⟨us,h1,h2⟩:=h;have hl:us.length=M.length:=by have:=h1.1;omega
 refine⟨us,by rw[zq18];exact hl,by rw[zq18];exact h1,fun i u k hu hk=>?_⟩;have hi:=(zq2.1 hu).1;obtain⟨u',e1,e2⟩:=h2 i _ (zq0 (by omega));rw[hu]at e1;injection e1 with e1;simp only[zq20,zq0 (show i<M.length by omega),Option.map_some,zq42]at hk;rw[←hk,e1];exact A2.of e2 (hM _ (zq76 _))
theorem A3.set3 {B b i k:Nat}{K:List Nat}{w:World}{cur:Array Value}{u v:Value}(hb:w.heap[b]?=some (.cells cur 25 (0,0)))(hu:A2 B w k u)(h:A3 B w K v):∃K',A3 B (w.setCell ⟨b,i,none⟩ u) K' v:=by
 have k2:∀k v,A2 B w k v→A2 B (w.setCell ⟨b,i,none⟩ u) k v:=fun k v ⟨us,a,b,c⟩=>⟨us,a,owns_other b hb (by decide),fun i u hu=>by
  obtain⟨n,h1,h2⟩:=c i u hu;exact⟨n,h1,h2.other hb (by decide)⟩⟩
 obtain⟨us,a,h1,c⟩:=h;obtain⟨us',e1,e2⟩:=owns_same (b:=b) (i:=i) (c:=u) h1;have hl':us'.length=K.length:=by have:=e1.1;omega
 have hz:∀j:Fin us'.length,∃m,A2 B (w.setCell ⟨b,i,none⟩ u) m (us'[j.1]'j.2):=fun j=>by
  have hj:j.1<us.length:=by have:=j.2;omega
  rcases e2 j.1 _ (zq0 hj)with h6|⟨_,_,h7⟩
  ·obtain⟨_,h6⟩:=zq2.1 h6;exact⟨_,by rw[h6];exact k2 _ _ (c j.1 _ _ (zq0 hj) (zq0 (by omega)))⟩
  ·obtain⟨_,h7⟩:=zq2.1 h7;exact⟨k,by rw[h7];exact k2 _ _ hu⟩
 refine⟨(List.finRange us'.length).map fun j=>Classical.choose (hz j),us',by simp,by simpa[hl']using e1,fun j x m hx hm=>?_⟩;simp only[zq20,zq46]at hm;obtain⟨q,hq,rfl⟩:=hm;obtain⟨hl2,e⟩:=zq2.1 hq;simp only[List.length_finRange]at hl2;have e2:j=q.1:=by rw[←e];simp
 subst e2;obtain⟨_,e3⟩:=zq2.1 hx;rw[←e3];exact zq86 (hz q)
theorem A1.mono {B B':Nat}{w:World}{v:Value}(h:A1 B w v)(hB:B'≤B):A1 B' w v:=by obtain⟨n,h0,h⟩:=h;exact⟨n,h0,h.mono hB⟩
theorem A2.mono {B B' k:Nat}{w:World}{v:Value}(h:A2 B w k v)(hB:B'≤B):A2 B' w k v:=by obtain⟨us,a,b,c⟩:=h;exact⟨us,a,ownsRow_mono b hB,fun i u hu=>(c i u hu).mono hB⟩
theorem A3.mono {B B':Nat}{K:List Nat}{w:World}{v:Value}(h:A3 B w K v)(hB:B'≤B):A3 B' w K v:=by obtain⟨us,a,b,c⟩:=h;exact⟨us,a,ownsRow_mono b hB,fun i u k hu hk=>(c i u k hu hk).mono hB⟩
def PA (B:Nat)(w:World)(vO vP vC:Value):Prop:=A1 B w vO∧(∃k,A2 B w k vP)∧∃K,A3 B w K vC
theorem PA.ty {B:Nat}{w w':World}{vO vP vC:Value}(h:PA B w vO vP vC)(ht:TyA B w w'):PA B w' vO vP vC:=⟨ht.one _ h.1,h.2.1.imp fun k h=>ht.two k _ h,h.2.2.imp fun k h=>ht.three k _ h⟩
theorem PA.mono {B B':Nat}{w:World}{x y z:Value}(h:PA B w x y z)(hB:B'≤B):PA B' w x y z:=⟨h.1.mono hB,h.2.1.imp fun k h=>h.mono hB,h.2.2.imp fun k h=>h.mono hB⟩
theorem PA.of {B n:Nat}{w:World}{vO vP vC:Value}(hn:n≤100)(h:PT B w n vO vP vC):PA B w vO vP vC:=
 ⟨⟨_,hn,h.1⟩,⟨_,A2.of h.2.1 fun m hm=>by rw[(zq82.1 hm).2];exact hn⟩,⟨_,A3.of h.2.2 fun L hL m hm=>by
  obtain⟨i,_,rfl⟩:=zq35.1 hL;rw[(zq82.1 hm).2];exact hn⟩⟩
end Go.Proofs.YtlmlamcoeegkbaaGreat.DwW
