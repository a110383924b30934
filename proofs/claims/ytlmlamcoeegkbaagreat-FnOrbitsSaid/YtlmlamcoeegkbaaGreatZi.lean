import Derived.Test.YtlmlamcoeegkbaaGreatZ0
import Derived.Test.YtlmlamcoeegkbaaGreatZh
import Derived.Test.YtlmlamcoeegkbaaGreatZg
/-
  Lemmas for the law FnOrbits, in short spelling.
-/
open Go.Lib (hid)
set_option linter.unusedVariables false
set_option linter.unusedSimpArgs false
set_option maxRecDepth 100000
set_option maxHeartbeats 40000000
namespace Go.Proofs.YtlmlamcoeegkbaaGreat.DwO
open Go.RowKit Go.Proofs.YtlmlamcoeegkbaaGreat Tow CyA CyB CyC DwT DwB DwC DwD DwE DwF DwH
def FoP (wc w6:World)(g n:Nat)(x y:Value):Prop:=w6.heap[g]?=some zbox∧wc.heap.size≤g∧R1 wc.heap.size w6 n x∧R2 wc.heap.size w6 (List.replicate n n) y∧Below wc.heap.size wc w6
def FoN (wc w6:World)(n:Nat)(x y:Value):Prop:=R1 wc.heap.size w6 n x∧R2 wc.heap.size w6 (List.replicate n n) y∧Below wc.heap.size wc w6
abbrev FoR (wc W:World)(n:Nat)(p:Value):Prop:=∃g x1 y1 x2 y2,p= .pointer (some ⟨g,0,none⟩)∧Hid (TT wc.heap.size n W g (.slice x1 n y1) (.slice x2 n y2) (.slice none 0 0) n 0)∧Hid (Below wc.heap.size wc W)
theorem tt_mk {B n g:Nat}{W:World}{vO vP:Value}(h:W.heap[g]?=some (.cells #[vO,vP,.slice none 0 0] 28 (0,0)))(hB:B≤g)(hO:R1 B W n vO)(hP:R2 B W (List.replicate n n) vP):TT B n W g vO vP (.slice none 0 0) n 0:=by
 obtain⟨us,p1,p2⟩:=hP;rw[zq29]at p1;exact⟨h,hB,hO,⟨us,p1,fun i u hu=>by
  have hi:=(zq2.1 hu).1;have:=p1.1;obtain⟨u',e1,e2⟩:=p2 i n (rep_get (by omega));rw[hu]at e1;injection e1 with e1;rw[e1];exact e2⟩,[],zq56 _ _ _ _,fun i u hu=>by simp at hu⟩
theorem fo_put {wc w6:World}{g n y1 y2:Nat}{x1 x2:Option Addr}(h:FoP wc w6 g n (.slice x1 n y1) (.slice x2 n y2)):
  FoR wc (((w6.setCell ⟨g,0,none⟩ (.slice x1 n y1)).setCell ⟨g,1,none⟩ (.slice x2 n y2)).setCell ⟨g,2,none⟩ (.slice none 0 0)) n (.pointer (some ⟨g,0,none⟩)):=by
 obtain⟨h1,h2,h3,h4,h5⟩:=h;have e1:(w6.setCell ⟨g,0,none⟩ (.slice x1 n y1)).heap[g]?=some (.cells #[.slice x1 n y1,.slice none 0 0,.slice none 0 0] 28 (0,0)):=zq60 w6 g 0 _ _ _ h1;have e2:((w6.setCell ⟨g,0,none⟩ (.slice x1 n y1)).setCell ⟨g,1,none⟩ (.slice x2 n y2)).heap[g]?=some (.cells #[.slice x1 n y1,.slice x2 n y2,.slice none 0 0] 28 (0,0)):=zq60 _ g 1 _ _ _ e1;exact⟨g,x1,y1,x2,y2,rfl,hid (tt_mk (put3 h1) h2 (((h3.other h1 (by decide)).other e1 (by decide)).other e2 (by decide)) (((h4.other h1 (by decide) (by decide)).other e1 (by decide) (by decide)).other e2 (by decide) (by decide))),hid (((h5.setCell (p:=⟨g,0,none⟩) h2 _).setCell (p:=⟨g,1,none⟩) h2 _).setCell (p:=⟨g,2,none⟩) h2 _)⟩
theorem fo_new {wc w6:World}{n y1 y2:Nat}{x1 x2:Option Addr}(h:FoN wc w6 n (.slice x1 n y1) (.slice x2 n y2)):
  FoR wc (w6.alloc (.cells #[.slice x1 n y1,.slice x2 n y2,.slice none 0 0] 28)) n (.pointer (some ⟨w6.heap.size,0,none⟩)):=by
 obtain⟨h3,h4,h5⟩:=h;have k:=Ty.keep (B:=wc.heap.size) (S:=Any) ((Keep.refl _ w6).alloc (.cells #[.slice x1 n y1,.slice x2 n y2,.slice none 0 0] 28)) fun _ _=>trivial;exact⟨w6.heap.size,x1,y1,x2,y2,rfl,hid (tt_mk (zq17 _ _) h5.size (k.one _ _ h3) (k.two _ _ h4)),hid (h5.alloc h5.size _)⟩
theorem ownp_any (n:Nat)(hn:n≤100)(a1 a2 a3:Option Addr)(c1 c2 c3:Nat)(w:World)(hA:PT 0 w n (.slice a1 n c1) (.slice a2 n c2) (.slice a3 n c3)):
  Calls Tryz.prog 164 #[.agg #[.slice a1 n c1,.slice a2 n c2,.slice a3 n c3]] w (TrivR n w):=by
 obtain⟨j0,ji,jz0,jz1,jz2⟩:=zq41 infoR3;have HA:=hid hA;clear hA;go_enter Tryz.func164,Tryz.ntmps164;go_upto_region 1 with fail;obtain⟨wc,hw1⟩:∃wc,wc=((w.alloc (.cells #[.slice a1 n c1,.slice a2 n c2,.slice a3 n c3] 28)).alloc (.cells #[.slice none 0 0,.slice none 0 0,.slice none 0 0] 28)):=⟨_,rfl⟩;rw[←hw1];have K1:=hid (show wc.heap[w.heap.size]?=some (.cells #[.slice a1 n c1,.slice a2 n c2,.slice a3 n c3] 28 (0,0)) by rw[hw1,zq48 _ _ _ (by simp)];exact zq17 _ _);have K2:=hid (show wc.heap[w.heap.size+1]?=some zbox by rw[hw1];exact new2 w _ _);have HS:=hid (show wc.heap.size=w.heap.size+2 by rw[hw1];simp);have HB:=hid (show Below w.heap.size w wc by rw[hw1];exact(zqB.alloc zqN _).alloc (by simp) _);clear hw1;have HA1:=hid (HA.out.ty (Ty.below HB.out));obtain⟨⟨e0,e1,e2⟩,-⟩:=row3f K1.out;obtain⟨lA,hla,hsA⟩:=HA1.out.1.sl;have HOWN:=hid (fun(W:World) (hk:Keep Any wc W)=>own_r n hn a1 c1 lA hla W ((hsA.mono fun _ _=>trivial).keep hk));have HOW2:=hid (fun(W:World) (hk:Keep Any wc W)=>own2_r n n hn hn a2 c2 W ((Ty.keep hk fun _ _=>trivial).two _ _ HA1.out.2.1));have hw0:w.heap.size<wc.heap.size:=by have:=HS.out;omega
 have HLA:=hid hla;clear hla hsA;obtain⟨wb,rfl⟩:∃wb,wb=wc:=⟨_,rfl⟩;go_cut [3] (fun tv W=>FoR wb W n tv);case rest=>
  obtain⟨g,x1,y1,x2,y2,rfl,hX,hBX⟩:=hcut;rename World=>wq;clear HOWN HOW2 e0 e1 e2 HLA HA;have hgb:=hX.out.hg;go_wp2_with fail;go_loopw [4] (fun iv wr=>∃(i:Nat) (vC:Value),i≤n∧iv= .int .i64 (i:Int)∧Hid (TT wb.heap.size n wr g (.slice x1 n y1) (.slice x2 n y2) vC n i)∧Hid (Below wb.heap.size wb wr)) (fun iv _=>n-(intOf iv).toNat);case atStart=>exact⟨0,_,zq4 _,rfl,hX,hBX⟩
  case round=>
   clear hX hBX;obtain⟨i,vC,hi,rfl,hX,hB⟩:=hrel;have L1:=hid (blk' hB.out hw0 K1.out);obtain⟨⟨e0,e1,e2⟩,-⟩:=row3f L1.out;have HBX:=hid hX.out.bx;have hgl:=hX.out.lt;have hsz:=hB.out.size;have hwl:=zq7 hw0 hsz;obtain⟨us,d1,d2⟩:=hX.out.C;obtain⟨aC,cC,rfl⟩:=owns_form d1;obtain⟨⟨p0,p1,p2⟩,q0,q1,q2⟩:=row3f HBX.out;by_cases hlt:i<n
   ·have hki:(i:Int)<(n:Int):=by omega
    have hki0:(0:Int)≤(i:Int):=by omega
    obtain⟨gq,aq,cq,rfl,hq1,hq2,hq3⟩:=crow HA1.out hlt;have hqw:=((Keep.of_below (S:=Any) hB.out).cell trivial hq2).trans hq1;have hq2':=zq7 hq2 hsz;obtain⟨k,hk⟩:∃k,n-(i+1)=k:=⟨_,rfl⟩;have HK:=hid hk;have hk100:k≤100:=by omega
    rw[hk]at hqw hq3;have HOW2:=hid (fun(W:World) (hw:Keep Any wr W)=>own2_r k n hk100 hn aq cq W ((Ty.keep hw fun _ _=>trivial).two _ _ ((Ty.below hB.out).two _ _ hq3)));have HD1:=hid d1;have HD2:=hid d2;have hne:some g≠(Value.slice aC i cC).ownBlock:=fun e=>owns_ne d1 HBX.out (by decide) e.symm;have hi6:i≤100:=by omega
    have HGB:=hid hX.out.hg;clear hq3 hq1 hk d1 d2 hq2;go_upto_region 5 with fail;go_region_law
     (first|(go_simp;go_at_call 134;refine(HOW2.out _ (by repeat(first|exact zqK.drew|exact Keep.refl _ _|refine Keep.drew ?_|refine Keep.alloc ?_ _|refine Keep.trans ?_ (Keep.of_below (by assumption))))).mono ?_;rintro e w6 ⟨a6,c6,rfl,hr6,hb6⟩;have B6:Below wr.heap.size wr w6:=(by first|exact hb6|exact(zqB.drew).trans hb6);have g6:=blk' B6 hgl HBX.out;obtain⟨⟨z0,z1,z2⟩,r0,r1,r2⟩:=row3f g6;have s6:=B6.size;have hg6:g<w6.heap.size:=zq7 hgl s6)|(refine zq119 _ (by rfl) _ _ _ (by rfl) wb.heap.size 25 j0 (.slice none 0 0) 1 24 Tryz.underlying26 ji jz0 jz1 jz2 rfl (by omega) (.slice aC i cC) i us (by rfl) (ownsRow_keep HD1.out (S:=Any) (((Keep.of_below B6)).trans ((Keep.refl _ w6).alloc _)) (fun _ _=>trivial)) ⟨w6.heap.size,0,none⟩ 1 1 [.slice a6 k c6] (by rfl) (by rfl) (zq50 (cs:= #[.slice a6 k c6]) (t:=25) (fr:=(0,0)) (zq17 w6 _)) (by simp[Value.oneCell']) (by omega) (by unfold maxLen;omega) (by omega) (by simp;omega) _ rfl ?_;intro gg cap w10 hown10 hgrow10 hat10 hlt10;have g10:=(hgrow10.block g (by simp;omega) hne).trans ((zq48 w6 _ g (by omega)).trans g6);obtain⟨⟨m0,m1,m2⟩,n0,n1,n2⟩:=row3f g10))
    all_goals
     have HTY:=hid (show Ty wb.heap.size w6 (w6.alloc (.cells #[.slice a6 k c6] 25)) from Ty.keep (S:=Any) ((Keep.refl _ w6).alloc _) fun _ _=>trivial);have HBW:=hid (show Below wr.heap.size wr (w6.alloc (.cells #[.slice a6 k c6] 25)) from B6.alloc s6 _);have a1:=ownsRow_keep HD1.out (S:=Any) (((Keep.of_below B6)).trans ((Keep.refl _ w6).alloc (.cells #[.slice a6 k c6] 25))) (fun _ _=>trivial);have hr6':R2 wr.heap.size w6 (List.replicate k n) (.slice a6 k c6):=hr6.mono (by first|exact zq1 _|(simp;done));have HAP:=hid (show∀q,(Value.slice x2 n y2).ownBlock=some q→(Value.slice a6 k c6).ownBlock≠some q from fun q h1 h2=>by
      obtain⟨xs,e5,_⟩:=hr6';obtain⟨ys,f5,_⟩:=hX.out.P;have h3:=(zq8 e5 q h2).1;have h4:=(zq8 f5 q h1).2;omega)
     have HN:=hid (TT.con hX.out HBW.out a1 HD2.out (by rw[HK.out];exact HTY.out.two _ _ (hr6'.mono hsz)) HAP.out hown10 hgrow10);have HBN:=hid (((hB.out.trans (HBW.out.mono hsz)).grown hgrow10 (by have:=HBW.out.size;omega) (by intro b hb;exact(zq8 a1 b hb).1)).setCell (p:=⟨g,2,none⟩) HGB.out (.slice (some ⟨gg,0,none⟩) (i+1) cap));clear hown10 hgrow10 hat10 hlt10 a1 g10 hr6 hr6' hb6 B6 HTY HBW hX hB HD1 HD2 HOW2 e0 e1 e2 p0 p1 p2 q0 q1 q2;go_wp2_with fail;go_roundw;case rel=>exact⟨i+1,_,by omega,by go_num,HN,HBN⟩
     case measure=>simp[intOf];omega
   ·obtain rfl:n=i:=by omega
    have hnl:¬(n:Int)<(n:Int):=by omega
    have LG:=hid (blk' hB.out (by have:=HS.out;omega) K2.out);obtain⟨⟨f0,f1,f2⟩,r0,r1,r2⟩:=row3f LG.out;have hgw:w.heap.size+1<wb.heap.size:=by have:=HS.out;omega
    have HFIN:=hid (show TrivR n w (.returned (.agg #[.slice x1 n y1,.slice x2 n y2,.slice aC n cC])) (((wr.setCell ⟨w.heap.size+1,0,none⟩ (.slice x1 n y1)).setCell ⟨w.heap.size+1,1,none⟩ (.slice x2 n y2)).setCell ⟨w.heap.size+1,2,none⟩ (.slice aC n cC)) from by
     refine⟨_,_,_,rfl,?_,?_⟩
     ·exact((hX.out.kept ((((Keep.refl _ wr).setCell (by simp;omega) _).setCell (by simp;omega) _).setCell (by simp;omega) _)).mono (by omega)).pt
     ·exact(((HB.out.trans (hB.out.mono (by omega))).setCell (p:=⟨w.heap.size+1,0,none⟩) (by simp) _).setCell (p:=⟨w.heap.size+1,1,none⟩) (by simp) _).setCell (p:=⟨w.heap.size+1,2,none⟩) (by simp) _)
    clear hX hB d1 d2;go_wp2_with fail;obtain⟨⟨z0,z1,z2⟩,-⟩:=row3f (put3 (x:=.slice x1 n y1) (y:=.slice x2 n y2) (z:=.slice aC n cC) LG.out);exact zq12 (v:=.agg #[.slice x1 n y1,.slice x2 n y2,.slice aC n cC]) (by simp[results,Tryz.results164,go_sem,z0,z1,z2]) rfl HFIN.out
 go_region_law
  (first|(go_simp;go_at_call 97;refine(HOWN.out _ (by repeat(first|exact zqK.drew|exact Keep.refl _ _|refine Keep.drew ?_|refine Keep.alloc ?_ _|refine Keep.trans ?_ (Keep.of_below (by assumption))))).mono ?_;rintro e w2 ⟨gO,cO,rfl,ho2,hb2⟩;have k2:=(show Keep Any wb w2 from(by repeat(first|exact zqK.drew|exact Keep.refl _ _|refine Keep.drew ?_|refine Keep.alloc ?_ _|refine Keep.trans ?_ (Keep.of_below (by assumption)))));have x1:=(k2.cell (b:=w.heap.size) (o:=1) trivial hw0).trans e1;have s2:=k2.size;have hw2:w.heap.size<w2.heap.size:=zq7 hw0 s2;have B2:Below wb.heap.size wb w2:=(by first|exact hb2|exact(zqB.drew).trans hb2|exact((zqB.drew).alloc zqN _).trans (hb2.mono (by simp))|exact(zqB.alloc zqN _).trans (hb2.mono (by simp)));have r2:R1 wb.heap.size w2 n (.slice (some ⟨gO,0,none⟩) n cO):=R1.mono ⟨lA,HLA.out,ho2⟩ (by first|exact zq1 _|(simp;done)|(simp;omega));first|(have A2:w2.heap[wb.heap.size]?=some zbox:=blk' hb2 (by simp) (zq17 _ _);have lA2:=(zq10.1 A2).1)|(have N2:True:=trivial))|(go_simp;go_at_call 134;refine(HOW2.out _ (by repeat(first|exact zqK.drew|exact Keep.refl _ _|refine Keep.drew ?_|refine Keep.alloc ?_ _|refine Keep.trans ?_ (Keep.of_below (by assumption))))).mono ?_;rintro e w6 ⟨a6,c6,rfl,hr6,hb6⟩;have B6:Below wb.heap.size wb w6:=(by first|exact B2.trans (hb6.mono s2)|exact(B2.alloc s2 _).trans (hb6.mono (by simp;omega)));have q6:R2 wb.heap.size w6 (List.replicate n n) (.slice a6 n c6):=R2.mono hr6 (by first|exact s2|(simp;omega));have p6:R1 wb.heap.size w6 n (.slice (some ⟨gO,0,none⟩) n cO):=(Ty.keep (S:=Any) (show Keep Any w2 w6 from(by first|exact Keep.of_below hb6|exact((Keep.refl _ w2).alloc _).trans (Keep.of_below hb6))) fun _ _=>trivial).one _ _ r2;first|(have A6:w6.heap[wb.heap.size]?=some zbox:=blk' hb6 lA2 A2;obtain⟨⟨z0,z1,z2⟩,q0,q1,q2⟩:=row3f A6;have F6:=(show FoP wb w6 _ _ _ _ from⟨A6,zq1 _,p6,q6,B6⟩))|(have D6:w6.heap[w2.heap.size]?=some zbox:=blk' hb6 (by simp) (zq17 _ _);obtain⟨⟨z0,z1,z2⟩,q0,q1,q2⟩:=row3f D6;have F6:=(show FoP wb w6 _ _ _ _ from⟨D6,s2,p6,q6,B6⟩))|(have N6:=(show FoN wb w6 _ _ _ from⟨p6,q6,B6⟩))))
 all_goals
  clear HOWN HOW2;go_wp2_with fail;go_meet;first|exact fo_put F6|exact fo_new N6
end Go.Proofs.YtlmlamcoeegkbaaGreat.DwO
namespace Go.Proofs.YtlmlamcoeegkbaaGreat.DwV
open Go.RowKit Go.Lib Go.Proofs.YtlmlamcoeegkbaaGreat Tow Val CyA CyB CyC DwT DwB DwL DwM
theorem dig_byte (b:UInt8)(g:Nat)(w':World)(h:w'.cell? ⟨g,0,none⟩=some (.int .u8 (b.toNat:Int))):
  (convert 22 9 (.slice (some ⟨g,0,none⟩) 1 1)).run Tryz.prog w'= .ok (.string ⟨#[b]⟩) w':=by
 refine run_convert_bytes_back (P:=Tryz.prog) w' 22 9 5 ⟨g,0,none⟩ 1 [b] Tryz.underlying22 Tryz.underlying5 Tryz.underlying9 ?_;intro j hj;have hj0:j=0:=by simp at hj;omega
 subst hj0;rw[show(Addr.add ⟨g,0,none⟩ 0)=⟨g,0,none⟩ by simp[Addr.add],h];simp
attribute [local go_sem ↓] Go.wp_at_zero Go.wp_at_succ
theorem dec_low (x:Int)(h:x<10)(w:World):Calls Tryz.prog 239 #[.int .i64 x] w (StrR 1 w):=by
 obtain⟨b,hb⟩:=u8_of (wrap64 (48+x));have hob:=dig_byte b;go_enter Tryz.func239,Tryz.ntmps239;go_wp2_with fail;go_ret;exact⟨_,rfl,zq1 _,zqB.alloc zqN _⟩
theorem dec_step (x:Int)(h:¬x<10)(m:Nat)(hm:m≤100)(w:World)(hr:∀W,Calls Tryz.prog 239 #[.int .i64 (IntKind.i64.wrap (x.tdiv 10))] W (StrR m W)):
  Calls Tryz.prog 239 #[.int .i64 x] w (StrR (m+1) w):=by
 obtain⟨z,hz⟩:∃z,IntKind.i64.wrap (48+x.tmod 10)=z:=⟨_,rfl⟩;obtain⟨b,hb⟩:=u8_of z;have hw:IntKind.u8.wrap z=(b.toNat:Int):=by rw[IntKind.wrap_u8'];exact hb
 have hob:=dig_byte b;have IH:=hid hr;clear hr hb;go_enter Tryz.func239,Tryz.ntmps239;go_upto_region 3 with fail;go_region_with (first|(go_at_call 239;refine(IH.out _).mono ?_;rintro e w1 ⟨s1,rfl,hz1,hb1⟩;obtain⟨hc1,hf1⟩:=bcell hb1;have q1:(9223372036854775807<s1.size+1)=False:=(eq_false (by omega))));all_goals
  go_wp2_with fail;go_ret;refine⟨_,rfl,(by rw[ByteArray.size_append];show _+1≤_;omega),?_⟩;first
   |exact(zqB.drew.trans hb1).alloc hb1.size _
   |exact(zqB.alloc zqN _).drew.trans (hb1.mono (by simp))
theorem dec_t (x:Int)(w:World):Calls Tryz.prog 239 #[.int .i64 x] w (StrR 21 w):=by
 have key:∀(k:Nat) (x:Int),x<10^(k+1)→x≤9223372036854775807→k<20→∀w,Calls Tryz.prog 239 #[.int .i64 x] w (StrR (k+1) w):=by
  intro k
  induction k with
  |zero=>exact fun x h _ _ w=>dec_low x (by simpa using h) w
  |succ k ih=>
   intro x h hx hk w;by_cases h10:x<10
   ·exact(dec_low x h10 w).mono fun e w' ⟨t,h1,h2,h3⟩=>⟨t,h1,zq11 h2 (by omega),h3⟩
   ·have e:IntKind.i64.wrap (x.tdiv 10)=x/10:=by rw[Int.tdiv_eq_ediv_of_nonneg (by omega)];exact zq6 _ (by omega)
    refine dec_step x h10 (k+1) (by omega) w fun W=>?_;rw[e];rw[Int.pow_succ]at h;exact ih _ (by omega) (by omega) (by omega) W
 by_cases h10:x<10
 ·exact(dec_low x h10 w).mono fun e w' ⟨t,h1,h2,h3⟩=>⟨t,h1,zq11 h2 (by omega),h3⟩
 ·have h1:IntKind.i64.wrap (x.tdiv 10)≤9223372036854775807:=by rw[IntKind.wrap_i64];omega
  exact(dec_step x h10 19 (by omega) w fun W=>key 18 _ (Int.lt_of_le_of_lt h1 (by decide)) h1 (by omega) W).mono fun e w' ⟨t,h1,h2,h3⟩=>⟨t,h1,zq11 h2 (by omega),h3⟩
end Go.Proofs.YtlmlamcoeegkbaaGreat.DwV
