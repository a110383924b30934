import Derived.Test.YtlmlamcoeegkbaaGreatZ0
import Derived.Test.YtlmlamcoeegkbaaGreatZe
import Derived.Test.YtlmlamcoeegkbaaGreatZf
import Derived.Test.YtlmlamcoeegkbaaGreatZE
import Derived.ChangeSlices
import Derived.Deep.Slices
import Derived.Lib.SmallJoins
/-
  Lemmas for the law FnStandardForms, in short spelling.
-/
open Go.Lib (hid)
set_option linter.unusedVariables false
set_option linter.unusedSimpArgs false
set_option maxRecDepth 100000
set_option maxHeartbeats 40000000
namespace Go.Proofs.YtlmlamcoeegkbaaGreat.SfP
open Go.RowKit Go.Proofs.YtlmlamcoeegkbaaGreat AJ DC
open Go.Proofs.YtlmlamcoeegkbaaGreat.DL (Any)
def KE (b:Bool)(w:World)(e:Ending)(w':World):Prop:=e= .returned (.bool b)∧Below w.heap.size w w'
theorem jk {α:Type}{l l':List α}{k:Nat}{x:α}(h:l.take k=l'.take k)(h1:l[k]?=some x)(h2:l'[k]?=some x):l.take (k+1)=l'.take (k+1):=by rw[Jd,Jd,h,h1,h2]
theorem kC {α:Type}{l l':List α}{n:Nat}(h:l.take n=l'.take n)(h1:l.length=n)(h2:l'.length=n):l=l':=by
 rwa[Mf (Nat.le_of_eq h1),Mf (Nat.le_of_eq h2)]at h
theorem mF {α:Type}{l l':List α}{k:Nat}{x y:α}(h1:l[k]?=some x)(h2:l'[k]?=some y)(h:¬x=y):¬l=l':=fun e=>by
 subst e;rw[h1,EN]at h2;exact h h2
theorem zl (w:World)(va vb:Value)(l l':List Int)(ha:AL Any w va l)(hb:AL Any w vb l'):Calls Tryz.prog 24 #[va,vb] w (KE (decide (l=l')) w):=by
 obtain⟨aA,cA,rfl,hlA,IC⟩:=Ob ha;obtain⟨aB,cB,rfl,hlB,Kl⟩:=Ob hb;obtain⟨n,hn⟩:∃n,l.length=n:=⟨_,rfl⟩;obtain⟨m,hm⟩:∃m,l'.length=m:=⟨_,rfl⟩;have HA:=hid ha;have HB:=hid hb;have HN:=hid hn;have HM:=hid hm;rw[hn]at HA hlA ⊢;rw[hm]at HB hlB ⊢;have hn63:(n:Int)≤9223372036854775807:=by unfold maxLen at IC;omega
 clear ha hb hn hm IC Kl hlA hlB;go_enter Tryz.func24,Tryz.ntmps24;by_cases hnm:n=m
 ·subst hnm;have hl2:((n:Int) !=(n:Int))=false:=by simp
  go_wp2_with fail;go_loopw [5] (fun iv wr=>∃k:Nat,k≤n∧iv= .int .i64 (k:Int)∧Hid (l.take k=l'.take k)∧Hid (Below w.heap.size w wr)) (fun iv _=>n-(intOf iv).toNat);case atStart=>exact⟨0,AU _,rfl,hid rfl,hid AR⟩
  case round=>
   obtain⟨k,hk,rfl,hT,hB⟩:=hrel;by_cases hlt:k<n
   ·obtain⟨x,hx⟩:∃x,l[k]?=some x:=⟨_,AP (by rw[HN.out];omega)⟩;obtain⟨y,hy⟩:∃x,l'[k]?=some x:=⟨_,AP (by rw[HM.out];omega)⟩;obtain⟨bA,oA,u,rfl,_,KF,hcA,rfl⟩:=Ej HA.out hx;obtain⟨bB,oB,v,rfl,_,Km,hcB,rfl⟩:=Ej HB.out hy;have hkB:=AA.of_below (S:=Any) hB.out;have RZ:=(hkB.cell (b:=bA) (o:=oA+k) trivial KF).trans hcA;have hcB':=(hkB.cell (b:=bB) (o:=oB+k) trivial Km).trans hcB;have ACI:=Ad KF hkB.size;have ACJ:=Ad Km hkB.size;have hki:(k:Int)<(n:Int):=by omega
    have EP:(0:Int)≤(k:Int):=by omega
    have HX:=hid (And.intro hx hy);clear hx hy hcA hcB hkB;by_cases hxy:x=y
    ·subst hxy;have NB:(x !=x)=false:=by simp
     go_wp2_with fail;go_region_held3 (fun w'=>(∀b o,b<wr.heap.size→w'.cell? ⟨b,o,none⟩=wr.cell? ⟨b,o,none⟩)∧AA (fun _=>True) wr w')
      (first|exact Aj (by repeat(first|exact AB.drew|exact AA.refl _ _|refine AA.trans ?_ (AA.of_below (by assumption)))))
      (fail)
     rename_i hHd;clear hHd;have Ao:=hid ((hB.out).drew);clear RZ hcB' hB;go_wp2_with fail;go_roundw;case rel=>exact⟨k+1,by omega,by go_num,hid (jk hT.out HX.out.1 HX.out.2),Ao⟩
     case measure=>simp[intOf];omega
    ·have NB:(x !=y)=true:=by simp[hxy]
     have HR:=hid (show KE (decide (l=l')) w (.returned (.bool false)) wr.drew from⟨by rw[Dh (mF HX.out.1 HX.out.2 hxy)],hB.out.drew⟩);clear hxy;go_wp2_with fail;go_region_held3 (fun w'=>(∀b o,b<wr.heap.size→w'.cell? ⟨b,o,none⟩=wr.cell? ⟨b,o,none⟩)∧AA (fun _=>True) wr w')
      (first|exact Aj (by repeat(first|exact AB.drew|exact AA.refl _ _|refine AA.trans ?_ (AA.of_below (by assumption)))))
      (fail)
     rename_i hHd;clear hHd;go_wp2_with fail;go_ret;exact HR.out
   ·obtain rfl:k=n:=by omega
    have HR:=hid (show KE (decide (l=l')) w (.returned (.bool true)) wr from⟨by rw[En (kC hT.out HN.out HM.out)],hB.out⟩);clear hB hT;go_wp2_with fail;go_ret;exact HR.out
 ·have hl2:((n:Int) !=(m:Int))=true:=by simp;omega
  have HR:=hid (show KE (decide (l=l')) w (.returned (.bool false)) w from⟨by rw[Dh (fun e=>hnm (by rw[←HN.out,←HM.out,e]))],Ag _ _⟩);clear hnm;go_wp2_with fail;go_ret;exact HR.out
theorem zm (w:World)(va vb:Value)(l l':List (List Int))(ha:AV Any w va l)(hb:AV Any w vb l'):Calls Tryz.prog 15 #[va,vb] w (KE (decide (l=l')) w):=by
 obtain⟨aA,cA,rfl,hlA,IC⟩:=Ob ha;obtain⟨aB,cB,rfl,hlB,Kl⟩:=Ob hb;obtain⟨n,hn⟩:∃n,l.length=n:=⟨_,rfl⟩;obtain⟨m,hm⟩:∃m,l'.length=m:=⟨_,rfl⟩;have HA:=hid ha;have HB:=hid hb;have HN:=hid hn;have HM:=hid hm;have HI:=hid (fun W u v x y h1 h2=>zl W u v x y h1 h2);rw[hn]at HA hlA ⊢;rw[hm]at HB hlB ⊢;have hn63:(n:Int)≤9223372036854775807:=by unfold maxLen at IC;omega
 clear ha hb hn hm IC Kl hlA hlB;go_enter Tryz.func15,Tryz.ntmps15;by_cases hnm:n=m
 ·subst hnm;have hl2:((n:Int) !=(n:Int))=false:=by simp
  go_wp2_with fail;go_loopw [5] (fun iv wr=>∃k:Nat,k≤n∧iv= .int .i64 (k:Int)∧Hid (l.take k=l'.take k)∧Hid (Below w.heap.size w wr)) (fun iv _=>n-(intOf iv).toNat);case atStart=>exact⟨0,AU _,rfl,hid rfl,hid AR⟩
  case round=>
   obtain⟨k,hk,rfl,hT,hB⟩:=hrel;by_cases hlt:k<n
   ·obtain⟨x,hx⟩:∃x,l[k]?=some x:=⟨_,AP (by rw[HN.out];omega)⟩;obtain⟨y,hy⟩:∃x,l'[k]?=some x:=⟨_,AP (by rw[HM.out];omega)⟩;obtain⟨bA,oA,u,rfl,_,KF,hcA,hu⟩:=Ej HA.out hx;obtain⟨bB,oB,v,rfl,_,Km,hcB,hv⟩:=Ej HB.out hy;have hkB:=AA.of_below (S:=Any) hB.out;have RZ:=(hkB.cell (b:=bA) (o:=oA+k) trivial KF).trans hcA;have hcB':=(hkB.cell (b:=bB) (o:=oB+k) trivial Km).trans hcB;have ACI:=Ad KF hkB.size;have ACJ:=Ad Km hkB.size;have hki:(k:Int)<(n:Int):=by omega
    have EP:(0:Int)≤(k:Int):=by omega
    have HX:=hid (And.intro hx hy);have Gs:=hid (AL.keep hu hkB);have Eu:=hid (AL.keep hv hkB);clear hx hy hcA hcB hkB hu hv;by_cases Kn:x=y
    ·have hxy:decide (x=y)=true:=En Kn;have Lp:=hid Kn;clear Kn;go_wp2_with fail;go_region_held3 (fun w'=>(∀b o,b<wr.heap.size→w'.cell? ⟨b,o,none⟩=wr.cell? ⟨b,o,none⟩)∧AA (fun _=>True) wr w')
      (first|exact Aj (by repeat(first|exact AB.drew|exact AA.refl _ _|refine AA.trans ?_ (AA.of_below (by assumption)))))
      (first|(go_at_call 24;refine(HI.out _ u v x y (Gs.out.keep (by repeat(first|exact AB.drew|exact AA.refl _ _))) (Eu.out.keep (by repeat(first|exact AB.drew|exact AA.refl _ _)))).mono ?_;rintro e w6 ⟨rfl,hb6⟩;rw[hxy]))
     rename_i hHd;clear hHd;have Ao:=hid (hB.out.trans ((((Ag wr.heap.size wr).drew).trans hb6).mono hB.out.size));clear RZ hcB' hB hb6;go_wp2_with fail;go_roundw;case rel=>exact⟨k+1,by omega,by go_num,hid (jk hT.out HX.out.1 (by rw[Lp.out];exact HX.out.2)),Ao⟩
     case measure=>simp[intOf];omega
    ·have hxy:decide (x=y)=false:=Dh Kn;have HF:=hid (show decide (l=l')=false from Dh (mF HX.out.1 HX.out.2 Kn));clear Kn;go_wp2_with fail;go_region_held3 (fun w'=>(∀b o,b<wr.heap.size→w'.cell? ⟨b,o,none⟩=wr.cell? ⟨b,o,none⟩)∧AA (fun _=>True) wr w')
      (first|exact Aj (by repeat(first|exact AB.drew|exact AA.refl _ _|refine AA.trans ?_ (AA.of_below (by assumption)))))
      (first|(go_at_call 24;refine(HI.out _ u v x y (Gs.out.keep (by repeat(first|exact AB.drew|exact AA.refl _ _))) (Eu.out.keep (by repeat(first|exact AB.drew|exact AA.refl _ _)))).mono ?_;rintro e w6 ⟨rfl,hb6⟩;rw[hxy]))
     rename_i hHd;clear hHd;have HR:=hid (show KE (decide (l=l')) w (.returned (.bool false)) w6 from⟨by rw[HF.out],hB.out.trans ((((Ag wr.heap.size wr).drew).trans hb6).mono hB.out.size)⟩);clear RZ hcB' hB hb6;go_wp2_with fail;go_ret;exact HR.out
   ·obtain rfl:k=n:=by omega
    have HR:=hid (show KE (decide (l=l')) w (.returned (.bool true)) wr from⟨by rw[En (kC hT.out HN.out HM.out)],hB.out⟩);clear hB hT;go_wp2_with fail;go_ret;exact HR.out
 ·have hl2:((n:Int) !=(m:Int))=true:=by simp;omega
  have HR:=hid (show KE (decide (l=l')) w (.returned (.bool false)) w from⟨by rw[Dh (fun e=>hnm (by rw[←HN.out,←HM.out,e]))],Ag _ _⟩);clear hnm;go_wp2_with fail;go_ret;exact HR.out
theorem AGP (w:World)(va vb:Value)(l l':List (List (List Int)))(ha:Fu Any w va l)(hb:Fu Any w vb l'):Calls Tryz.prog 37 #[va,vb] w (KE (decide (l=l')) w):=by
 obtain⟨aA,cA,rfl,hlA,IC⟩:=Ob ha;obtain⟨aB,cB,rfl,hlB,Kl⟩:=Ob hb;obtain⟨n,hn⟩:∃n,l.length=n:=⟨_,rfl⟩;obtain⟨m,hm⟩:∃m,l'.length=m:=⟨_,rfl⟩;have HA:=hid ha;have HB:=hid hb;have HN:=hid hn;have HM:=hid hm;have HI:=hid (fun W u v x y h1 h2=>zm W u v x y h1 h2);rw[hn]at HA hlA ⊢;rw[hm]at HB hlB ⊢;have hn63:(n:Int)≤9223372036854775807:=by unfold maxLen at IC;omega
 clear ha hb hn hm IC Kl hlA hlB;go_enter Tryz.func37,Tryz.ntmps37;by_cases hnm:n=m
 ·subst hnm;have hl2:((n:Int) !=(n:Int))=false:=by simp
  go_wp2_with fail;go_loopw [5] (fun iv wr=>∃k:Nat,k≤n∧iv= .int .i64 (k:Int)∧Hid (l.take k=l'.take k)∧Hid (Below w.heap.size w wr)) (fun iv _=>n-(intOf iv).toNat);case atStart=>exact⟨0,AU _,rfl,hid rfl,hid AR⟩
  case round=>
   obtain⟨k,hk,rfl,hT,hB⟩:=hrel;by_cases hlt:k<n
   ·obtain⟨x,hx⟩:∃x,l[k]?=some x:=⟨_,AP (by rw[HN.out];omega)⟩;obtain⟨y,hy⟩:∃x,l'[k]?=some x:=⟨_,AP (by rw[HM.out];omega)⟩;obtain⟨bA,oA,u,rfl,_,KF,hcA,hu⟩:=Ej HA.out hx;obtain⟨bB,oB,v,rfl,_,Km,hcB,hv⟩:=Ej HB.out hy;have hkB:=AA.of_below (S:=Any) hB.out;have RZ:=(hkB.cell (b:=bA) (o:=oA+k) trivial KF).trans hcA;have hcB':=(hkB.cell (b:=bB) (o:=oB+k) trivial Km).trans hcB;have ACI:=Ad KF hkB.size;have ACJ:=Ad Km hkB.size;have hki:(k:Int)<(n:Int):=by omega
    have EP:(0:Int)≤(k:Int):=by omega
    have HX:=hid (And.intro hx hy);have Gs:=hid (AV.keep hu hkB);have Eu:=hid (AV.keep hv hkB);clear hx hy hcA hcB hkB hu hv;by_cases Kn:x=y
    ·have hxy:decide (x=y)=true:=En Kn;have Lp:=hid Kn;clear Kn;go_wp2_with fail;go_region_held3 (fun w'=>(∀b o,b<wr.heap.size→w'.cell? ⟨b,o,none⟩=wr.cell? ⟨b,o,none⟩)∧AA (fun _=>True) wr w')
      (first|exact Aj (by repeat(first|exact AB.drew|exact AA.refl _ _|refine AA.trans ?_ (AA.of_below (by assumption)))))
      (first|(go_at_call 15;refine(HI.out _ u v x y (AV.keep Gs.out (by repeat(first|exact AB.drew|exact AA.refl _ _))) (AV.keep Eu.out (by repeat(first|exact AB.drew|exact AA.refl _ _)))).mono ?_;rintro e w6 ⟨rfl,hb6⟩;rw[hxy]))
     rename_i hHd;clear hHd;have Ao:=hid (hB.out.trans ((((Ag wr.heap.size wr).drew).trans hb6).mono hB.out.size));clear RZ hcB' hB hb6;go_wp2_with fail;go_roundw;case rel=>exact⟨k+1,by omega,by go_num,hid (jk hT.out HX.out.1 (by rw[Lp.out];exact HX.out.2)),Ao⟩
     case measure=>simp[intOf];omega
    ·have hxy:decide (x=y)=false:=Dh Kn;have HF:=hid (show decide (l=l')=false from Dh (mF HX.out.1 HX.out.2 Kn));clear Kn;go_wp2_with fail;go_region_held3 (fun w'=>(∀b o,b<wr.heap.size→w'.cell? ⟨b,o,none⟩=wr.cell? ⟨b,o,none⟩)∧AA (fun _=>True) wr w')
      (first|exact Aj (by repeat(first|exact AB.drew|exact AA.refl _ _|refine AA.trans ?_ (AA.of_below (by assumption)))))
      (first|(go_at_call 15;refine(HI.out _ u v x y (AV.keep Gs.out (by repeat(first|exact AB.drew|exact AA.refl _ _))) (AV.keep Eu.out (by repeat(first|exact AB.drew|exact AA.refl _ _)))).mono ?_;rintro e w6 ⟨rfl,hb6⟩;rw[hxy]))
     rename_i hHd;clear hHd;have HR:=hid (show KE (decide (l=l')) w (.returned (.bool false)) w6 from⟨by rw[HF.out],hB.out.trans ((((Ag wr.heap.size wr).drew).trans hb6).mono hB.out.size)⟩);clear RZ hcB' hB hb6;go_wp2_with fail;go_ret;exact HR.out
   ·obtain rfl:k=n:=by omega
    have HR:=hid (show KE (decide (l=l')) w (.returned (.bool true)) wr from⟨by rw[En (kC hT.out HN.out HM.out)],hB.out⟩);clear hB hT;go_wp2_with fail;go_ret;exact HR.out
 ·have hl2:((n:Int) !=(m:Int))=true:=by simp;omega
  have HR:=hid (show KE (decide (l=l')) w (.returned (.bool false)) w from⟨by rw[Dh (fun e=>hnm (by rw[←HN.out,←HM.out,e]))],Ag _ _⟩);clear hnm;go_wp2_with fail;go_ret;exact HR.out
theorem kT {P Q:Bq}:P=Q↔P.os=Q.os∧P.ps=Q.ps∧P.cs=Q.cs:=by
 cases P;cases Q;simp
def fQ (P Q:Bq)(w:World)(e:Ending)(w':World):Prop:=∃b,e= .returned (.bool b)∧(b=true↔P=Q)∧Below w.heap.size w w'
theorem AGQ (w:World)(xO xP xC yO yP yC:Value)(P Q:Bq)(ha:Aw Any w xO xP xC P)(hb:Aw Any w yO yP yC Q):Calls Tryz.prog 11 #[.agg #[xO,xP,xC],.agg #[yO,yP,yC]] w (fQ P Q w):=by
 obtain⟨W1,hW1⟩:∃W1,W1=w.alloc (.cells #[xO,xP,xC] 28):=⟨_,rfl⟩;obtain⟨W2,hW2⟩:∃W2,W2=W1.alloc (.cells #[yO,yP,yC] 28):=⟨_,rfl⟩;have hs1:W1.heap.size=w.heap.size+1:=by rw[hW1];simp
 have hs2:W2.heap.size=w.heap.size+2:=by rw[hW2];simp[hs1]
 have HS2:=hid hs2;have Cs:=hid (show W2.heap[w.heap.size]?=some (.cells #[xO,xP,xC] 28 (0,0)) by
  rw[hW2,EO _ _ _ (by omega),hW1];exact Av _ _)
 have HG2:=hid (show W2.heap[w.heap.size+1]?=some (.cells #[yO,yP,yC] 28 (0,0)) by
  rw[hW2,←hs1];exact Av _ _)
 have HB2:=hid (show Below w.heap.size w W2 by rw[hW2,hW1];exact(AR.alloc AQ _).alloc (by simp) _);have HA:=hid (ha.keep (AA.of_below HB2.out));have EC:=hid (hb.keep (AA.of_below HB2.out));have KA:=hid (zl W2 xO yO _ _ HA.out.os EC.out.os);have HW:=hid (fun(W:World) (hb:Below W2.heap.size W2 W)=>And.intro (WR (D7 hb (by omega) Cs.out)) (And.intro (WR (D7 hb (by omega) HG2.out)) (And.intro (show w.heap.size+2≤W.heap.size by have:=hb.size;omega) (HB2.out.trans (hb.mono HB2.out.size)))));clear ha hb;go_enter Tryz.func11,Tryz.ntmps11;go_upto_region 1 with fail;rw[←hW1];rw[←hW2];obtain⟨⟨a0,a1,a2⟩,⟨b0,b1,b2⟩,hz,-⟩:=HW.out W2 AR;clear hW1 hW2 hs1 hs2;go_wp2_with fail;refine KA.out.mono ?_;rintro e w3 ⟨rfl,hb3⟩;have HB3:=hid hb3;obtain⟨⟨a0,a1,a2⟩,⟨b0,b1,b2⟩,hz,hbw⟩:=HW.out w3 hb3;have Ko:=hid (zm w3 xP yP _ _ (AV.keep HA.out.ps (AA.of_below hb3)) (AV.keep EC.out.ps (AA.of_below hb3)));by_cases h1:P.os=Q.os
 ·have e1:decide (P.os=Q.os)=true:=En h1;have H1:=hid h1;clear hb3 h1 KA hbw;go_wp2_with fail;refine Ko.out.mono ?_;rintro e w4 ⟨rfl,hb4⟩;have UW:Below W2.heap.size W2 w4:=HB3.out.trans (hb4.mono HB3.out.size);obtain⟨⟨a0,a1,a2⟩,⟨b0,b1,b2⟩,hz,hbw⟩:=HW.out w4 UW;have fT:=hid (AGP w4 xC yC _ _ (Fu.keep HA.out.cs (AA.of_below UW)) (Fu.keep EC.out.cs (AA.of_below UW)));by_cases h2:P.ps=Q.ps
  ·have e2:decide (P.ps=Q.ps)=true:=En h2;have H2:=hid h2;have CB:=hid UW;clear hb4 UW h2 Ko hbw;go_wp2_with fail;refine fT.out.mono ?_;rintro e w5 ⟨rfl,hb5⟩;have HR:=hid (show fQ P Q w (.returned (.bool (decide (P.cs=Q.cs)))) w5 from⟨_,rfl,by rw[Ht,kT];exact⟨fun h=>⟨H1.out,H2.out,h⟩,fun h=>h.2.2⟩,(HW.out w5 (CB.out.trans (hb5.mono CB.out.size))).2.2.2⟩);clear hb5 a0 a1 a2 b0 b1 b2;go_wp2_with fail;go_ret;exact HR.out
  ·have e2:decide (P.ps=Q.ps)=false:=Dh h2;have HR:=hid (show fQ P Q w (.returned (.bool false)) w4 from⟨_,rfl,⟨fun h=>by simp at h,fun h=>absurd (kT.1 h).2.1 h2⟩,hbw⟩);clear hb4 UW h2 Ko hbw;go_wp2_with fail;go_ret;exact HR.out
 ·have e1:decide (P.os=Q.os)=false:=Dh h1;have HR:=hid (show fQ P Q w (.returned (.bool false)) w3 from⟨_,rfl,⟨fun h=>by simp at h,fun h=>absurd (kT.1 h).1 h1⟩,hbw⟩);clear hb3 h1 KA hbw;go_wp2_with fail;go_ret;exact HR.out
end Go.Proofs.YtlmlamcoeegkbaaGreat.SfP
namespace Go.Proofs.YtlmlamcoeegkbaaGreat.SfR
open Go.RowKit Go.Proofs.YtlmlamcoeegkbaaGreat AJ DV O6 sV SfP SfQ DxH
open Go.Proofs.YtlmlamcoeegkbaaGreat.DL (Any)
open Go.Proofs.YtlmlamcoeegkbaaGreat.Bv (AO BL)
open Go.Proofs.YtlmlamcoeegkbaaGreat.ru (cZ)
theorem AGR (a:Option Addr)(len cap:Nat)(w:World):Calls Tryz.prog 6 #[.slice a len cap] w (fun e w'=>e= .returned (.bool (decide (4096<len)))∧w'=w):=by
 by_cases h:4096<len
 ·have hd:(len:Int)>4096:=by omega
  rw[En h];go_enter Tryz.func6,Tryz.ntmps6;go_wp2_with fail;go_ret;exact⟨rfl,rfl⟩
 ·have hd:¬(len:Int)>4096:=by omega
  rw[Dh h];go_enter Tryz.func6,Tryz.ntmps6;go_wp2_with fail;go_ret;exact⟨rfl,rfl⟩
theorem bool_eq {b:Bool}{A:Prop}{n:Int}(h:b=true↔A)(h2:A↔0<n):(b==decide (0<n))=true:=by
 rw[beq_iff_eq];by_cases hn:0<n
 ·rw[En hn];exact h.2 (h2.2 hn)
 ·rw[Dh hn];exact Bool.eq_false_iff.2 fun hb=>hn (h2.1 (h.1 hb))
def Yes (w:World)(e:Ending)(w':World):Prop:=e= .returned (.bool true)∧Below w.heap.size w w'
theorem law (a:Option Addr)(len cap:Nat)(w:World)(hR:SN w a len):
  Calls Tryz.prog 3 #[.slice a len cap] w (Yes w):=by
 have Qc:=hid (AGR a len cap w);by_cases hbig:4096<len
 ·rw[En hbig]at Qc;clear hR hbig;go_enter Tryz.func3,Tryz.ntmps3;go_wp2_with (go_at_call 6;refine Qc.out.mono ?_;rintro e w1 ⟨rfl,rfl⟩);go_ret;exact⟨rfl,Ag _ _⟩
 ·rw[Dh hbig]at Qc;have HDR:=hid (AGN w a len cap (by omega) hR);clear hR hbig;go_enter Tryz.func3,Tryz.ntmps3;go_upto_region 4 with(first|(go_at_call 6;refine Qc.out.mono ?_;rintro e w1 ⟨rfl,hw1⟩;have HW1:=hid hw1;clear hw1)|(go_at_call 7;rw[HW1.out];refine HDR.out.mono ?_;rintro e w2 ⟨x1,x2,x3,u1,u2,u3,n1,n2,n3,y1,y2,y3,m1,m2,m3,v1,v2,v3,rfl,hp,hq,hb2⟩;obtain⟨P,hP⟩:=fI.V5 hp;obtain⟨Q,hQ⟩:=fI.V5 hq));obtain⟨g,hg⟩:∃g,w2.heap.size=g:=⟨_,rfl⟩;obtain⟨W3,hW3⟩:∃W3,W3=(w2.alloc (.cells #[.slice x1 n1 y1,.slice x2 n2 y2,.slice x3 n3 y3] 28)).alloc (.cells #[.slice u1 m1 v1,.slice u2 m2 v2,.slice u3 m3 v3] 28):=⟨_,rfl⟩;have O8:Below w2.heap.size w2 W3:=by rw[hW3];exact(AR.alloc AQ _).alloc (by simp) _
  have hs3:W3.heap.size=g+2:=by rw[hW3,←hg];simp
  have hp3:W3.heap[g]?=some (.cells #[.slice x1 n1 y1,.slice x2 n2 y2,.slice x3 n3 y3] 28 (0,0)):=by rw[hW3,←hg];exact(LK _ _ (by simp)).trans (Av w2 _)
  have hq3:W3.heap[g+1]?=some (.cells #[.slice u1 m1 v1,.slice u2 m2 v2,.slice u3 m3 v3] 28 (0,0)):=by rw[hW3,←hg];exact Bv.new2 w2 _ _
  have hb3:Below w.heap.size w W3:=hb2.trans (O8.mono hb2.size);have HW:=hid (fun(W:World) (hb:Below W3.heap.size W3 W)=>And.intro (AO ((hb.block g (by omega)).trans hp3)).1 (And.intro (AO ((hb.block (g+1) (by omega)).trans hq3)).1 (And.intro (show g+1<W.heap.size by have:=hb.size;omega) (And.intro (hb3.trans (hb.mono hb3.size)) (And.intro
   (((hP.mono fun _ _=>trivial).keep (AA.of_below (S:=Any) O8)).keep (AA.of_below (S:=Any) hb)) (((hQ.mono fun _ _=>trivial).keep (AA.of_below (S:=Any) O8)).keep (AA.of_below (S:=Any) hb)))))))
  rw[←hW3,hg];clear hW3 hg O8 hp3 hq3 hs3 hb3 hp hq hP hQ hb2;obtain⟨⟨p0,p1,p2⟩,⟨q0,q1,q2⟩,hz,-, vp,vq⟩:=HW.out W3 AR;have hgl:g<W3.heap.size:=by omega
  have KA:=hid (AEH W3 _ _ _ _ _ _ P Q vp vq);clear vp vq;go_upto_region 5 with(go_at_call 8;refine KA.out.mono ?_;rintro e w4 ⟨n,k,rfl,hc,hb4⟩;have HC:=hid hc;have CB:=hid hb4;obtain⟨⟨p0,p1,p2⟩,⟨q0,q1,q2⟩,hz,-, vp,vq⟩:=HW.out w4 hb4;have hgl:g<w4.heap.size:=by omega);have Ko:=hid (AEI w4 _ _ _ _ _ _ P Q vp vq);clear hc hb4 vp vq KA;go_upto_region 6 with(go_at_call 9;refine Ko.out.mono ?_;rintro e w5 ⟨n',k',rfl,hc,hb5⟩;obtain⟨rfl,rfl⟩:=AFS HC.out hc;have O9:=CB.out.trans (hb5.mono CB.out.size);have AZ:=hid O9;obtain⟨⟨p0,p1,p2⟩,⟨q0,q1,q2⟩,hz,-, vp,vq⟩:=HW.out w5 O9;have hgl:g<w5.heap.size:=by omega);have e1:(n' !=n')=false:=by simp
  have e2:(k' !=k')=false:=by simp
  have BA:=hid (AAY w5 _ _ _ P vp);clear hc hb5 O9 vp vq Ko;go_upto_region 9 with(go_at_call 10;refine BA.out.mono ?_;rintro e w6 ⟨a1,a2,a3,b1,b2,b3,c1,c2,c3,k1,R,rfl,hR,hV,hb6⟩);obtain⟨g6,Br⟩:∃g6,w6.heap.size=g6:=⟨_,rfl⟩;obtain⟨W7,YB⟩:∃W7,W7=w6.alloc (.cells #[.slice a1 b1 c1,.slice a2 b2 c2,.slice a3 b3 c3] 28):=⟨_,rfl⟩;have nQ:Below w6.heap.size w6 W7:=by rw[YB];exact AR.alloc AQ _
  have hs7:W7.heap.size=g6+1:=by rw[YB,←Br];simp
  have Jm:W7.heap[g6]?=some (.cells #[.slice a1 b1 c1,.slice a2 b2 c2,.slice a3 b3 c3] 28 (0,0)):=by rw[YB,←Br];exact Av w6 _
  have ACK:Below w5.heap.size w5 W7:=hb6.trans (nQ.mono hb6.size);have Bd:Below W3.heap.size W3 W7:=AZ.out.trans (ACK.mono AZ.out.size);have HX:=hid (fun(W:World) (hb:Below W7.heap.size W7 W)=>And.intro (AO ((hb.block g6 (by omega)).trans Jm)).1 (And.intro (fun h0:k1=0=>((hV h0).keep (AA.of_below (S:=Any) nQ)).keep (AA.of_below (S:=Any) hb)) (Bd.trans (hb.mono Bd.size))));have HRR:=hid hR;rw[←YB,Br];obtain⟨⟨p0,p1,p2⟩,⟨q0,q1,q2⟩,hz,-, -, vq⟩:=HW.out W7 Bd;have hgl:g<W7.heap.size:=by omega
  have HS2:=hid (AAY W7 _ _ _ Q vq);clear YB Br nQ hs7 Jm ACK Bd hR hV hb6 BA vq AZ CB;go_upto_region 10 with(go_at_call 10;refine HS2.out.mono ?_;rintro e w8 ⟨d1,d2,d3,f1,f2,f3,h1,h2,h3,k2,S,rfl,hS,hV,CP⟩);obtain⟨g8,Jo⟩:∃g8,w8.heap.size=g8:=⟨_,rfl⟩;obtain⟨W9,YC⟩:∃W9,W9=w8.alloc (.cells #[.slice d1 f1 h1,.slice d2 f2 h2,.slice d3 f3 h3] 28):=⟨_,rfl⟩;have LV:Below w8.heap.size w8 W9:=by rw[YC];exact AR.alloc AQ _
  have OM:W9.heap.size=g8+1:=by rw[YC,←Jo];simp
  have Ur:W9.heap[g8]?=some (.cells #[.slice d1 f1 h1,.slice d2 f2 h2,.slice d3 f3 h3] 28 (0,0)):=by rw[YC,←Jo];exact Av w8 _
  have ACN:Below W7.heap.size W7 W9:=CP.trans (LV.mono CP.size);obtain⟨⟨r0,r1,r2⟩,vr,SS⟩:=HX.out W9 ACN;have Au:=hid (HW.out W9 SS).2.2.2.1;obtain⟨⟨s0,s1,s2⟩,-⟩:=AO Ur;have Gx:g8<W9.heap.size:=by omega
  have ALX:g6<W9.heap.size:=World.block_lt_of_cell? _ _ r0;have HV:=hid (And.intro vr (fun h0:k2=0=>(hV h0).keep (AA.of_below (S:=Any) LV)));have tC:=hid hS;rw[←YC,Jo];clear YC Jo LV OM Ur ACN SS hS hV CP HS2 vr;by_cases hk:k'=0
  ·subst hk;obtain⟨T,U,eP,eQ,gT,gU,z1,z2,-⟩:=yf HC.out;have c1:=zi eP gT z1 HRR.out;have c2:=zi eQ gU z2 tC.out;clear eP eQ gT gU z1 z2;rcases c1 with rfl|rfl
   ·rcases c2 with rfl|rfl
    ·have HY:=hid (AHR HC.out HRR.out tC.out);have HEQ:=hid (AGQ W9 _ _ _ _ _ _ R S (HV.out.1 rfl) (HV.out.2 rfl));go_wp2_with (go_at_call 11;refine HEQ.out.mono ?_;rintro e Co ⟨bb,rfl,hbb,CF⟩;have DZ:=hid (Au.out.trans (CF.mono Au.out.size));have hbd:=bool_eq hbb HY.out);go_ret;exact⟨rfl,DZ.out⟩
    ·go_wp2_with fail;go_ret;exact⟨rfl,Au.out⟩
   ·rcases c2 with rfl|rfl
    ·go_wp2_with fail;go_ret;exact⟨rfl,Au.out⟩
    ·go_wp2_with fail;go_ret;exact⟨rfl,Au.out⟩
  ·have hkb:(k' !=0)=true:=by simp[hk]
   rcases AHw HC.out HRR.out tC.out hk with h|h
   ·have h1:(k1 !=0)=true:=by simp[h]
    clear h hk;go_wp2_with fail;go_ret;exact⟨rfl,Au.out⟩
   ·by_cases h0:k1=0
    ·subst h0;have h2:(k2 !=0)=true:=by simp[h]
     clear h hk;go_wp2_with fail;go_ret;exact⟨rfl,Au.out⟩
    ·have h1:(k1 !=0)=true:=by simp[h0]
     clear h hk h0;go_wp2_with fail;go_ret;exact⟨rfl,Au.out⟩
end Go.Proofs.YtlmlamcoeegkbaaGreat.SfR
namespace Go.Proofs.YtlmlamcoeegkbaaGreat.CyO
open Go.RowKit Go.Proofs.YtlmlamcoeegkbaaGreat Go.ChangeShapes
theorem xB {w:World}{a:Addr}{v:Value}(h:w.cell? a=some v):a=⟨a.block,a.off,none⟩∧a.block<w.heap.size:=by
 refine⟨?_,World.block_lt_of_cell? w a h⟩;unfold World.cell? at h;split at h
 ·next c _ _ hb=>
  split at h
  ·cases h
  ·next hs=>
   cases a with
   |mk b o s=>
    cases s with
    |none=>rfl
    |some s=>simp at hs
 ·cases h
section
variable {H:Type} {enc:TypeId×Value→H} {w:World} {base:Nat} {spare:Nat→Bool} {held:Bool}
theorem AEJ {α:Type}{E:World→Value→α→Prop}{S:Nat→Prop}{t e:TypeId}{fuel:Nat}{v:Value}{x:DataW H×List MemPlace}(ht:Tryz.prog.underlying t=some (.slice e))(hc:Tryz.prog.cellsOf e=1)(hS:∀b,base≤b→S b)
  (hE:∀(n:Nat) (u:Value) (y:DataW H×List MemPlace),DataW.trod enc Tryz.prog w base spare held n e [u]=some y→∃z:α,E w u z) (h:DataW.trod enc Tryz.prog w base spare held fuel t [v]=some x):∃l:List α,Bl E S w v l:=by
 rcases Go.Deep.open_slice1 ht hc h with⟨hcs,_⟩|⟨a,len,cap,m,n,V,D,Pl,hcs,hb,hl,hm,hmm,rfl,hx⟩
 ·simp only[RG,and_true]at hcs;subst hcs;exact⟨[],none,0,rfl,Ap _,AU _,fun _=>rfl,fun i x hx=>by simp at hx⟩
 ·simp only[RG,and_true]at hcs;subst hcs;have hlm:len≤m:=by rw[hmm];split<;>omega
  have hz:∀i:Fin len,∃z,E w (V i.1) z:=fun i=>hE _ _ _ (hx i.1 (by have:=i.2;omega)).2;refine⟨(List.finRange len).map fun i=>Classical.choose (hz i),some a,cap,by simp,by simpa using hl,hm,by simp,fun i y hy=>?_⟩;simp only[Em,Oy]at hy;obtain⟨j,hj,rfl⟩:=hy;have hjl:=(Ak.1 hj).1;simp only[List.length_finRange]at hjl;have hji:j.1=i:=by
   have:=(Ak.1 hj).2;rw[←this];simp
  have h0:=(hx 0 (by omega)).1;rw[Addr.add_zero']at h0;have hs:=xB h0;obtain⟨ab,ao,asp⟩:=a;simp only[IU,true_and]at hs;obtain⟨rfl,hlt⟩:=hs;have hcell:=(hx i (by omega)).1;rw[addr_add]at hcell;refine⟨ab,ao,rfl,hS _ hb,hlt,V i,hcell,?_⟩;rw[←hji];exact Np (hz j)
end
section
variable {H:Type} {enc:TypeId×Value→H} {w:World} {base:Nat} {spare:Nat→Bool} {held:Bool}
theorem AEs (n:Nat)(u:Value)(y:DataW H×List MemPlace)(h:DataW.trod enc Tryz.prog w base spare held n 5 [u]=some y):∃z:Nat,u= .int .u8 (z:Int)∧z<256:=by
 obtain⟨z,h1,_,h2⟩:=DataW.trod_int Tryz.underlying5 h;simp only[RG,and_true]at h1;simp only[Lit.wf,RS,bD]at h2;have h3:IntKind.u8.min=0:=rfl;have h4:IntKind.u8.max=255:=rfl;rw[h3,h4]at h2;refine⟨z.toNat,?_,by omega⟩;rw[h1,Int.toNat_of_nonneg h2.1]
theorem AEE {a:Option Addr}{len cap:Nat}{d:DataW H}{p:List MemPlace}(h:DataW.Trod enc Tryz.prog w base spare held 22 (.slice a len cap) d p):DV.SN w a len:=by
 obtain⟨fuel,hf⟩:=h;obtain⟨l,hl⟩:=AEJ (E:=fun _ u (z:Nat)=>u= .int .u8 (z:Int)∧z<256) (S:=fun _=>True) (v:=.slice a len cap) Tryz.underlying22 (by kernel_rfl) (fun _ _=>trivial) (fun n u y hy=>AEs n u y hy) hf;intro i hi;obtain⟨ao,c',e,_,_,_,h4⟩:=hl;obtain⟨rfl,rfl,_⟩:a=ao∧len=l.length∧cap=c':=by simpa using e
 obtain⟨x,hx⟩:∃x,l[i]?=some x:=⟨_,AP hi⟩;obtain⟨b,o,e1,_,e3,u,e4,rfl,e5⟩:=h4 i x hx;exact⟨b,o,x,e1,e3,e4,e5⟩
end
end Go.Proofs.YtlmlamcoeegkbaaGreat.CyO
