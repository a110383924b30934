import Derived.Test.YtaadbccidfdniaaGreatZ0
import Derived.Test.YtaadbccidfdniaaGreatZe
import Derived.Test.YtaadbccidfdniaaGreatZb
import Derived.Laws.AppendOwnNone
import Derived.Test.YtaadbccidfdniaaGreatProg
import Derived.WalkKit
import Derived.WalkSpells
import Derived.WalkLawsBesides
import Derived.BigQuiet
import Derived.Deep.QuietTactic
import Derived.Lib.Hide
import Derived.Outline
import Derived.Handy
import Derived.Below
import Derived.Laws.AppendOwn
import Derived.Lib.ItoaNum
import Derived.Lib.ParseIntB
import Derived.Laws.IdiomStrings
import Derived.IntWalk
import Derived.Lib.Strings
import Derived.Laws.BitsAllLaws
import Derived.Deep.RegionWith
import Derived.Deep.DrawnRows
import Derived.Deep.DeepCutAuto
import Derived.Deep.RegionHeld3
import Derived.Deep.LoopGhost
import Derived.Test.YtaadbccidfdniaaGreatZa
/-
  Lemmas for the law FnCopies, in short spelling.
-/
open Go.Lib (hid)
set_option linter.unusedVariables false
set_option linter.unusedSimpArgs false
set_option maxRecDepth 100000
set_option maxHeartbeats 40000000
namespace Go.Proofs.YtaadbccidfdniaaGreat.Px
open Go.RowKit Go.Proofs.YtaadbccidfdniaaGreat AB Val Vu Ni
theorem Qw (x:Int)(w:World):Calls Tryz.prog 98 #[.int .i64 x] w fun e w'=>e= .returned (.bool (CL x))∧w=w':=by
 by_cases h2:x=2
 ·subst h2;go_enter Tryz.func98,Tryz.ntmps98;go_wp2_with fail;go_ret;exact⟨rfl,rfl⟩
 ·by_cases h3:x=3
  ·subst h3;go_enter Tryz.func98,Tryz.ntmps98;go_wp2_with fail;go_ret;exact⟨rfl,rfl⟩
  ·by_cases h5:x=5
   ·subst h5;go_enter Tryz.func98,Tryz.ntmps98;go_wp2_with fail;go_ret;exact⟨rfl,rfl⟩
   ·by_cases h7:x=7
    ·subst h7;go_enter Tryz.func98,Tryz.ntmps98;go_wp2_with fail;go_ret;exact⟨rfl,rfl⟩
    ·have e2:(x==2)=false:=by simpa using h2
     have e3:(x==3)=false:=by simpa using h3
     have e5:(x==5)=false:=by simpa using h5
     have e7:(x==7)=false:=by simpa using h7
     have HB:=hid (show CL x=false by simp[CL,h2,h3,h5,h7]);clear h2 h3 h5 h7;go_enter Tryz.func98,Tryz.ntmps98;go_wp2_with fail;go_ret;exact⟨by rw[HB.out];rfl,rfl⟩
theorem WI (x lo hi:Int)(h1:lo≤x)(h2:x≤hi)(w:World):Calls Tryz.prog 144 #[.int .i64 x,.int .i64 lo,.int .i64 hi] w fun e w'=>e= .returned (.bool true)∧w'=w:=by
 have h1':x≥lo:=h1;go_enter Tryz.func144,Tryz.ntmps144;go_wp2_with fail;go_ret;exact⟨rfl,rfl⟩
theorem tQ (x lo hi:Int)(h:¬(lo≤x∧x≤hi))(w:World):Calls Tryz.prog 144 #[.int .i64 x,.int .i64 lo,.int .i64 hi] w fun e w'=>e= .returned (.bool false)∧w'=w:=by
 by_cases h1:lo≤x
 ·have h2:¬x≤hi:=fun h2=>h ⟨h1,h2⟩;have h3:decide (x≤hi)=false:=GX h2;have h4:decide (lo≤x)=true:=IK h1;clear h;go_enter Tryz.func144,Tryz.ntmps144;go_wp2_with fail;go_ret;exact⟨rfl,rfl⟩
 ·have h4:decide (lo≤x)=false:=GX h1;clear h;go_enter Tryz.func144,Tryz.ntmps144;go_wp2_with fail;go_ret;exact⟨rfl,rfl⟩
def Zy (p:Prop)(w:World)(e:Ending)(w':World):Prop:=∃r:Bool,e= .returned (.bool r)∧(r=true↔p)∧∃n,w'=w.drewN n
theorem pJ {p:Prop}{w:World}{n:Nat}(h:¬p):Zy p w (.returned (.bool false)) (w.drewN n):=⟨false,rfl,⟨fun h=>absurd h (by simp),fun h'=>absurd h' h⟩,n,rfl⟩
theorem AIX {p:Prop}{w:World}{n:Nat}(h:p):Zy p w (.returned (.bool true)) (w.drewN n):=⟨true,rfl,⟨fun _=>h,fun _=>rfl⟩,n,rfl⟩
theorem Xz (w:World)(vo v:Value)(os l:List Int)(zc:Int)(z:Nat)(hz:∀j:Nat,((j:Int)≤zc↔j<z))(ho:AL Any w vo os)(hv:AL Any w v l)(hpr:∀x∈os,CL x=true):
  Calls Tryz.prog 99 #[vo,v,.int .i64 zc] w (Zy (Cj os z l) w):=by
 obtain⟨aO,cO,rfl,BS,Iz,_,hO⟩:=ho;obtain⟨ao,c,rfl,hc,hm,_,hx⟩:=hv;have hn63:(l.length:Int)≤9223372036854775807:=by unfold maxLen at hm;omega
 have HX:=hid hx;have HO:=hid hO;have HM:=hid (And.intro Iz hm);have Bw:=hid hpr;have HZ:=hid hz;clear hx hO Iz hm hpr hz;by_cases hl:l.length=os.length
 ·have hl2:((l.length:Int) !=(os.length:Int))=false:=by simp;omega
  have HL:=hid hl;clear hl;go_enter Tryz.func99,Tryz.ntmps99;go_wp2_with fail;go_loopw [7] (fun i wr=>∃k:Nat,k≤l.length∧i= .int .i64 (k:Int)∧Hid (∀j,j<k→∀x o,l[j]?=some x→os[j]?=some o→0≤x∧x<o∧(j<z→x=0))∧Hid (∃n,wr=w.drewN n)) (fun i _=>l.length-(intOf i).toNat);case atStart=>exact⟨0,AU _,rfl,hid (fun j h=>absurd h (CO _)),hid ⟨0,rfl⟩⟩
  case round=>
   obtain⟨k,hk,rfl,hR,hW⟩:=hrel;obtain⟨m,hw⟩:=hW.out;have HW:=hid hw;clear hw;by_cases hlt:k<l.length
   ·obtain⟨x,hg⟩:∃x,l[k]?=some x:=⟨_,AO hlt⟩;obtain⟨q,hq⟩:∃q,os[k]?=some q:=⟨_,AO (by rw[←HL.out];exact hlt)⟩;obtain⟨bX,oX,rfl,_,hbX,u,Fh,rfl⟩:=HX.out k x hg;obtain⟨bO,oO,rfl,_,CQ,u,Td,rfl⟩:=HO.out k q hq;have APP:wr.cell? ⟨bX,oX+k,none⟩=some (.int .i64 x):=by rw[HW.out];exact Fh
    have APQ:wr.cell? ⟨bO,oO+k,none⟩=some (.int .i64 q):=by rw[HW.out];exact Td
    have hk2:k<os.length:=by rw[←HL.out];exact hlt
    have Zw:=Pd (Bw.out q (Ak hq));have HG:=hid (And.intro hg hq);have w1:IntKind.i64.wrap (q-1)=q-1:=AY _ (by omega);have w4:(k:Int)<(l.length:Int):=by omega
    have w5:(0:Int)≤(k:Int):=by omega
    have w6:(k:Int)<(os.length:Int):=by omega
    clear hg hq;by_cases hin:0≤x∧x≤q-1
    ·have HI:=hid hin;clear hin;by_cases hkz:(k:Int)≤zc
     ·have hd:decide ((k:Int)≤zc)=true:=IK hkz;have xg:=hid ((HZ.out k).1 hkz);clear hkz;by_cases h0:x=0
      ·have hx0:(x !=0)=false:=by simpa using h0
       have HX0:=hid h0;clear h0;go_wp2_with fail;go_quiet ((go_at_call 144;exact Calls.quiet_of_same (WI x 0 (q-1) HI.out.1 HI.out.2 _)));go_wp2_with fail;go_roundw;case rel=>exact⟨k+1,by omega,by go_num,hid (fun j hj y p hy hp=>by
        rcases EB.1 hj with h|h
        ·exact hR.out j h y p hy hp
        ·subst h;rw[HG.out.1]at hy;rw[HG.out.2]at hp;cases hy;cases hp;have:=HI.out;exact⟨this.1,by omega,fun _=>HX0.out⟩),hid ⟨m+nq,by rw[HW.out,Pt]⟩⟩
       case measure=>simp[intOf];omega
      ·have hx0:(x !=0)=true:=by simpa using h0
       have HN:=hid (show¬Cj os z l from fun h=>h0 ((h.2 k x q HG.out.1 HG.out.2).2.2 xg.out));clear h0;go_wp2_with fail;go_quiet ((go_at_call 144;exact Calls.quiet_of_same (WI x 0 (q-1) HI.out.1 HI.out.2 _)));go_wp2_with fail;go_ret;rw[HW.out,Pt];exact pJ HN.out
     ·have hd:decide ((k:Int)≤zc)=false:=GX hkz;have xg:=hid (fun h=>hkz ((HZ.out k).2 h));clear hkz;go_wp2_with fail;go_quiet ((go_at_call 144;exact Calls.quiet_of_same (WI x 0 (q-1) HI.out.1 HI.out.2 _)));go_wp2_with fail;go_roundw;case rel=>exact⟨k+1,by omega,by go_num,hid (fun j hj y p hy hp=>by
       rcases EB.1 hj with h|h
       ·exact hR.out j h y p hy hp
       ·subst h;rw[HG.out.1]at hy;rw[HG.out.2]at hp;cases hy;cases hp;have:=HI.out;exact⟨this.1,by omega,fun h=>absurd h xg.out⟩),hid ⟨m+nq,by rw[HW.out,Pt]⟩⟩
      case measure=>simp[intOf];omega
    ·have HI:=hid hin;have HN:=hid (show¬Cj os z l from fun h=>by have:=h.2 k x q HG.out.1 HG.out.2;exact hin ⟨this.1,by omega⟩);clear hin;go_wp2_with fail;go_quiet ((go_at_call 144;exact Calls.quiet_of_same (tQ x 0 (q-1) HI.out _)));go_wp2_with fail;go_ret;rw[HW.out,Pt];exact pJ HN.out
   ·obtain rfl:k=l.length:=by omega
    have P8:=hid (show Cj os z l from⟨HL.out,fun j x q hx hq=>hR.out j (Ag.1 hx).1 x q hx hq⟩);go_wp2_with fail;go_ret;rw[HW.out];exact AIX P8.out
 ·have hl2:((l.length:Int) !=(os.length:Int))=true:=by simp;omega
  have HN:=hid (show¬Cj os z l from fun h=>hl h.1);clear hl;go_enter Tryz.func99,Tryz.ntmps99;go_wp2_with fail;go_ret;exact pJ (n:=0) HN.out
def ALY (os:List Int)(w:World)(e:Ending)(w':World):Prop:=∃r:Int,e= .returned (.int .i64 r)∧(r≤729↔DR os≤729)∧(r≤729→r=DR os)∧w=w'
theorem OY (w:World)(vo:Value)(os:List Int)(ho:AL Any w vo os)(hpr:∀x∈os,CL x=true):
  Calls Tryz.prog 58 #[vo] w (ALY os w):=by
 obtain⟨aO,cO,rfl,BS,Iz,_,hO⟩:=ho;have hn63:(os.length:Int)≤9223372036854775807:=by unfold maxLen at Iz;omega
 have HO:=hid hO;have HM:=hid Iz;have Bw:=hid hpr;clear hO Iz hpr;go_enter Tryz.func58,Tryz.ntmps58;go_wp2_with fail;go_loop [3,4] (fun q i=>∃k:Nat,k≤os.length∧i= .int .i64 (k:Int)∧∃z:Int,q= .int .i64 z∧1≤z∧z≤5103∧Hid ((z≤729→z=DR (os.take k))∧(729<z→729<DR (os.take k)))) (fun _ i=>os.length-(intOf i).toNat);case atStart=>exact⟨0,AU _,rfl,1,rfl,by omega,by omega,hid ⟨fun _=>rfl,fun h=>by omega⟩⟩
 case round=>
  obtain⟨k,hk,rfl,z,rfl,hz1,hz2,hR⟩:=hrel;by_cases hlt:k<os.length
  ·obtain⟨x,hx⟩:∃x,os[k]?=some x:=⟨_,AO hlt⟩;obtain⟨bO,oO,rfl,_,CQ,u,Td,rfl⟩:=HO.out k x hx;have hx7:=Pd (Bw.out x (Ak hx));have HX:=hid hx;clear hx;by_cases hbig:z≤729
   ·have b1:1≤z*x:=by have:1*1≤z*x:=Int.mul_le_mul hz1 (by omega) (by omega) (by omega);simpa using this
    have b2:z*x≤5103:=by have:z*x≤729*7:=Int.mul_le_mul hbig hx7.2 (by omega) (by omega);simpa using this
    have HT:=hid (show(z*x≤729→z*x=DR (os.take (k+1)))∧(729<z*x→729<DR (os.take (k+1))) from by
     rw[dZ HX.out,←hR.out.1 hbig];exact⟨fun _=>rfl,fun h=>h⟩)
    go_wp2_with fail;go_round;case rel=>exact⟨k+1,by omega,by go_num,z*x,rfl,b1,b2,HT⟩
    case measure=>simp[intOf];omega
   ·have HT:=hid (show(z≤729→z=DR (os.take (k+1)))∧(729<z→729<DR (os.take (k+1))) from by
     refine⟨fun h=>absurd h hbig,fun h=>?_⟩;rw[dZ HX.out];have h1:=hR.out.2 h;have h2:DR (os.take k)*1≤DR (os.take k)*x:=Int.mul_le_mul (Int.le_refl _) (by omega) (by omega) (by omega);rw[Int.mul_one]at h2;omega)
    go_wp2_with fail;go_round;case rel=>exact⟨k+1,by omega,by go_num,z,rfl,hz1,hz2,HT⟩
    case measure=>simp[intOf];omega
  ·obtain rfl:k=os.length:=by omega
   go_wp2_with fail;go_ret;have h:=hR.out;rw[KC]at h;refine⟨z,rfl,⟨fun h1=>by rw[←h.1 h1];exact h1,fun h1=>?_⟩,h.1,rfl⟩;apply Int.le_of_not_gt;intro h2;have:=h.2 h2;omega
end Go.Proofs.YtaadbccidfdniaaGreat.Px
namespace Go.Proofs.YtaadbccidfdniaaGreat.Yc
open Go.RowKit Go.Proofs.YtaadbccidfdniaaGreat AB Val Vu Ni Px
theorem rO {w:World}{vo v:Value}{os l:List Int}{zc:Int}{z:Nat}(h:Cj os z l)(hc:Calls Tryz.prog 99 #[vo,v,.int .i64 zc] w (Zy (Cj os z l) w)):
  Calls Tryz.prog 99 #[vo,v,.int .i64 zc] w fun e w'=>e= .returned (.bool true)∧∃n,w'=w.drewN n:=
 hc.mono fun e w' ⟨r,he,hr,hw⟩=>⟨by rw[he,hr.2 h],hw⟩
theorem ACk {w:World}{vo v:Value}{os l:List Int}{zc:Int}{z:Nat}(h:¬Cj os z l)(hc:Calls Tryz.prog 99 #[vo,v,.int .i64 zc] w (Zy (Cj os z l) w)):
  Calls Tryz.prog 99 #[vo,v,.int .i64 zc] w fun e w'=>e= .returned (.bool false)∧∃n,w'=w.drewN n:=
 hc.mono fun e w' ⟨r,he,hr,hw⟩=>⟨by cases r;exact he;exact absurd (hr.1 rfl) h,hw⟩
theorem Yd (i:Nat):∀j:Nat,((j:Int)≤(i:Int)↔j<i+1):=fun j=>by omega
theorem VI (w:World)(vO vP vC:Value)(P:Bu)(hV:BC Any w vO vP vC P):
  Calls Tryz.prog 57 #[.agg #[vO,vP,vC]] w (QN (Valid P) w):=by
 have hW:=hV;obtain⟨aO,cO,rfl,BS,Iz,hn1,hO⟩:=hV.os;obtain⟨aP,cP,rfl,hcP,UY,hn2,hP⟩:=hV.ps;obtain⟨aC,cC,rfl,hcC,UZ,xX,hC⟩:=hV.cs;have xY:=hid (And.intro Iz (And.intro UY UZ));have m1:(P.os.length:Int)≤9223372036854775807:=by unfold maxLen at Iz;omega
 have m2:(P.ps.length:Int)≤9223372036854775807:=by unfold maxLen at UY;omega
 have m3:(P.cs.length:Int)≤9223372036854775807:=by unfold maxLen at UZ;omega
 have HB:=hid ((A7 w.heap.size w).alloc AR (.cells #[.slice aO P.os.length cO,.slice aP P.ps.length cP,.slice aC P.cs.length cC] 28));clear Iz UY UZ hn1 hn2 xX;by_cases h6:P.os.length≤6
 ·have hd6:decide ((P.os.length:Int)>6)=false:=by simp;omega
  by_cases hpl:P.ps.length=P.os.length
  ·have hp2:((P.ps.length:Int) !=(P.os.length:Int))=false:=by simp;omega
   by_cases hcl:P.cs.length=P.os.length
   ·have hc2:((P.cs.length:Int) !=(P.os.length:Int))=false:=by simp;omega
    have H8:=hid hpl;have Ec:=hid hcl;have HO:=hid hO;have HP:=hid hP;have HC:=hid hC;have HW:=hid hW;clear hpl hcl hO hP hC hV hW;go_enter Tryz.func57,Tryz.ntmps57;go_wp2_with fail;go_loop [4] (fun i=>∃k:Nat,k≤P.os.length∧i= .int .i64 (k:Int)∧Hid (∀j,j<k→∀x,P.os[j]?=some x→CL x=true)) (fun i=>P.os.length-(intOf i).toNat);case atStart=>exact⟨0,AU _,rfl,hid (fun j h=>absurd h (CO _))⟩
    case round=>
     obtain⟨k,hk,rfl,hR⟩:=hrel;by_cases hlt:k<P.os.length
     ·obtain⟨x,hx⟩:∃x,P.os[k]?=some x:=⟨_,AO hlt⟩;obtain⟨bO,oO,rfl,_,CQ,u,Td,rfl⟩:=HO.out k x hx;have HX:=hid hx;clear hx;by_cases hpr:CL x=true
      ·have Bw:=hid hpr;clear hpr;go_wp2_with (go_at_call 98;refine(Px.Qw x _).mono ?_;rintro e w' ⟨rfl,rfl⟩;rw[Bw.out]);go_round;case rel=>exact⟨k+1,by omega,by go_num,hid (fun j hj y hy=>by
        rcases EB.1 hj with h|h
        ·exact hR.out j h y hy
        ·subst h;rw[HX.out]at hy;cases hy;exact Bw.out)⟩
       case measure=>simp[intOf];omega
      ·have Bw:=hid (show CL x=false by simpa using hpr);have HN:=hid (show¬Valid P from fun h=>hpr (h.pr x (Ak HX.out)));clear hpr;go_wp2_with (go_at_call 98;refine(Px.Qw x _).mono ?_;rintro e w' ⟨rfl,rfl⟩;rw[Bw.out]);go_ret;exact FV HN.out HB.out
     ·obtain rfl:k=P.os.length:=by omega
      have Bw:=hid (show∀x∈P.os,CL x=true from fun x hx=>by obtain⟨j,hj,rfl⟩:=RJ hx;exact hR.out j hj _ (AO hj));clear hR hlt hk;go_wp2_with fail;refine(OY _ _ P.os (HW.out.os.keep (AJ.alloc _)) Bw.out).mono ?_;rintro e w' ⟨r,rfl,hr1,_,rfl⟩;by_cases hle:DR P.os≤729
      ·have hrd:decide (r>729)=false:=by have:=hr1.2 hle;simp;omega
       have Iw:=hid hle;clear hle hr1;go_wp2_with fail;go_loopw [5] (fun i wr=>∃k:Nat,k≤P.os.length∧i= .int .i64 (k:Int)∧Hid (∀j,j<k→(∀p,P.ps[j]?=some p→Cj P.os (j+1) p)∧∀c,P.cs[j]?=some c→c.length=P.os.length-1-j∧∀y∈c,Cj P.os (j+1) y)∧Below (w.heap.size+1) (w.alloc (.cells #[.slice aO P.os.length cO,.slice aP P.ps.length cP,.slice aC P.cs.length cC] 28)) wr) (fun i _=>P.os.length-(intOf i).toNat);case atStart=>exact⟨0,AU _,rfl,hid (fun j h=>absurd h (CO _)),A7 _ _⟩
       case round=>
        obtain⟨i,hi,rfl,hR,hb⟩:=hrel;obtain⟨e0,e1,e2⟩:=Cq hb;have Bi:=hid hb;have HK:=hid (Dc hb Any);have A9:=hid (Dq hb);clear hb;by_cases hlt:i<P.os.length
        ·obtain⟨p,hp⟩:∃p,P.ps[i]?=some p:=⟨_,AO (by rw[H8.out];exact hlt)⟩;obtain⟨c,hc⟩:∃c,P.cs[i]?=some c:=⟨_,AO (by rw[Ec.out];exact hlt)⟩;obtain⟨bP,oP,rfl,_,FE,uP,tX,Et⟩:=HP.out i p hp;obtain⟨bC,oC,rfl,_,hbC,uC,jQ,xZ⟩:=HC.out i c hc;obtain⟨a2,c2,rfl,h21,h22,_,Zx⟩:=xZ;have g1:wr.cell? ⟨bP,oP+i,none⟩=some uP:=by rw[HK.out.cell trivial FE];exact tX
         have g2:wr.cell? ⟨bC,oC+i,none⟩=some (.slice a2 c.length c2):=by rw[HK.out.cell trivial hbC];exact jQ
         have m4:(c.length:Int)≤9223372036854775807:=by unfold maxLen at h22;omega
         have H22:=hid h22;have xe:=hid Zx;have GD:=hid (Et.keep HK.out);have Ua:=hid (HW.out.os.keep HK.out);have Ci:=hid hp;have DC:=hid hc;have hi2:i<P.ps.length:=by rw[H8.out];exact hlt
         have hi3:i<P.cs.length:=by rw[Ec.out];exact hlt
         have wa:IntKind.i64.wrap ((P.os.length:Int)-1)=(P.os.length:Int)-1:=AY _ (by omega);have wb:IntKind.i64.wrap ((P.os.length:Int)-1-(i:Int))=(P.os.length:Int)-1-(i:Int):=AY _ (by omega);have w4:(i:Int)<(P.ps.length:Int):=by omega
         have w5:(0:Int)≤(i:Int):=by omega
         have w6:(i:Int)<(P.cs.length:Int):=by omega
         have hd:decide ((i:Int)<(P.os.length:Int))=true:=by simp;omega
         have lH:=hid jQ;clear hp hc Et h22 Zx tX jQ;by_cases N8:Cj P.os (i+1) p
         ·have Jf:=hid N8;clear N8;by_cases hln:c.length=P.os.length-1-i
          ·have hlb:((c.length:Int) !=(P.os.length:Int)-1-(i:Int))=false:=by simp;omega
           have DV:=hid hln;clear hln;go_wp2_with fail;go_quiet ((go_at_call 99;exact Calls.quiet_of (rO Jf.out (Xz _ _ _ _ _ (i:Int) (i+1) (Yd i) (Ua.out.keep (AJ.drewN _)) (GD.out.keep (AJ.drewN _)) Bw.out))));go_wp2_with fail;obtain⟨w5,Ce⟩:∃w5,w5=wr.drewN nq:=⟨_,rfl⟩;have Aa:=hid (show Below (w.heap.size+1) (w.alloc (.cells #[.slice aO P.os.length cO,.slice (some ⟨bP,oP,none⟩) P.ps.length cP,.slice (some ⟨bC,oC,none⟩) P.cs.length cC] 28)) w5 by rw[Ce];exact Dk Bi.out nq);rw[←Ce];clear Ce e0 e1 e2 g1 g2;go_loopw [6] (fun kv wi=>∃k:Nat,k≤c.length∧kv= .int .i64 (k:Int)∧Hid (∀j y,j<k→c[j]?=some y→Cj P.os (i+1) y)∧Below (w.heap.size+1) (w.alloc (.cells #[.slice aO P.os.length cO,.slice (some ⟨bP,oP,none⟩) P.ps.length cP,.slice (some ⟨bC,oC,none⟩) P.cs.length cC] 28)) wi) (fun kv _=>c.length-(intOf kv).toNat);case atStart=>exact⟨0,AU _,rfl,hid (fun j y h=>absurd h (CO _)),Aa.out⟩
           case round=>
            clear Aa GD Ua Bi;obtain⟨k,hk,rfl,hS,hb⟩:=hrel;obtain⟨e0,e1,e2⟩:=Cq hb;have Bi:=hid hb;have Zz:=hid (Dc hb Any);have AMe:=hid (Dq hb);clear hb;by_cases hkc:k<c.length
            ·obtain⟨y,hy⟩:∃y,c[k]?=some y:=⟨_,AO hkc⟩;obtain⟨b2,o2,rfl,_,hb2,uy,hcy,Fj⟩:=xe.out k y hy;have g2:wr.cell? ⟨bC,oC+i,none⟩=some (.slice (some ⟨b2,o2,none⟩) c.length c2):=by rw[Zz.out.cell trivial hbC];exact lH.out
             have g3:wr.cell? ⟨b2,o2+k,none⟩=some uy:=by rw[Zz.out.cell trivial hb2];exact hcy
             have Gx:=hid (Fj.keep Zz.out);have Ua:=hid (HW.out.os.keep Zz.out);have HY:=hid hy;have v4:(k:Int)<(c.length:Int):=by omega
             have v5:(0:Int)≤(k:Int):=by omega
             clear hy Fj hcy;by_cases hty:Cj P.os (i+1) y
             ·have M7:=hid hty;clear hty;go_wp2_with fail;go_quiet ((go_at_call 99;exact Calls.quiet_of (rO M7.out (Xz _ _ _ _ _ (i:Int) (i+1) (Yd i) (Ua.out.keep (AJ.drewN _)) (Gx.out.keep (AJ.drewN _)) Bw.out))));go_wp2_with fail;go_roundw;case rel=>exact⟨k+1,by omega,by go_num,hid (fun j z hj hz=>by
               rcases EB.1 hj with h|h
               ·exact hS.out j z h hz
               ·subst h;rw[HY.out]at hz;cases hz;exact M7.out),Dk Bi.out nq⟩
              case measure=>simp[intOf];omega
             ·have M7:=hid hty;have HN:=hid (show¬Valid P from fun h=>hty ((h.cv i c DC.out).2 y (Ak HY.out)));clear hty;go_wp2_with fail;go_quiet ((go_at_call 99;exact Calls.quiet_of (ACk M7.out (Xz _ _ _ _ _ (i:Int) (i+1) (Yd i) (Ua.out.keep (AJ.drewN _)) (Gx.out.keep (AJ.drewN _)) Bw.out))));go_wp2_with fail;go_ret;exact FV HN.out (Dk AMe.out nq)
            ·obtain rfl:k=c.length:=by omega
             have g2:wr.cell? ⟨bC,oC+i,none⟩=some (.slice a2 c.length c2):=by rw[Zz.out.cell trivial hbC];exact lH.out
             have FH:=hid (show∀j,j<i+1→(∀p,P.ps[j]?=some p→Cj P.os (j+1) p)∧∀c,P.cs[j]?=some c→c.length=P.os.length-1-j∧∀y∈c,Cj P.os (j+1) y from fun j hj=>by
              rcases EB.1 hj with h|h
              ·exact hR.out j h
              ·subst h;refine⟨fun q hq=>?_,fun d hd=>?_⟩
               ·rw[Ci.out]at hq;cases hq;exact Jf.out
               ·rw[DC.out]at hd;cases hd;refine⟨DV.out,fun y hy=>?_⟩;obtain⟨t,ht,rfl⟩:=RJ hy;exact hS.out t _ ht (AO ht))
             go_wp2_with fail;go_roundw;case rel=>exact⟨i+1,by omega,by go_num,FH,Bi.out⟩
             case measure=>simp[intOf];omega
          ·have hlb:((c.length:Int) !=(P.os.length:Int)-1-(i:Int))=true:=by simp;omega
           have HN:=hid (show¬Valid P from fun h=>hln (h.cv i c DC.out).1);clear hln;go_wp2_with fail;go_quiet ((go_at_call 99;exact Calls.quiet_of (rO Jf.out (Xz _ _ _ _ _ (i:Int) (i+1) (Yd i) (Ua.out.keep (AJ.drewN _)) (GD.out.keep (AJ.drewN _)) Bw.out))));go_wp2_with fail;go_ret;exact FV HN.out (Dk A9.out nq)
         ·have Jf:=hid N8;have HN:=hid (show¬Valid P from fun h=>N8 (h.pv i p Ci.out));clear N8;go_wp2_with fail;go_quiet ((go_at_call 99;exact Calls.quiet_of (ACk Jf.out (Xz _ _ _ _ _ (i:Int) (i+1) (Yd i) (Ua.out.keep (AJ.drewN _)) (GD.out.keep (AJ.drewN _)) Bw.out))));go_wp2_with fail;go_ret;exact FV HN.out (Dk A9.out nq)
        ·obtain rfl:i=P.os.length:=by omega
         have P8:=hid (show Valid P from⟨h6,H8.out,Ec.out,Bw.out,Iw.out,fun j p hp=>(hR.out j (by have:=(Ag.1 hp).1;rw[H8.out]at this;exact this)).1 p hp,fun j c hc=>(hR.out j (by have:=(Ag.1 hc).1;rw[Ec.out]at this;exact this)).2 c hc⟩);go_wp2_with fail;go_ret;exact VS P8.out A9.out
      ·have hrd:decide (r>729)=true:=by
        have:¬r≤729:=fun h=>hle (hr1.1 h);simp;omega
       have HN:=hid (show¬Valid P from fun h=>hle h.le);clear hle hr1;go_wp2_with fail;go_ret;exact FV HN.out HB.out
   ·have hc2:((P.cs.length:Int) !=(P.os.length:Int))=true:=by simp;omega
    have HN:=hid (show¬Valid P from fun h=>hcl h.cl);clear hcl hpl hO hP hC hV hW;go_enter Tryz.func57,Tryz.ntmps57;go_wp2_with fail;go_ret;exact FV HN.out HB.out
  ·have hp2:((P.ps.length:Int) !=(P.os.length:Int))=true:=by simp;omega
   have HN:=hid (show¬Valid P from fun h=>hpl h.pl);clear hpl hO hP hC hV hW;go_enter Tryz.func57,Tryz.ntmps57;go_wp2_with fail;go_ret;exact FV HN.out HB.out
 ·have hd6:decide ((P.os.length:Int)>6)=true:=by simp;omega
  have HN:=hid (show¬Valid P from fun h=>h6 h.n6);clear h6 hO hP hC hV hW;go_enter Tryz.func57,Tryz.ntmps57;go_wp2_with fail;go_ret;exact FV HN.out HB.out
end Go.Proofs.YtaadbccidfdniaaGreat.Yc
namespace Go.Proofs.YtaadbccidfdniaaGreat.JU
open Go.RowKit Go.Proofs.YtaadbccidfdniaaGreat AB
theorem NY (S:Nat→Prop)(v:Value)(l:List Int)(w:World)(hv:AL S w v l)(hl:l.length≤1000000):
  Calls Tryz.prog 63 #[v] w (Ej l w):=by
 obtain⟨i0,hi,hz0,hz1,hz2⟩:=Bt FX;obtain⟨ao,c,rfl,hc,hm,hn,hx⟩:=hv;have HL:=hid hl;have HM:=hid hm;clear hl hm;have hsl:AL S w (.slice ao l.length c) l:=⟨ao,c,rfl,hc,HM.out,hn,hx⟩;have HS:=hid hsl;have h00:=Fb (base:=w.heap.size) (e:=2) (size:=1) w #[] 0 AR (AU _) rfl;have HX:=hid hx;clear hsl hx;cases ao with
 |none=>
  obtain rfl:c=0:=hn rfl;obtain rfl:l=[]:=D8 (by omega);go_enter Tryz.func63,Tryz.ntmps63;go_wp2_with fail;go_ret;exact⟨w.heap.size,0,rfl,h00,AX.alloc AR _⟩
 |some ad=>
  have C1:=hid (AL.src (w':=w.alloc (.cells #[] 2)) HS.out (AJ.alloc _));have C2:=hid (Qy l);have C3:=hid (show 0+l.length≤maxLen from by have:=HL.out;unfold maxLen;omega);have C4:=hid (show(0+l.length)*8≤140737488355328 from by have:=HL.out;omega);have C5:=hid (show(vals l).length=l.length*1 by simp[vals]);go_enter Tryz.func63,Tryz.ntmps63;go_wp2_with (at_builtin;refine Fz _ rfl _ _ 24 rfl w.heap.size 2 i0 (.int .i64 0) 1 8 Tryz.underlying24 hi hz0 hz1 hz2 rfl (by decide) _ _ _ rfl h00 ad l.length c (vals l) rfl C5.out C1.out C2.out C3.out C4.out (by simp) ?_);intro v' w1 hown' hgrow hnil;have hO:Own w.heap.size w1 v' l:=by simpa[Own]using hown'
  have hB:Below w.heap.size w w1:=(AX.alloc AR _).grown hgrow (by simp) (by intro k hk;simp[Value.ownBlock]at hk;omega);have hne:v'≠.slice none 0 0:=hnil;clear hown' hgrow hnil;go_wp2_with fail;go_ret;obtain⟨g,cap,rfl⟩:=hO.head hne;exact⟨g,cap,rfl,hO,hB⟩
end Go.Proofs.YtaadbccidfdniaaGreat.JU
namespace Go.Proofs.YtaadbccidfdniaaGreat.Dr
open Go.RowKit Go.Proofs.YtaadbccidfdniaaGreat AB JU
abbrev Any:Nat→Prop:=fun _=>True
def Vh (T:Tw)(i:Nat):Prop:=∀(w:World) (vO vP vC va vb:Value) (a b:List Nat),BC Any w vO vP vC (AQ T)→AL Any w va (ints a)→AL Any w vb (ints b)→
 a.length=T.length→b.length=T.length→El (T.drop i) (a.drop i)→El (T.drop i) (b.drop i)→
 Calls Tryz.prog 168 #[.agg #[vO,vP,vC],.int .i64 i,va,vb] w (Kk (ints (pad i (mul (T.drop i) (a.drop i) (b.drop i)))) w)
def gF (T:Tw)(i:Nat)(L:Lv):Prop:=∀(w:World) (vO vP vC vx:Value) (x:List Nat),BC Any w vO vP vC (AQ T)→AL Any w vx (ints x)→
 x.length=T.length→El (T.drop (i+1)) (x.drop (i+1))→
 Calls Tryz.prog 176 #[.agg #[vO,vP,vC],.int .i64 i,vx] w (Kk (ints (pad (i+1) (img (T.drop (i+1)) L.c (x.drop (i+1))))) w)
theorem Kl (n:Nat)(hn:n≤6)(w:World):(Instr.makeSlice 24 (.int .i64 (n:Int)) (.int .i64 (n:Int))).run Tryz.prog w= .ok (.slice (some ⟨w.heap.size,0,none⟩) n n) (w.alloc (.cells (madeCells #[.int .i64 0] n) 2)):=
 run_make_row' (P:=Tryz.prog) 24 2 (.int .i64 0) 8 Tryz.underlying24 FX rfl .i64 .i64 n (by omega) (by omega) w
abbrev Ub (T':Tw)(c:List (List Nat))(y:List Nat)(j k:Nat):List Nat:=Iq (mul T') (AB.one T') (AB.one T') c y j k
theorem AKt {T':Tw}(h:Wf T'){c:List (List Nat)}(hc:∀y∈c,El T' y)(y:List Nat)(j k:Nat):El T' (Ub T' c y j k):=
 VU (El T') (mul T') (fun _ _ p q=>C8 h p q) _ _ c y (D5 h) (D5 h) hc j k
theorem lvl {T:Tw}(hT:Wf T){i:Nat}{L:Lv}(hL:T[i]?=some L):Wf (T.drop (i+1))∧L.c.length=T.length-(i+1)∧(∀y∈L.c,El (T.drop (i+1)) y)∧El (T.drop (i+1)) L.w∧2≤L.o:=by
 have hi:i<T.length:=(Ag.1 hL).1;have e:T.drop i=L::T.drop (i+1):=by rw[EX hi,(Ag.1 hL).2]
 have:=FK hT i;rw[e]at this;exact⟨this.2.2.2.2,by rw[this.2.2.1];simp,this.2.2.2.1,this.2.1,this.1⟩
theorem drop_cons {T:Tw}{i:Nat}{L:Lv}(hL:T[i]?=some L):T.drop i=L::T.drop (i+1):=by
 have hi:i<T.length:=(Ag.1 hL).1;rw[EX hi,(Ag.1 hL).2]
theorem AHn (T:Tw)(hT:Wf T)(hs:Small T)(i:Nat)(L:Lv)(hL:T[i]?=some L)(hAt:Vh T (i+1)):gF T i L:=by
 intro w vO vP vC vx x hP hx hxl C9;have hi:i<T.length:=(Ag.1 hL).1;have hs6:=hs.1;have HK:=hid (lvl hT hL);have hmk:=Kl T.length hs6;obtain⟨aO,cO,aP,cP,aC,cC,rfl,rfl,rfl,Eo,hP1,FC⟩:=hP.open;obtain⟨aX,cX,rfl,hX1⟩:=hx.open;rw[hxl]at hX1 ⊢;rw[hxl]at hx;obtain⟨bC,oC,a2,c2,rfl,_,hbC,hcC,h21,Ir⟩:=hP.Mt hL;have HW:=hid hT;have FB:=hid hs;have HP:=hid hP;have HX:=hid hx;have HL:=hid hL;have DN:=hid C9;have Rk:=hid hxl;have HAT:=hid hAt;have Gg:=hid Ir;have DC:=hid hcC;have hcl:L.c.length=T.length-(i+1):=HK.out.2.1;have HO:=hid (Own.made (B:=w.heap.size+1) (w.alloc (.cells #[.slice aO T.length cO,.slice aP T.length cP,.slice (some ⟨bC,oC,none⟩) T.length cC] 28)) T.length (by simp) (by unfold maxLen;omega));obtain⟨V,hV⟩:∃V:Nat→Nat→List Nat,V=fun m k=>pad (i+1) (Ub (T.drop (i+1)) L.c (x.drop (i+1)) m k):=⟨_,rfl⟩;have HV:=hid hV;have QJ:=hid (show List.replicate T.length (0:Int)=ints (V 0 0) by rw[hV];simp only[Ub,Sv];rw[YA T (i+1) (by omega),OX];rfl);have En:=hid (show∀m q,El T (V m q) from by
  intro m q;rw[hV];exact TD hT (i+1) (AKt HK.out.1 HK.out.2.2.1 _ m q) (by omega))
 have QK:=hid (show∀m q y,L.c[m]?=some y→pad (i+1) (mul (T.drop (i+1)) ((V m q).drop (i+1)) ((pad (i+1) y).drop (i+1)))=V m (q+1) from by
  intro m q y hy;rw[hV];show pad (i+1) (mul _ ((pad (i+1) _).drop (i+1)) _)=pad (i+1) _;rw[BJ,BJ,Ub,Ub,VO,BV,hy];rfl)
 have HVx:=hid (show∀m a,m<T.length-(i+1)→x[i+1+m]?=some a→V m a=V (m+1) 0 from by
  intro m a hm ha;rw[hV];show pad (i+1) _=pad (i+1) _;rw[Ub,VP _ _ _ _ _ m a (by omega) (by rw[Ho];exact ha)])
 have QL:=hid (show V (T.length-(i+1)) 0=pad (i+1) (img (T.drop (i+1)) L.c (x.drop (i+1))) from by
  rw[hV];show pad (i+1) _=pad (i+1) _;rw[Ub,VT _ _ _ _ _ _ (by omega) (by simp;omega)];rfl)
 clear hP hx hL C9 hxl hAt hV hT hs Ir hcC;go_enter Tryz.func176,Tryz.ntmps176;go_wp2_with fail;go_loopw [8,9] (fun o j wr=>∃m:Nat,m≤T.length-(i+1)∧j= .int .i64 ((i:Int)+1+(m:Int))∧Own (w.heap.size+1) wr o (ints (V m 0))∧
   Below (w.heap.size+1) (w.alloc (.cells #[.slice aO T.length cO,.slice aP T.length cP,.slice (some ⟨bC,oC,none⟩) T.length cC] 28)) wr) (fun _ j _=>T.length-(intOf j).toNat)
 case atStart=>exact⟨0,AU _,by go_num,by rw[←QJ.out];have:=HO.out;simpa using this,AX.alloc (by simp) _⟩
 case round=>
  obtain⟨m,hm,rfl,ho,hb⟩:=hrel;by_cases hlt:m<T.length-(i+1)
  ·obtain⟨a,ha⟩:∃a,x[i+1+m]?=some a:=⟨_,AO (by rw[Rk.out];omega)⟩;obtain⟨bX,oX,rfl,_,hbX,Fh⟩:=HX.out.at ha;obtain⟨y,hy⟩:∃y,L.c[m]?=some y:=⟨_,AO (by omega)⟩;obtain⟨b2,o2,uy,rfl,_,hb2,hcy,Fj⟩:=Gg.out m y hy;have hk:=Dc hb Any;have hcx:wr.cell? ⟨bX,oX+(i+1+m),none⟩=some (.int .i64 (a:Int)):=by rw[hk.cell trivial hbX];exact Fh
   have Zi:a<7:=FB.out.lt DN.out (by omega) ha;have HA:=hid ha;have HY:=hid hy;have Ny:=hid hcy;have Gx:=hid Fj;have HB:=hid hb;have HOW:=hid ho;have HKP:=hid hk;have Rp:=hid Fh;have hd:decide ((i:Int)+1+(m:Int)<(T.length:Int))=true:=by simp;omega
   clear ha hb ho hk Fh hy hcy Fj;go_wp2_with fail;go_loopw [8,10] (fun o k wi=>∃q:Nat,q≤a∧k= .int .i64 (q:Int)∧Own (w.heap.size+1) wi o (ints (V m q))∧
    Below (w.heap.size+1) (w.alloc (.cells #[.slice aO T.length cO,.slice aP T.length cP,.slice (some ⟨bC,oC,none⟩) T.length cC] 28)) wi) (fun _ k _=>a-(intOf k).toNat)
   case atStart=>exact⟨0,AU _,rfl,HOW.out,HB.out⟩
   case round=>
    obtain⟨q,hq,rfl,hoi,hbi⟩:=hrel;have hki:=Dc hbi Any;have APR:wr.cell? ⟨bX,oX+(i+1+m),none⟩=some (.int .i64 (a:Int)):=by rw[hki.cell trivial hbX];exact Rp.out
    by_cases UL:q<a
    ·have HPi:=hid (HP.out.keep hki);obtain⟨e0,e1,e2⟩:=Cq hbi;have hcC:wr.cell? ⟨bC,oC+i,none⟩=some (.slice (some ⟨b2,o2,none⟩) L.c.length c2):=by rw[hki.cell trivial hbC];exact DC.out
     have hcy:wr.cell? ⟨b2,o2+m,none⟩=some uy:=by rw[hki.cell trivial hb2];exact Ny.out
     have w1:IntKind.i64.wrap (((i:Int)+1+(m:Int))-(i:Int))=(m:Int)+1:=by rw[AY _ (by omega)];omega
     have w2:IntKind.i64.wrap (((m:Int)+1)-1)=(m:Int):=by rw[AY _ (by omega)];omega
     have w3:IntKind.i64.wrap ((i:Int)+1)=(i:Int)+1:=AY _ (by omega);have w8:IntKind.i64.wrap (m:Int)=(m:Int):=AY _ (by omega);have w4:(m:Int)<(L.c.length:Int):=by omega
     have w5:(0:Int)≤(m:Int):=by omega
     have w6:(i:Int)<(T.length:Int):=by omega
     have w7:(0:Int)≤(i:Int):=by omega
     have hsz2:w.heap.size<wr.heap.size:=by have:=hbi.size;simp at this;omega
     have Oj:=Nat.lt_trans hbC hsz2;have WH:=Nat.lt_trans hb2 hsz2;have HB2:=hid hbi;have xh:=hid hoi;have Ol:=hid (Gx.out.keep hki);have HVd:=hid (show El (T.drop (i+1)) ((V m q).drop (i+1)) from KY (En.out m q) (i+1));have HVl:=hid (show(V m q).length=T.length from AZ (En.out m q));have FN:=hid (show El T (pad (i+1) y) from TD HW.out (i+1) (HK.out.2.2.1 y (Ak HY.out)) (by omega));clear hbi hoi hki;go_wp2_with fail;go_region_held3 (fun w'=>(∀b o,b<wr.heap.size→w'.cell? ⟨b,o,none⟩=wr.cell? ⟨b,o,none⟩)∧AA (fun _=>True) wr w')
      (first|exact Au (AJ.drew)|exact Au (AA.trans (AJ.drew) (AA.of_below (by assumption))))
      (first|(go_at_call 168;refine(HAT.out _ _ _ _ _ _ (V m q) (pad (i+1) y) (HPi.out.keep (AJ.drew)) ((xh.out.sl.mono (fun _ _=>trivial)).keep (AJ.drew)) (Ol.out.keep (AJ.drew)) HVl.out (AZ FN.out) HVd.out (KY FN.out (i+1))).mono ?_;rintro e w2 ⟨v2,rfl,hov,hbv⟩))
     go_wp2_with fail;go_roundw;case rel=>exact⟨q+1,by omega,by go_num,by rw[QK.out m q y HY.out]at hov;exact hov.mono (by show w.heap.size+1≤wr.heap.size;omega),HB2.out.trans ((AX.drew).trans (hbv.mono (by show w.heap.size+1≤wr.heap.size;omega)))⟩
     case measure=>simp[intOf];omega
    ·obtain rfl:q=a:=by omega
     have HB2:=hid hbi;have xh:=hid hoi;clear hbi hoi hki;go_wp2_with fail;go_roundw;case rel=>exact⟨m+1,by omega,by go_num,by rw[←HVx.out m q (by omega) HA.out];exact xh.out,HB2.out⟩
     case measure=>simp[intOf];omega
  ·obtain rfl:m=T.length-(i+1):=by omega
   have HB:=hid hb;have HOW:=hid ho;clear hb ho;go_wp2_with fail;go_ret;exact⟨_,rfl,by rw[←QL.out];exact HOW.out.mono (by omega),Dq HB.out⟩
end Go.Proofs.YtaadbccidfdniaaGreat.Dr
namespace Go.Proofs.YtaadbccidfdniaaGreat.iw
open Go.RowKit Go.Proofs.YtaadbccidfdniaaGreat AB JU Dr
theorem ALZ (T:Tw)(hT:Wf T)(hs:Small T)(i:Nat)(L:Lv)(hL:T[i]?=some L)(hAt:Vh T (i+1))(AEH:gF T i L):Vh T i:=by
 intro w vO vP vC va vb a b hP ha hb hal hbl Rs O1;have hi:i<T.length:=(Ag.1 hL).1;have hs6:=hs.1;have HK:=hid (lvl hT hL);have hmk:=Kl T.length hs6;obtain⟨aO,cO,aP,cP,aC,cC,rfl,rfl,rfl,Eo,hP1,FC⟩:=hP.open;obtain⟨aA,cA,rfl,hA1⟩:=ha.open;obtain⟨aB,cB,rfl,hB1⟩:=hb.open;rw[hal]at hA1 ha ⊢;rw[hbl]at hB1 hb ⊢;obtain⟨bO,oO,rfl,_,CQ,BS⟩:=hP.ord hL;obtain⟨bP,oP,uP,rfl,_,FE,hcP,Et⟩:=hP.pow hL;obtain⟨p,hp⟩:∃p,a[i]?=some p:=⟨_,AO (by omega)⟩;obtain⟨q,hq⟩:∃q,b[i]?=some q:=⟨_,AO (by omega)⟩;obtain⟨bA,oA,rfl,_,Rn,hcA⟩:=ha.at hp;obtain⟨bB,oB,rfl,_,UQ,hcB⟩:=hb.at hq;have lI:p<7:=hs.lt Rs AR hp;have Zw:q<7:=hs.lt O1 AR hq;have Cr:L.o≤7:=hs.2 L (Ak hL);have HP:=hid hP;have HA:=hid ha;have HB:=hid hb;have HAT:=hid hAt;have Jg:=hid AEH;have HT:=hid (And.intro hT (And.intro hs hL));clear hP ha hb hAt AEH hT hs hL;have HC:=hid (And.intro BS (And.intro hcP (And.intro hcA hcB)));have GD:=hid Et;have IQ:=hid (And.intro hp hq);have HE:=hid (And.intro Rs O1);clear BS hcP hcA hcB Et hp hq Rs O1;have hla:(ints a).length=T.length:=by rw[BL];exact hal
 have hlb:(ints b).length=T.length:=by rw[BL];exact hbl
 obtain⟨Z,hZ⟩:∃Z:Nat→List Nat,Z=fun k=>if k=0 then a.set i 0 else pad (i+1) (it (img (T.drop (i+1)) L.c) k (a.drop (i+1))):=⟨_,rfl⟩;have lJ:=hid (show∀k,(Z k).drop (i+1)=it (img (T.drop (i+1)) L.c) k (a.drop (i+1)) from by
  intro k;rw[hZ];by_cases h0:k=0
  ·subst h0;simp[it,List.drop_set]
  ·simp only[BD h0,BJ])
 have O3:=hid (show El (T.drop (i+1)) (a.drop (i+1))∧El (T.drop (i+1)) (b.drop (i+1)) from by
  have h1:=KY HE.out.1 1;have h2:=KY HE.out.2 1;rw[Fe,Fe]at h1 h2;exact⟨h1,h2⟩)
 have Kv:=hid (show∀k,El (T.drop (i+1)) (it (img (T.drop (i+1)) L.c) k (a.drop (i+1))) from fun k=>
  JP (El _) _ (fun z _=>Pk HK.out.1 HK.out.2.2.1 z) k _ O3.out.1)
 have kY:=hid (show∀k,(Z k).length=T.length from by
  intro k;rw[hZ];by_cases h0:k=0
  ·subst h0;simp[hal]
  ·simp only[BD h0,Bg,AZ (Kv.out k),Cx];omega)
 have HZ0:=hid (show Z 0=a.set i 0 by rw[hZ];rfl);have xB:=hid (show∀k,pad (i+1) (img (T.drop (i+1)) L.c ((Z k).drop (i+1)))=Z (k+1) from by
  intro k;rw[lJ.out,←GK (img (T.drop (i+1)) L.c),hZ];simp)
 clear hZ;go_enter Tryz.func168,Tryz.ntmps168;go_wp2_with fail;refine(NY Any _ _ _ (HA.out.keep (AJ.alloc _)) (by omega)).mono ?_;rintro e w1 ⟨g1,c1,rfl,ho1,hb1⟩;rw[hla]at ho1 ⊢;have HB1:=hid (show Below (w.heap.size+1) (w.alloc (.cells #[.slice (some ⟨bO,oO,none⟩) T.length cO,.slice (some ⟨bP,oP,none⟩) T.length cP,.slice aC T.length cC] 28)) w1 from hb1.mono (by simp));have DD:=hid (ho1.mono (B':=w.heap.size+1) (by simp));clear hb1 ho1;go_wp2_with fail;refine(NY Any _ _ _ (HB.out.keep (Dc HB1.out Any)) (by omega)).mono ?_;rintro e w2 ⟨g2,c2,rfl,ho2,hb2⟩;rw[hlb]at ho2 ⊢;have hlt1:=DD.out.lt;have hlt2:=ho2.lt;have hsz1:w.heap.size+1≤w1.heap.size:=by have:=HB1.out.size;simp at this;omega
 have hne:¬g1=g2:=by omega
 have hne':¬g2=g1:=by omega
 have Yt:=DD.out.of_below hb2;obtain⟨s1,f1⟩:=Yt.cell (j:=i) (a:=(p:Int)) (by rw[Fx,IQ.out.1];rfl);obtain⟨s2,f2⟩:=ho2.cell (j:=i) (a:=(q:Int)) (by rw[Fx,IQ.out.2];rfl);have lK:=Yt.Nh i 0;have AEI:=(ho2.mono (B':=w.heap.size+1) hsz1).keep (S:=fun k=>¬k=g1) (AA.grown lK.2 (fun k hk e=>hk (Mc e))) (fun k hk=>by simp[Value.ownBlock]at hk;omega);have HL2:=AEI.Nh i 0;have O4:=lK.1.keep (S:=fun k=>¬k=g2) (AA.grown HL2.2 (fun k hk e=>hk (Mc e))) (fun k hk=>by simp[Value.ownBlock]at hk;omega);have HB2:=hid ((((HB1.out.trans (hb2.mono hsz1)).grown lK.2 (by omega) (by intro k hk;cases hk;omega)).grown HL2.2 (by simp;omega) (by intro k hk;cases hk;omega)));rw[←HZ0.out]at O4;have EN:=hid O4;have HRR:=hid HL2.1;clear Yt hb2 ho2 lK AEI HL2 O4;go_wp2_with fail;go_loopw [10,12] (fun v k wr=>∃t:Nat,t≤q∧k= .int .i64 (t:Int)∧Own (w.heap.size+1) wr v (ints (Z t))∧Own (w.heap.size+1) wr (.slice (some ⟨g2,0,none⟩) T.length c2) (ints (b.set i 0))∧
  Below (w.heap.size+1) (w.alloc (.cells #[.slice (some ⟨bO,oO,none⟩) T.length cO,.slice (some ⟨bP,oP,none⟩) T.length cP,.slice aC T.length cC] 28)) wr) (fun _ k _=>q-(intOf k).toNat)
 case atStart=>
  exact⟨0,AU _,rfl,EN.out,HRR.out,HB2.out⟩
 case round=>
  obtain⟨t,ht,rfl,hv,hr,hb⟩:=hrel;have hk:=Dc hb Any;have hcB:wr.cell? ⟨bB,oB+i,none⟩=some (.int .i64 (q:Int)):=by rw[hk.cell trivial UQ];exact HC.out.2.2.2
  have HV:=hid hv;have HR:=hid hr;have HB3:=hid hb;have HKK:=hid hk;obtain⟨e0,e1,e2⟩:=Cq hb;clear hv hr hb;by_cases hlt:t<q
  ·go_wp2_with fail;refine(Jg.out _ _ _ _ _ (Z t) (HP.out.keep HKK.out) (HV.out.sl.mono (fun _ _=>trivial)) (kY.out t) (by rw[lJ.out];exact Kv.out t)).mono ?_;rintro e w3 ⟨v3,rfl,ho3,hb3⟩;rw[xB.out]at ho3;have Ta:w.heap.size+1≤wr.heap.size:=by have:=HB3.out.size;simp at this;omega
   have Rm:=hid (ho3.mono Ta);have HR3:=hid (HR.out.of_below hb3);have Bl:=hid (HB3.out.trans (hb3.mono Ta));clear ho3 hb3 hk hcB e0 e1 e2;go_wp2_with fail;go_roundw;case rel=>exact⟨t+1,by omega,by go_num,Rm.out,HR3.out,Bl.out⟩
   case measure=>simp[intOf];omega
  ·obtain rfl:t=q:=by omega
   have Ta:w.heap.size+1≤wr.heap.size:=by have:=HB3.out.size;simp at this;omega
   clear hlt;go_wp2_with fail;refine(HAT.out _ _ _ _ _ _ (Z t) (b.set i 0) (HP.out.keep HKK.out) (HV.out.sl.mono (fun _ _=>trivial)) (HR.out.sl.mono (fun _ _=>trivial)) (kY.out t) (by simp[hbl]) (by rw[lJ.out];exact Kv.out t) (by rw[show(b.set i 0).drop (i+1)=b.drop (i+1) by simp[List.drop_set]];exact O3.out.2)).mono ?_;rintro e w4 ⟨v4,rfl,Ey,hb4⟩;clear hk hcB e0 e1 e2;rw[lJ.out,show(b.set i 0).drop (i+1)=b.drop (i+1) by simp[List.drop_set]]at Ey;obtain⟨R,hR⟩:∃R,R=mul (T.drop (i+1)) (it (img (T.drop (i+1)) L.c) t (a.drop (i+1))) (b.drop (i+1)):=⟨_,rfl⟩;have IU:=hid (show El (T.drop (i+1)) R by rw[hR];exact C8 HK.out.1 (Kv.out t) O3.out.2);rw[←hR]at Ey;have HRR:=hid hR;have Iu:=hid (Ey.mono Ta);have Bl:=hid (HB3.out.trans (hb4.mono Ta));have hk4:=Dc Bl.out Any;obtain⟨e0,e1,e2⟩:=Cq Bl.out;have hcA:w4.cell? ⟨bA,oA+i,none⟩=some (.int .i64 (p:Int)):=by rw[hk4.cell trivial Rn];exact HC.out.2.2.1
   have hcB:w4.cell? ⟨bB,oB+i,none⟩=some (.int .i64 (t:Int)):=by rw[hk4.cell trivial UQ];exact HC.out.2.2.2
   have BS:w4.cell? ⟨bO,oO+i,none⟩=some (.int .i64 (L.o:Int)):=by rw[hk4.cell trivial CQ];exact HC.out.1
   have hcP:w4.cell? ⟨bP,oP+i,none⟩=some uP:=by rw[hk4.cell trivial FE];exact HC.out.2.1
   have tY:w.heap.size+1≤w4.heap.size:=by have:=Bl.out.size;simp at this;omega
   have w1:IntKind.i64.wrap ((p:Int)+(t:Int))=(p:Int)+(t:Int):=AY _ (by omega);have w6:(i:Int)<(T.length:Int):=by omega
   have w7:(0:Int)≤(i:Int):=by omega
   have HK4:=hid hk4;clear Ey hb4 hk4 hR;by_cases hge:L.o≤p+t
   ·have hgi:(L.o:Int)≤(p:Int)+(t:Int):=by omega
    have AMf:decide ((p:Int)+(t:Int)≥(L.o:Int))=true:=by simp;omega
    have w3:IntKind.i64.wrap ((i:Int)+1)=(i:Int)+1:=AY _ (by omega);have APS:bP<w4.heap.size:=by omega
    have AO7:w.heap.size<w4.heap.size:=by omega
    have lM:=hid (GD.out.keep (AA.trans (Dc Bl.out Any) AJ));have BP:=hid (HP.out.keep HK4.out);have Yy:=hid (C8 HK.out.1 HK.out.2.2.2.1 IU.out);go_wp2_with fail;go_quiet (fail);go_wp2_with fail;go_region_held3 (fun w'=>(∀b o,b<w4.heap.size→w'.cell? ⟨b,o,none⟩=w4.cell? ⟨b,o,none⟩)∧AA (fun _=>True) w4 w')
     (first|exact Au ((AJ.drewN _).drew)|exact Au (AA.trans ((AJ.drewN _).drew) (AA.of_below (by assumption))))
     (first|(go_at_call 168;refine(HAT.out _ _ _ _ _ _ (pad (i+1) L.w) (pad (i+1) R) (BP.out.keep ((AJ.drewN _).drew)) (lM.out.keep ((AJ.drewN _).drew)) ((Iu.out.sl.mono (fun _ _=>trivial)).keep ((AJ.drewN _).drew)) (by rw[Bg,AZ HK.out.2.2.2.1];simp;omega) (by rw[Bg,AZ IU.out];simp;omega) (by rw[BJ];exact HK.out.2.2.2.1) (by rw[BJ];exact IU.out)).mono ?_;rintro e w6 ⟨v6,rfl,A8,hb6⟩))
    rw[BJ,BJ]at A8;have Rt:=hid (show w.heap.size+1≤w6.heap.size from Ad tY (Ad (show w4.heap.size≤((w4.drewN nq).drew).heap.size from((((AA.refl (fun _=>True) w4).drewN nq).drew).size)) hb6.size));have hs4:w.heap.size+1≤((w4.drewN nq).drew).heap.size:=Ad tY ((((AA.refl (fun _=>True) w4).drewN nq).drew).size);have FP:=hid (A8.mono hs4);have Ar:=hid ((Bl.out.trans (Dk AX nq).drew).trans (hb6.mono hs4));clear A8 hb6;go_wp2_with fail;have CR:(ints (pad (i+1) (mul (T.drop (i+1)) L.w R))).length=T.length:=by rw[BL,Bg,AZ Yy.out];simp;omega
    refine(NY Any _ _ _ (FP.out.sl.mono (fun _ _=>trivial)) (by omega)).mono ?_;rintro e w7 ⟨g7,c7,rfl,Cr,Cz⟩;rw[CR]at Cr ⊢;have N9:=hid (Ar.out.trans (Cz.mono Rt.out));have M8:=hid (Cr.mono (B':=w.heap.size+1) Rt.out);obtain⟨s7,f7⟩:=M8.out.cell (j:=i) (a:=0) (by rw[Fx,pad,EA (by simp)];simp);obtain⟨hF,hG⟩:=M8.out.Nh i (p+t-L.o);have tV:=M8.out.lt;have Jh:=hid (N9.out.grown hG (by have:=N9.out.size;simp at this;omega) (by intro k hk;cases hk;omega));have KJ:=hid hF;clear Cr Cz hF hG CR;go_wp2_with fail;go_ret;have hres:pad i (mul (T.drop i) (a.drop i) (b.drop i))=(pad (i+1) (mul (T.drop (i+1)) L.w R)).set i (p+t-L.o):=by
     rw[drop_cons HT.out.2.2,EX (show i<a.length by omega),EX (show i<b.length by omega),(Ag.1 IQ.out.1).2,(Ag.1 IQ.out.2).2,JN,Bo hge,←HRR.out,show pad (i+1) (mul (T.drop (i+1)) L.w R)=pad i (0::(mul (T.drop (i+1)) L.w R)) by rw[←Qz];rfl];simp[pad]
    rw[hres];rw[show((p:Int)+(t:Int)-(L.o:Int))=((p+t-L.o:Nat):Int) by omega];exact⟨_,rfl,by have:=KJ.out.mono (B':=w.heap.size) (by omega);exact this,Dq Jh.out⟩
   ·have hgi:¬(L.o:Int)≤(p:Int)+(t:Int):=by omega
    have AMf:decide ((p:Int)+(t:Int)≥(L.o:Int))=false:=by simp;omega
    have Yy:=IU;go_wp2_with fail;go_quiet (fail);go_wp2_with fail;have Rt:=hid (show w.heap.size+1≤(w4.drewN nq).heap.size from Ad tY (((AA.refl (fun _=>True) w4).drewN nq).size));have FP:=hid (Iu.out.drewN nq);have Ar:=hid (Bl.out.trans (Dk AX nq));have CR:(ints (pad (i+1) (R))).length=T.length:=by rw[BL,Bg,AZ Yy.out];simp;omega
    refine(NY Any _ _ _ (FP.out.sl.mono (fun _ _=>trivial)) (by omega)).mono ?_;rintro e w7 ⟨g7,c7,rfl,Cr,Cz⟩;rw[CR]at Cr ⊢;have N9:=hid (Ar.out.trans (Cz.mono Rt.out));have M8:=hid (Cr.mono (B':=w.heap.size+1) Rt.out);obtain⟨s7,f7⟩:=M8.out.cell (j:=i) (a:=0) (by rw[Fx,pad,EA (by simp)];simp);obtain⟨hF,hG⟩:=M8.out.Nh i (p+t);have tV:=M8.out.lt;have Jh:=hid (N9.out.grown hG (by have:=N9.out.size;simp at this;omega) (by intro k hk;cases hk;omega));have KJ:=hid hF;clear Cr Cz hF hG CR;go_wp2_with fail;go_ret;have hres:pad i (mul (T.drop i) (a.drop i) (b.drop i))=(pad (i+1) (R)).set i (p+t):=by
     rw[drop_cons HT.out.2.2,EX (show i<a.length by omega),EX (show i<b.length by omega),(Ag.1 IQ.out.1).2,(Ag.1 IQ.out.2).2,JN,BD hge,←HRR.out,show pad (i+1) (R)=pad i (0::(R)) by rw[←Qz];rfl];simp[pad]
    rw[hres];exact⟨_,rfl,by have:=KJ.out.mono (B':=w.heap.size) (by omega);exact this,Dq Jh.out⟩
end Go.Proofs.YtaadbccidfdniaaGreat.iw
namespace Go.Proofs.YtaadbccidfdniaaGreat.Kc
open Go.RowKit Go.Proofs.YtaadbccidfdniaaGreat AB JU Dr iw
theorem at_end (T:Tw)(hs:Small T):Vh T T.length:=by
 intro w vO vP vC va vb a b hP ha hb hal hbl Rs O1;have hs6:=hs.1;have hmk:=Kl T.length hs6;obtain⟨aO,cO,aP,cP,aC,cC,rfl,rfl,rfl,Eo,hP1,FC⟩:=hP.open;have HO:=hid (Own.made (B:=w.heap.size) (w.alloc (.cells #[.slice aO T.length cO,.slice aP T.length cP,.slice aC T.length cC] 28)) T.length (by simp) (by unfold maxLen;omega));have hd:decide ((T.length:Int)≥(T.length:Int))=true:=by simp
 clear hP ha hb Rs O1;go_enter Tryz.func168,Tryz.ntmps168;go_wp2_with fail;go_ret;have hz:pad T.length (mul (T.drop T.length) (a.drop T.length) (b.drop T.length))=List.replicate T.length 0:=by
  rw[Nb];simp[pad,mul]
 rw[hz,←OX];have h1:=HO.out;simp only[World.size_alloc]at h1;refine⟨_,rfl,h1,?_⟩;exact(AX.alloc AR _).alloc (by simp) _
theorem AAe (T:Tw)(hT:Wf T)(hs:Small T)(m:Nat):∀i,T.length-i=m→i≤T.length→Vh T i∧∀L,T[i]?=some L→gF T i L:=by
 induction m with
 |zero=>
  intro i h1 h2;obtain rfl:i=T.length:=by omega
  exact⟨at_end T hs,fun L hL=>by simp at hL⟩
 |succ m ih=>
  intro i h1 h2;have hlt:i<T.length:=by omega
  have hL:T[i]?=some T[i]:=AO hlt;have hA:=(ih (i+1) (by omega) (by omega)).1;have hI:=fun L hL=>AHn T hT hs i L hL hA;exact⟨ALZ T hT hs i _ hL hA (hI _ hL),hI⟩
theorem MZ (T:Tw)(hT:Wf T)(hs:Small T)(i:Nat)(hi:i≤T.length):Vh T i:=(AAe T hT hs _ i rfl hi).1
theorem AJj (T:Tw)(hT:Wf T)(hs:Small T)(i:Nat)(L:Lv)(hL:T[i]?=some L):gF T i L:=
 (AAe T hT hs _ i rfl (DT (Ag.1 hL).1)).2 L hL
theorem YC (T:Tw)(hT:Wf T)(hs:Small T)(w:World)(vO vP vC va vb:Value)(a b:List Nat)(hP:BC Any w vO vP vC (AQ T))(ha:AL Any w va (ints a))(hb:AL Any w vb (ints b))(Rs:El T a)(O1:El T b):
  Calls Tryz.prog 143 #[.agg #[vO,vP,vC],va,vb] w (Kk (ints (mul T a b)) w):=by
 have HP:=hid hP;have HA:=hid ha;have HB:=hid hb;have HAT:=hid (MZ T hT hs 0 (AU _));clear hP ha hb;go_enter Tryz.func143,Tryz.ntmps143;go_wp2_with fail;refine(HAT.out _ _ _ _ _ _ a b (HP.out.keep (AJ.alloc _)) (HA.out.keep (AJ.alloc _)) (HB.out.keep (AJ.alloc _)) (AZ Rs) (AZ O1) Rs O1).mono ?_;rintro e w2 ⟨v2,rfl,ho,hb⟩;have HO:=hid (ho.mono (B':=w.heap.size) (by simp));have HB2:=hid (((A7 w.heap.size w).alloc AR _).trans (hb.mono (by simp)));clear ho hb;go_wp2_with fail;go_ret;exact⟨_,rfl,HO.out,HB2.out⟩
def ALa (a b:List Int)(w:World)(e:Ending)(w':World):Prop:=e= .returned (.bool (decide (a=b)))∧∃n,w'=w.drewN n
theorem NW (w:World)(va vb:Value)(a b:List Int)(ha:AL Any w va a)(hb:AL Any w vb b):
  Calls Tryz.prog 141 #[va,vb] w (ALa a b w):=by
 obtain⟨aA,cA,rfl,_,Ox,_,hA⟩:=ha;obtain⟨aB,cB,rfl,_,Oy,_,hB⟩:=hb;unfold maxLen at Ox Oy;have AMM:(a.length:Int)≤9223372036854775807:=by omega
 have HMA:=hid Ox;have HMB:=hid Oy;clear Ox Oy;by_cases hl:a.length=b.length
 ·have hl2:((a.length:Int) !=(b.length:Int))=false:=by simp;omega
  have HA:=hid hA;have HB:=hid hB;have HL:=hid hl;clear hA hB hl;go_enter Tryz.func141,Tryz.ntmps141;go_wp2_with fail;go_loopw [5] (fun i wr=>∃k:Nat,k≤a.length∧i= .int .i64 (k:Int)∧Hid ((∀j,j<k→a[j]?=b[j]?)∧∃n,wr=w.drewN n)) (fun i _=>a.length-(intOf i).toNat);case atStart=>exact⟨0,AU _,rfl,hid ⟨fun j h=>absurd h (CO _),0,rfl⟩⟩
  case round=>
   obtain⟨k,hk,rfl,hR⟩:=hrel;obtain⟨m,hw⟩:=hR.out.2;subst hw;by_cases hlt:k<a.length
   ·obtain⟨x,hx⟩:∃x,a[k]?=some x:=⟨_,AO hlt⟩;obtain⟨y,hy⟩:∃y,b[k]?=some y:=⟨_,AO (by rw[←HL.out];exact hlt)⟩;obtain⟨bA,oA,rfl,_,Rn,u,hcA,rfl⟩:=HA.out k x hx;obtain⟨bB,oB,rfl,_,UQ,u,hcB,rfl⟩:=HB.out k y hy;have hk2:k<b.length:=by rw[←HL.out];exact hlt
    have HX:=hid hx;have HY:=hid hy;have w4:(k:Int)<(a.length:Int):=by omega
    have w5:(0:Int)≤(k:Int):=by omega
    have w6:(k:Int)<(b.length:Int):=by omega
    clear hx hy;by_cases hxy:x=y
    ·have h2:(x !=y)=false:=by simp[hxy]
     have Ro:=hid hxy;clear hxy;go_wp2_with fail;go_quiet (fail);go_wp2_with fail;go_roundw;case rel=>exact⟨k+1,by omega,by go_num,hid ⟨fun j hj=>by
       rcases EB.1 hj with h|h
       ·exact hR.out.1 j h
       ·subst h;rw[HX.out,HY.out,Ro.out],m+nq,by first|rfl|rw[Pt]⟩⟩
     case measure=>simp[intOf];omega
    ·have h2:(x !=y)=true:=by simpa using hxy
     have Ro:=hid hxy;clear hxy;go_wp2_with fail;go_quiet (fail);go_wp2_with fail;go_ret;refine⟨Vq ?_,m+nq,by first|rfl|rw[Pt]⟩
     symm
     rw[decide_eq_false_iff_not];intro e;rw[e,HY.out]at HX;exact Ro.out (Mc HX.out).symm
   ·obtain rfl:k=a.length:=by omega
    go_wp2_with fail;go_ret;refine⟨Vq ?_,m,rfl⟩
    symm
    rw[Yp];apply Oi;intro j;by_cases hj:j<a.length
    ·exact hR.out.1 j hj
    ·rw[J9 (by omega),J9 (by rw[←HL.out];omega)]
 ·have hl2:((a.length:Int) !=(b.length:Int))=true:=by simp;omega
  clear hA hB;go_enter Tryz.func141,Tryz.ntmps141;go_wp2_with fail;go_ret;refine⟨Vq ?_,0,rfl⟩
  symm
  rw[decide_eq_false_iff_not];intro e;exact hl (by rw[e])
end Go.Proofs.YtaadbccidfdniaaGreat.Kc
namespace Go.Proofs.YtaadbccidfdniaaGreat.OA
open Go.RowKit Go.Lib Go.Proofs.YtaadbccidfdniaaGreat AB Df Cc
theorem RQ {B n c j:Nat}{w:World}{a:Option Addr}(h:R1 B w n (.slice a n c))(hj:j<n):∃g cur x,a=some ⟨g,0,none⟩∧w.cell? ⟨g,j,none⟩=some (.int .i64 x)∧w.frozen? ⟨g,j,none⟩=false∧w.heap[g]?=some (.cells cur 2 (0,0))∧B≤g∧g<w.heap.size:=by
 obtain⟨l,h1,h2⟩:=h;rcases id h2.2 with⟨h3,h4⟩|⟨g,cap,cur,h3,hB,hg,_,_,_,ht⟩
 ·omega
 ·simp only[EY]at h3;obtain⟨rfl,-, -⟩:=h3;have e1:(vals l)[j]?=some (.int .i64 (l[j]'(by omega))):=by simp[vals]
  rw[←ht,Pq]at e1;split at e1
  ·rw[TL]at e1;exact⟨g,cur,_,rfl,by rw[Ah w g j cur _ (0,0) hg];exact e1,BQ w g j cur _ hg,hg,hB,(Ba.1 hg).1⟩
  ·cases e1
theorem LM {B n:Nat}{w:World}{v:Value}{l:List Int}(h:w.ownsRow B 2 1 v n (vals l))(hl:l.length=n):AL Any w v l:=by
 subst hl;exact(Own.sl h).mono fun _ _=>trivial
theorem gG {α:Type}{E:World→Value→α→Prop}{B n:Nat}{e:TypeId}{w:World}{v:Value}{us:List Value}(h:w.ownsRow B e 1 v n us)(xs:List α)(hx:xs.length=n)
  (hE:∀(i:Nat) x,xs[i]?=some x→∃u,us[i]?=some u∧E w u x):Aq E (fun k=>B≤k) w v xs:=by
 rcases h.2 with⟨rfl,h0⟩|⟨g,cap,cur,rfl,hB,hg,hn,hm,hc,ht⟩
 ·have:xs=[]:=D8 (by omega);subst this;exact⟨none,0,rfl,Av _,AU _,fun _=>rfl,fun i x hi=>by simp at hi⟩
 ·refine⟨some ⟨g,0,none⟩,cap,by rw[hx],by rw[hx];exact hn,hm,(fun e=>by cases e),fun i x hi=>?_⟩;obtain⟨u,hu,he⟩:=hE i x hi;refine⟨g,0,rfl,hB,(Ba.1 hg).1,u,?_,he⟩;have hil:i<n:=by rw[←hx];exact(Ag.1 hi).1
  rw[Cg,Ah w g i cur e (0,0) hg,←hu,←ht,YT (by omega)];simp
theorem fin_at {α:Type}{n:Nat}(f:Fin n→α){i:Nat}{x:α}(h:((List.finRange n).map f)[i]?=some x):∃hi:i<n,x=f ⟨i,hi⟩:=by
 simp only[Bn,II]at h;obtain⟨j,hj,rfl⟩:=h;obtain⟨hl,e⟩:=Ag.1 hj;simp only[List.length_finRange]at hl;refine⟨hl,?_⟩;rw[←e];simp
theorem AJk {n:Nat}{α:Type}(f:Fin n→α)(g:α→Nat)(L:List Nat)(hL:L.length=n)(h:∀i:Fin n,L[i.1]?=some (g (f i))):((List.finRange n).map f).map g=L:=by
 apply Oi;intro i;by_cases hi:i<n
 ·rw[h ⟨i,hi⟩];simp[hi]
 ·rw[J9 (by simp;omega),J9 (by omega)]
theorem R2.sl {B:Nat}{L:List Nat}{w:World}{v:Value}(h:R2 B w L v):∃rows:List (List Int),rows.map List.length=L∧AP (fun k=>B≤k) w v rows:=by
 obtain⟨us,ho,hu⟩:=h;have hz:∀i:Fin L.length,∃l:List Int,L[i.1]?=some l.length∧∃u,us[i.1]?=some u∧AL (fun k=>B≤k) w u l:=fun i=>by
  obtain⟨u,h1,h2⟩:=hu i.1 _ (AO i.2);obtain⟨l,h3,h4⟩:=h2.sl;exact⟨l,by rw[h3];exact AO i.2,u,h1,h4⟩
 refine⟨(List.finRange L.length).map fun i=>Classical.choose (hz i),AJk _ _ L rfl (fun i=>(P5 (hz i)).1),gG ho _ (by simp) fun i x hx=>?_⟩;obtain⟨hi,rfl⟩:=fin_at _ hx;exact(P5 (hz ⟨i,hi⟩)).2
theorem R3.sl {B:Nat}{M:List (List Nat)}{w:World}{v:Value}(h:R3 B w M v):∃cs:List (List (List Int)),cs.map (fun r=>r.map List.length)=M∧GA (fun k=>B≤k) w v cs:=by
 obtain⟨us,ho,hu⟩:=h;have hz:∀i:Fin M.length,∃r:List (List Int),M[i.1]?=some (r.map List.length)∧∃u,us[i.1]?=some u∧AP (fun k=>B≤k) w u r:=fun i=>by
  obtain⟨u,h1,h2⟩:=hu i.1 _ (AO i.2);obtain⟨r,h3,h4⟩:=R2.sl h2;exact⟨r,by rw[h3];exact AO i.2,u,h1,h4⟩
 refine⟨(List.finRange M.length).map fun i=>Classical.choose (hz i),?_,gG ho _ (by simp) fun i x hx=>?_⟩
 ·apply Oi;intro i;by_cases hi:i<M.length
  ·rw[(P5 (hz ⟨i,hi⟩)).1];simp[hi]
  ·rw[J9 (by simp;omega),J9 (by omega)]
 ·obtain⟨hi,rfl⟩:=fin_at _ hx;exact(P5 (hz ⟨i,hi⟩)).2
theorem ACl {B n:Nat}{w:World}{vO vP vC:Value}(h:PT B w n vO vP vC):∃P:Bu,BC (fun k=>B≤k) w vO vP vC P∧P.os.length=n∧P.ps.map List.length=List.replicate n n∧P.cs.map (fun r=>r.map List.length)=(List.range n).map fun i=>List.replicate (n-(i+1)) n:=by
 obtain⟨l,h1,h2⟩:=h.1.sl;obtain⟨ps,h3,h4⟩:=R2.sl h.2.1;obtain⟨cs,h5,h6⟩:=R3.sl h.2.2;exact⟨⟨l,ps,cs⟩,⟨h2,h4,h6⟩,h1,h3,h5⟩
end Go.Proofs.YtaadbccidfdniaaGreat.OA
namespace Go.Proofs.YtaadbccidfdniaaGreat.og
def Ed (s:ByteArray)(lN:UInt8):Nat→List ByteArray×Nat
 |0=>([],0)
 |k+1=>if s.data.toList[k]?=some lN then((Ed s lN k).1++[s.extract (Ed s lN k).2 k],k+1)else Ed s lN k
theorem ABW (s:ByteArray)(b:UInt8):∀k,(Ed s b k).2≤k
 |0=>Av _
 |k+1=>by
  have:=ABW s b k;simp only[Ed];split
  ·exact Av _
  ·omega
theorem oh (s:ByteArray)(b:UInt8):∀k,(Ed s b k).1.length≤k
 |0=>Av _
 |k+1=>by
  have:=oh s b k;simp only[Ed];split
  ·simp;omega
  ·omega
def parts (s:ByteArray)(b:UInt8):List ByteArray:=(Ed s b s.size).1++[s.extract (Ed s b s.size).2 s.size]
end Go.Proofs.YtaadbccidfdniaaGreat.og
namespace Go.Proofs.YtaadbccidfdniaaGreat.Split
open Go.RowKit og
theorem ALb:(Tryz.prog.info? 9).map (fun i=>(i.zero,i.size,i.bytes))=some (some (.string ⟨#[]⟩),1,16):=by kernel_rfl
theorem AHo (s:ByteArray)(b:UInt8)(w:World)(hs:s.size≤1000000000):
  Calls Tryz.prog 170 #[.string s,.int .u8 b.toNat] w fun e w'=>∃v,e= .returned v∧
   w'.ownsRow w.heap.size 9 1 v (parts s b).length ((parts s b).map Value.string)∧Below w.heap.size w w':=by
 obtain⟨i0,hi,hz0,hz1,hz2⟩:=Bt ALb;go_enter Tryz.func170,Tryz.ntmps170;go_wp2_with fail;go_loopw [5,6,7] (fun v f i wr=>∃k:Nat,k≤s.size∧i= .int .i64 k∧f= .int .i64 (Ed s b k).2∧
   wr.ownsRow w.heap.size 9 1 v (Ed s b k).1.length ((Ed s b k).1.map Value.string)∧Below w.heap.size w wr) (fun _ _ i _=>s.size-(intOf i).toNat)
 case atStart=>exact⟨0,AU _,rfl,rfl,Fb w #[] 0 AR (AU _) rfl,AX.alloc AR _⟩
 case round=>
  obtain⟨k,hk,rfl,rfl,hown,hbel⟩:=hrel;have hf:=ABW s b k;have hl:=oh s b k;have hsz:=hbel.size;by_cases hlt:k<s.size
  ·by_cases hb:s[k]=b
   ·have hs1:Hid (Ed s b (k+1)=((Ed s b k).1++[s.extract (Ed s b k).2 k],k+1)):=hid (by
     have:s.data.toList[k]?=some b:=by rw[AO (by exact hlt)];exact BM some hb
     simp[Ed,this])
    have ht:((s[k].toNat:Int)==(b.toNat:Int))=true:=by rw[hb];simp
    have HB:=hid hb;have HO:=hid hown;have Yz:=hid hbel;clear hb hown hbel;generalize hfe:(Ed s b k).2=f at hf ⊢;generalize hle:(Ed s b k).1=ps at hl ⊢;have HF:=hid hfe;have HL:=hid hle;clear hfe hle;go_wp2_with (at_builtin;refine Fz _ rfl _ _ 184 rfl w.heap.size 9 i0 (.string ⟨#[]⟩) 1 16 Tryz.underlying184 hi hz0 hz1 hz2 rfl (by decide) _ _ _ rfl ((show wr.ownsRow w.heap.size 9 1 _ ps.length (ps.map Value.string) by rw[←HL.out];exact HO.out).alloc _) ⟨wr.heap.size,0,none⟩ 1 1 [.string (s.extract f k)] rfl rfl ?c1 ?c2 ?c3 ?c4 ?c5 ?_);case c1=>exact cell_one_new _ _ _
    case c2=>intro u hu;simp only[F8,List.not_mem_nil,or_false]at hu;subst hu;rfl
    case c3=>unfold maxLen;omega
    case c4=>omega
    case c5=>simp;omega
    intro v' w1 hown' hgrow _;have hlt2:=Af (show wr.ownsRow w.heap.size 9 1 u5 _ _ from HO.out);have xk:=hid hown';have HB1:=hid ((Yz.out.alloc hsz _).grown hgrow (by simp;omega) (fun k hk=>(hlt2 k hk).1));clear hown' hgrow hlt2;go_wp2_with fail;go_roundw;case rel=>exact⟨k+1,by omega,by go_num,by rw[hs1.out];show _=Value.int .i64 ((k+1:Nat):Int);go_num,by rw[hs1.out,HL.out,HF.out];simpa using xk.out,HB1.out⟩
    case measure=>simp[intOf];omega
   ·have hs1:Hid (Ed s b (k+1)=Ed s b k):=hid (by
     have:¬s.data.toList[k]?=some b:=by
      rw[AO (by exact hlt)];exact fun h=>hb (Mc h)
     rw[Ed];exact BD this)
    have ht:((s[k].toNat:Int)==(b.toNat:Int))=false:=by
     simp only[LZ];intro h;exact hb (UInt8.toNat_inj.1 (by omega))
    have HO:=hid hown;have Yz:=hid hbel;clear hb hown hbel;go_wp2_with fail;go_roundw;case rel=>exact⟨k+1,by omega,by go_num,by rw[hs1.out],by rw[hs1.out];exact HO.out,Yz.out⟩
    case measure=>simp[intOf];omega
  ·obtain rfl:k=s.size:=by omega
   have HO:=hid hown;have Yz:=hid hbel;clear hown hbel hlt hk;have hpl:Hid ((parts s b)=(Ed s b s.size).1++[s.extract (Ed s b s.size).2 s.size]):=hid rfl;generalize hfe:(Ed s b s.size).2=f at hf ⊢;generalize hle:(Ed s b s.size).1=ps at hl ⊢;have HF:=hid hfe;have HL:=hid hle;clear hfe hle;go_wp2_with (at_builtin;refine Fz _ rfl _ _ 184 rfl w.heap.size 9 i0 (.string ⟨#[]⟩) 1 16 Tryz.underlying184 hi hz0 hz1 hz2 rfl (by decide) _ _ _ rfl ((show wr.ownsRow w.heap.size 9 1 _ ps.length (ps.map Value.string) by rw[←HL.out];exact HO.out).alloc _) ⟨wr.heap.size,0,none⟩ 1 1 [.string (s.extract f s.size)] rfl rfl ?c1 ?c2 ?c3 ?c4 ?c5 ?_);case c1=>exact cell_one_new _ _ _
   case c2=>intro u hu;simp only[F8,List.not_mem_nil,or_false]at hu;subst hu;rfl
   case c3=>unfold maxLen;omega
   case c4=>omega
   case c5=>simp;omega
   intro v' w1 hown' hgrow _;have hlt2:=Af (show wr.ownsRow w.heap.size 9 1 u5 _ _ from HO.out);have xk:=hid hown';have HB1:=hid ((Yz.out.alloc hsz _).grown hgrow (by simp;omega) (fun k hk=>(hlt2 k hk).1));clear hown' hgrow hlt2;go_wp2_with fail;go_ret;refine⟨v',rfl,?_,HB1.out⟩;rw[hpl.out,HL.out,HF.out];simpa using xk.out
end Go.Proofs.YtaadbccidfdniaaGreat.Split
namespace Go.Proofs.YtaadbccidfdniaaGreat.ABX
open Go.Lib
def AJl (acc:Nat)(l:List UInt8):Nat:=l.foldl (fun a c=>10*a+(c.toNat-48)) acc
def val (l:List UInt8):Nat:=AJl 0 l
def Uc (x:Nat):UInt8:=UInt8.ofNat (48+x)
theorem AAw (n:Nat)(h:n<10):decDigits n=[Uc n]:=by rw[decDigits,dif_pos h];rfl
theorem ACB (n:Nat)(h:¬n<10):decDigits n=decDigits (n/10)++[Uc (n%10)]:=by rw[decDigits,dif_neg h];rfl
theorem AJm (n:Nat):∀k,n<10^(k+1)→(decDigits n).length≤k+1:=by
 induction n using Nat.strongRecOn with
 |ind n ih=>
  intro k hk;by_cases h:n<10
  ·rw[AAw n h];simp
  ·rw[ACB n h];cases k with
   |zero=>simp at hk;omega
   |succ k=>
    have:=ih (n/10) (by omega) k (by rw[TI]at hk;omega);simp;omega
theorem AJn (ds:List UInt8)(n:Nat)(h:decDigits n=ds++[Uc (n%10)]):(⟨ds.toArray⟩:ByteArray)++⟨#[Uc (n%10)]⟩=⟨(decDigits n).toArray⟩:=by
 rw[h];apply ByteArray.ext;apply Array.toList_inj.1;simp[ByteArray.data_append]
end Go.Proofs.YtaadbccidfdniaaGreat.ABX
namespace Go.Proofs.YtaadbccidfdniaaGreat.Y0
open Go.RowKit Go.Lib ABX
theorem one_byte (x:Nat)(hx:x<10)(g:Nat)(w':World)(h:w'.cell? ⟨g,0,none⟩=some (.int .u8 (48+(x:Int)))):
  (convert 22 9 (.slice (some ⟨g,0,none⟩) 1 1)).run Tryz.prog w'= .ok (.string ⟨#[Uc x]⟩) w':=by
 refine run_convert_bytes_back (P:=Tryz.prog) w' 22 9 5 ⟨g,0,none⟩ 1 [Uc x] Tryz.underlying22 Tryz.underlying5 Tryz.underlying9 ?_;intro j hj;have hj0:j=0:=by simp at hj;omega
 subst hj0;rw[show(Addr.add ⟨g,0,none⟩ 0)=⟨g,0,none⟩ by simp[Addr.add],h];simp[Uc];omega
attribute [local go_sem ↓] Go.wp_at_zero Go.wp_at_succ
theorem AJo (n:Nat):∀(w:World),n≤1000000000→
  Calls Tryz.prog 183 #[.int .i64 n] w fun e w'=>e= .returned (.string ⟨(decDigits n).toArray⟩)∧Below w.heap.size w w':=by
 induction n using Nat.strongRecOn with
 |ind n ih=>
  intro w hn;by_cases h10:n<10
  ·have Ca:=one_byte n (by omega);have HD:=hid (AAw n h10);clear ih;go_enter Tryz.func183,Tryz.ntmps183;go_wp2_with fail;go_ret;exact⟨BM (fun l:List UInt8=>Ending.returned (Value.string ⟨l.toArray⟩)) HD.out.symm,AX.alloc AR _⟩
  ·have Ca:=one_byte (n%10) (by omega);rw[show((n%10:Nat):Int)=(n:Int)%10 by omega]at Ca;have HD:=hid (ACB n h10);have ih':=fun w=>ih (n/10) (by omega) w (by omega);rw[show((n/10:Nat):Int)=(n:Int)/10 by omega]at ih';have IH:=hid ih';have hlen:(decDigits (n/10)).length≤10:=AJm (n/10) 9 (by omega);clear ih ih';generalize hds:decDigits (n/10)=ds at IH HD hlen;have q1:IntKind.i64.wrap ((n:Int)/10)=(n:Int)/10:=AY _ (by omega);have q2:(n:Int).tmod 10=(n:Int)%10:=by rw[YS (by omega)]
   have q3:IntKind.i64.wrap (48+(n:Int)%10)=48+(n:Int)%10:=AY _ (by omega);have q4:IntKind.u8.wrap (48+(n:Int)%10)=48+(n:Int)%10:=by rw[IntKind.wrap_u8'];omega
   go_enter Tryz.func183,Tryz.ntmps183;go_upto_region 3 with fail;go_region_with (first|(go_at_call 183;refine(IH.out _).mono ?_;rintro e w1 ⟨rfl,hb1⟩;obtain⟨hc1,hf1⟩:=ADL hb1));all_goals
    go_wp2_with fail;go_ret;refine⟨BM (fun l:ByteArray=>Ending.returned (Value.string l)) (AJn ds n HD.out),?_⟩;first
     |exact(AX.drew.trans hb1).alloc hb1.size _
     |exact(AX.alloc AR _).drew.trans (hb1.mono (by simp))
end Go.Proofs.YtaadbccidfdniaaGreat.Y0
namespace Go.Proofs.YtaadbccidfdniaaGreat.Ud
open Go.RowKit Go.Proofs.YtaadbccidfdniaaGreat AB Val Dp Cn Dm Df Cc OA
def AMg (w:World)(e:Ending)(w':World):Prop:=∃n:Int,e= .returned (.int .i64 n)∧w'=w
theorem AHp (s:ByteArray)(w:World):Calls Tryz.prog 180 #[.string s] w (AMg w):=by
 go_enter Tryz.func180,Tryz.ntmps180;go_upto_region 1 with fail;go_cut [22] (fun v W=>(∃b,v= .bool b∧(b=false→s.size≤6))∧W=w);case first=>
  by_cases h0:s.size=0
  ·have hz:((s.size:Int)==0)=true:=by rw[h0];rfl
   go_wp2_with fail;go_meet;exact⟨⟨_,rfl,fun h=>by omega⟩,rfl⟩
  ·have hz:((s.size:Int)==0)=false:=LZ.2 (by omega);by_cases h6:6<s.size
   ·have xm:(6:Int)<(s.size:Int):=by omega
    go_wp2_with fail;go_meet;exact⟨⟨_,rfl,fun h=>by cases h⟩,rfl⟩
   ·have xm:¬(6:Int)<(s.size:Int):=by omega
    by_cases h1:1<s.size
    ·have h1i:(1:Int)<(s.size:Int):=by omega
     go_wp2_with fail;go_meet;exact⟨⟨_,rfl,fun h=>by omega⟩,rfl⟩
    ·have h1i:¬(1:Int)<(s.size:Int):=by omega
     go_wp2_with fail;go_meet;exact⟨⟨_,rfl,fun h=>by omega⟩,rfl⟩
 case rest=>
  obtain⟨⟨b,rfl,hb6⟩,rfl⟩:=hcut;cases b with
  |true=>
   go_wp2_with fail;go_ret;exact⟨_,rfl,rfl⟩
  |false=>
   have hs6:=hb6 rfl;clear hb6;go_wp2_with fail;go_loopw [3,4] (fun nv iv wr=>∃(n:Int) (i:Nat),i≤s.size∧nv= .int .i64 n∧iv= .int .i64 (i:Int)∧wr=wc) (fun _ iv _=>s.size-(intOf iv).toNat);case atStart=>exact⟨0,0,AU _,rfl,rfl,rfl⟩
   case round=>
    obtain⟨n,i,hi,rfl,rfl,rfl⟩:=hrel;by_cases hlt:i<s.size
    ·have hki:(i:Int)<(s.size:Int):=by omega
     have Gb:(0:Int)≤(i:Int):=by omega
     go_wp2_with fail;all_goals first
      |(go_ret
        exact⟨_,rfl,rfl⟩)
      |(go_roundw
        case rel=>exact⟨_,i+1,by omega,rfl,by go_num,trivial⟩
        case measure=>simp[intOf];omega)
    ·obtain rfl:i=s.size:=by omega
     go_wp2_with fail;go_ret;exact⟨_,rfl,rfl⟩
def jR (k n:Nat)(w:World)(e:Ending)(w':World):Prop:=∃(l:List Int) (a:Option Addr) (c:Nat) (b:Bool),e= .returned (.tuple #[.slice a l.length c,.bool b])∧w'.ownsRow w.heap.size 2 1 (.slice a l.length c) l.length (vals l)∧(∀x∈l,(1≤x∧x≤(k:Int))∨x≤ -1)∧l.length≤n∧Below w.heap.size w w'
theorem AJp {k n:Nat}{w w':World}{b:Bool}(h:Below w.heap.size w w'):jR k n w (.returned (.tuple #[.slice none 0 0,.bool b])) w':=⟨[],none,0,b,rfl,F7 _ _ _ _,fun x h=>by simp at h,AU _,h⟩
theorem ACm (x lo hi:Int)(w:World):Calls Tryz.prog 144 #[.int .i64 x,.int .i64 lo,.int .i64 hi] w fun e w'=>∃b:Bool,(b=true→lo≤x∧x≤hi)∧e= .returned (.bool b)∧w'=w:=by
 by_cases h:lo≤x∧x≤hi
 ·refine(WI x lo hi h.1 h.2 w).mono ?_;rintro e w' ⟨rfl,rfl⟩;exact⟨true,fun _=>h,rfl,rfl⟩
 ·refine(tQ x lo hi h w).mono ?_;rintro e w' ⟨rfl,rfl⟩;exact⟨false,fun h=>Bool.noConfusion h,rfl,rfl⟩
def I1 (P:Int→Prop)(B m:Nat)(w:World)(v:Value)(n:Nat):Prop:=∃l:List Int,l.length=n∧w.ownsRow B 2 1 v n (vals l)∧(∀x∈l,P x)∧n≤m
theorem I1.nil {P:Int→Prop}{B m:Nat}(w:World)(h:B≤w.heap.size):I1 P B m (w.alloc (.cells #[] 2)) (.slice (some ⟨w.heap.size,0,none⟩) 0 0) 0:=
 ⟨[],rfl,Fb (e:=2) (size:=1) w #[] 0 h (AU _) rfl,fun x h=>by simp at h,AU _⟩
theorem I1.push {P:Int→Prop}{B m n:Nat}{w':World}{v':Value}{l:List Int}{x:Int}(hl:l.length=n)(hp:∀y∈l,P y)(hx:P x)(hm:n+1≤m)(h:w'.ownsRow B 2 1 v' (n+1) (vals l++[.int .i64 x])):I1 P B m w' v' (n+1):=
 ⟨l++[x],by simp[hl],by simpa[vals]using h,fun y hy=>by
  rcases GY.1 hy with h|h
  ·exact hp y h
  ·rw[GU.1 h];exact hx,hm⟩
def lQ (k:Nat)(x:Int):Prop:=(1≤x∧x≤(k:Int))∨x≤ -1
theorem AHq (k:Nat)(hk:k≤100)(s:ByteArray)(hs:s.size≤1000)(w:World):
  Calls Tryz.prog 181 #[.int .i64 (k:Int),.string s] w (jR k s.size w):=by
 obtain⟨i0,hi0,hz0,hz1,hz2⟩:=Bt FX;cases ht:(s.toList==[49])with
 |true=>
  have HR1:=hid (show jR k s.size w (.returned (.tuple #[.slice (some ⟨w.heap.size,0,none⟩) 0 0,.bool true])) (w.alloc (.cells #[] 2)) from
   ⟨[],some ⟨w.heap.size,0,none⟩,0,true,rfl,Fb (e:=2) (size:=1) w #[] 0 AR (AU _) rfl,fun x h=>by simp at h,AU _,AX.alloc AR _⟩)
  go_enter Tryz.func181,Tryz.ntmps181;go_wp2_with fail;exact Aj (v:=.tuple #[.slice (some ⟨w.heap.size,0,none⟩) 0 0,.bool true]) (by simp[results,Tryz.results181,go_sem]) rfl HR1.out
 |false=>
  have Ru:=hid (I1.nil (P:=lQ k) (m:=s.size) w AR);go_enter Tryz.func181,Tryz.ntmps181;go_wp2_with fail;go_loopw [6,7] (fun ov iv wr=>∃(i n:Nat) (a:Option Addr) (c:Nat),i≤s.size∧n≤i∧iv= .int .i64 (i:Int)∧ov= .slice a n c∧Hid (I1 (lQ k) w.heap.size s.size wr (.slice a n c) n)∧Hid (Below w.heap.size w wr)) (fun _ iv _=>s.size-(intOf iv).toNat);case atStart=>exact⟨0,0,_,_,AU _,Av _,rfl,rfl,Ru,hid (AX.alloc AR _)⟩
  case round=>
   clear Ru;obtain⟨i,n,a,c,hi,hni,rfl,rfl,hL,hB⟩:=hrel;by_cases hlt:i<s.size
   ·have hki:(i:Int)<(s.size:Int):=by omega
    have Gb:(0:Int)≤(i:Int):=by omega
    have hz8:s[i].toNat<256:=s[i].toNat_lt;obtain⟨y,hy⟩:∃y:Nat,s[i].toNat=y:=⟨_,rfl⟩;rw[hy]at hz8;have hw1:IntKind.i64.wrap ((y:Int)-97)=(y:Int)-97:=AY _ (by omega);have hw2:IntKind.i64.wrap ((y:Int)-97+1)=(y:Int)-97+1:=AY _ (by omega);have hw3:IntKind.i64.wrap ((y:Int)-65)=(y:Int)-65:=AY _ (by omega);have hw4:IntKind.i64.wrap ((y:Int)-65+1)=(y:Int)-65+1:=AY _ (by omega);have Ce:IntKind.i64.wrap (-((y:Int)-65+1))= -((y:Int)-65+1):=AY _ (by omega);have OB:IntKind.i64.wrap (y:Int)=(y:Int):=AY _ (by omega);go_upto_region 7 with fail;go_cut [8,9] (fun u v W=>u= .int .i64 ((y:Int)-97+1)∧v= .int .i64 ((y:Int)-65+1)∧W=wr.drew);case first=>
     go_region_law (fail);all_goals
      go_wp2_with fail;go_meet;exact⟨rfl,rfl,rfl⟩
    case rest=>
     obtain⟨rfl,rfl,rfl⟩:=hcut;obtain⟨l,h1,h2,h3,h4⟩:=hL.out;have HI1:=hid (fun W=>ACm ((y:Int)-97+1) 1 (k:Int) W);have HI2:=hid (fun W=>ACm ((y:Int)-65+1) 1 (k:Int) W);go_wp2_with fail;refine(HI1.out _).mono ?_;rintro e w2 ⟨b1,hb1,rfl,rfl⟩;cases b1 with
     |true=>
      have HH1:=hid (hb1 rfl);clear hb1;have a1:=Br h2 (S:=Any) (((AA.refl _ wr).drew).alloc (.cells #[.int .i64 ((y:Int)-97+1)] 2)) (fun _ _=>trivial);have Ev:=hid h3;have Fq:=hB.out.size;clear h2 h3 hL;go_wp2_with (at_builtin;(refine GQ _ rfl _ _ 24 rfl w.heap.size 2 i0 (.int .i64 0) 1 8 Tryz.underlying24 hi0 hz0 hz1 hz2 rfl (by decide) _ _ _ rfl a1 ⟨wr.heap.size,0,none⟩ 1 1 [.int .i64 ((y:Int)-97+1)] rfl rfl (GN (cs:= #[.int .i64 ((y:Int)-97+1)]) (t:=2) (fr:=(0,0)) (BA wr.drew _)) (by simp[Value.oneCell']) (by decide) (by unfold maxLen;omega) (by omega) (by simp;omega) _ rfl ?_));intro g2 cap2 w6 hown2 hgrow2 KF hlt2;have Ar:=hid (((hB.out.drew).alloc Fq (.cells #[.int .i64 ((y:Int)-97+1)] 2)).grown hgrow2 (by simp;omega) (fun g hg=>(Af a1 g hg).1));have QO:=hid (I1.push (m:=s.size) h1 Ev.out (show lQ k ((y:Int)-97+1) from Or.inl HH1.out) (by omega) hown2);clear a1 hown2 hgrow2 KF hlt2 hB Fq;go_wp2_with fail;go_roundw;case rel=>exact⟨i+1,n+1,_,cap2,by omega,by omega,by go_num,rfl,QO,Ar⟩
      case measure=>simp[intOf];omega
     |false=>
      clear hb1;go_wp2_with fail;refine(HI2.out _).mono ?_;rintro e w2 ⟨b2,hb2,rfl,rfl⟩;cases b2 with
      |true=>
       have ko:=hid (hb2 rfl);clear hb2;have a1:=Br h2 (S:=Any) (((AA.refl _ wr).drew).alloc (.cells #[.int .i64 (-((y:Int)-65+1))] 2)) (fun _ _=>trivial);have Ev:=hid h3;have Fq:=hB.out.size;clear h2 h3 hL;go_wp2_with (at_builtin;(refine GQ _ rfl _ _ 24 rfl w.heap.size 2 i0 (.int .i64 0) 1 8 Tryz.underlying24 hi0 hz0 hz1 hz2 rfl (by decide) _ _ _ rfl a1 ⟨wr.heap.size,0,none⟩ 1 1 [.int .i64 (-((y:Int)-65+1))] rfl rfl (GN (cs:= #[.int .i64 (-((y:Int)-65+1))]) (t:=2) (fr:=(0,0)) (BA wr.drew _)) (by simp[Value.oneCell']) (by decide) (by unfold maxLen;omega) (by omega) (by simp;omega) _ rfl ?_));intro g2 cap2 w6 hown2 hgrow2 KF hlt2;have Ar:=hid (((hB.out.drew).alloc Fq (.cells #[.int .i64 (-((y:Int)-65+1))] 2)).grown hgrow2 (by simp;omega) (fun g hg=>(Af a1 g hg).1));have QO:=hid (I1.push (m:=s.size) h1 Ev.out (show lQ k (-((y:Int)-65+1)) from Or.inr (by have:=ko.out;omega)) (by omega) hown2);clear a1 hown2 hgrow2 KF hlt2 hB Fq;go_wp2_with fail;go_roundw;case rel=>exact⟨i+1,n+1,_,cap2,by omega,by omega,by go_num,rfl,QO,Ar⟩
       case measure=>simp[intOf];omega
      |false=>
       have HN:=hid (AJp (k:=k) (n:=s.size) (b:=false) hB.out.drew);clear h2 h3 hL hB hb2;go_wp2_with fail;exact Aj (v:=.tuple #[.slice none 0 0,.bool false]) (by simp[results,Tryz.results181,go_sem]) rfl HN.out
   ·obtain rfl:i=s.size:=by omega
    obtain⟨l,h1,h2,h3,h4⟩:=hL.out;subst h1;have HN:=hid (fun b=>show jR k s.size w (.returned (.tuple #[.slice a l.length c,.bool b])) wr from⟨l,a,c,b,rfl,h2,h3,h4,hB.out⟩);clear h2 h3 hL hB;go_wp2_with fail;exact Aj (v:=.tuple #[.slice a l.length c,.bool (decide ((0:Int)<(l.length:Int)))]) (by simp[results,Tryz.results181,go_sem]) rfl (HN.out _)
def jS (n:Nat)(w:World)(e:Ending)(w':World):Prop:=(∃g c,e= .returned (.tuple #[.slice (some ⟨g,0,none⟩) n c,.bool true])∧R1 w.heap.size w' n (.slice (some ⟨g,0,none⟩) n c)∧Below w.heap.size w w')∨(e= .returned (.tuple #[.slice none 0 0,.bool false])∧Below w.heap.size w w')
theorem AHJ (n:Nat)(hn:n≤100)(a:Option Addr)(m c:Nat)(l:List Int)(hl:l.length=m)(w:World)(hv:AL Any w (.slice a m c) l)(hm:m≤1000)(hp:∀x∈l,(1≤x∧x≤(n:Int))∨x≤ -1):
  Calls Tryz.prog 182 #[.int .i64 (n:Int),.slice a m c] w (jS n w):=by
 have HV:=hid hv;have HP:=hid hp;have HL:=hid hl;have hmk:=UU n (by omega) w;obtain⟨w1,hw1⟩:∃w1,w1=w.alloc (.cells (madeCells #[.int .i64 0] n) 2):=⟨_,rfl⟩;rw[←hw1]at hmk;obtain⟨g,hg⟩:∃g,w.heap.size=g:=⟨_,rfl⟩;have H1:=hid (show R1 w.heap.size w1 n (.slice (some ⟨g,0,none⟩) n n) from⟨List.replicate n 0,by simp,by
  have h:=Own.made (B:=w.heap.size) w n AR (by unfold maxLen;omega);unfold Own at h;rw[DK]at h;rw[hw1,←hg];exact h⟩)
 have HB1:=hid (show Below w.heap.size w w1 by rw[hw1];exact AX.alloc AR _);rw[hg]at hmk;have HG:=hid hg;clear hv hp hl hw1 hg;go_enter Tryz.func182,Tryz.ntmps182;go_wp2_with fail;go_loopw [7] (fun iv wr=>∃i:Nat,i≤m∧iv= .int .i64 (i:Int)∧Hid (R1 w.heap.size wr n (.slice (some ⟨g,0,none⟩) n n))∧Hid (Below w.heap.size w wr)) (fun iv _=>m-(intOf iv).toNat);case atStart=>exact⟨0,AU _,rfl,H1,HB1⟩
 case round=>
  clear H1 HB1;obtain⟨i,hi,rfl,hR,hB⟩:=hrel;by_cases hlt:i<m
  ·have hki:(i:Int)<(m:Int):=by omega
   have Gb:(0:Int)≤(i:Int):=by omega
   obtain⟨x,hx⟩:∃x,l[i]?=some x:=⟨_,AO (by rw[HL.out];exact hlt)⟩;have hpx:=HP.out x (Ak hx);obtain⟨b,o,u,rfl,_,hbl,Ep,rfl⟩:=J3 (HV.out.keep (AA.of_below hB.out)) hx;have Lu:i≤1000:=by omega
   have HX:=hid hx;clear hx;by_cases hneg:x<0
   ·have HN:=hid (show jS n w (.returned (.tuple #[.slice none 0 0,.bool false])) wr from .inr ⟨rfl,hB.out⟩);clear hpx hR hB;go_wp2_with fail;exact Aj (v:=.tuple #[.slice none 0 0,.bool false]) (by simp[results,Tryz.results182,go_sem]) rfl HN.out
   ·obtain⟨y,hy⟩:∃y:Nat,x=(y:Int)+1:=⟨(x-1).toNat,by omega⟩;subst hy;have hyn:y<n:=by omega
    have hyi:(y:Int)<(n:Int):=by omega
    have hw1:IntKind.i64.wrap ((y:Int)+1-1)=(y:Int):=by rw[AY _ (by omega)];omega
    have hw2:IntKind.i64.wrap (y:Int)=(y:Int):=AY _ (by omega);have hnn:¬(y:Int)+1<0:=by omega
    obtain⟨g',cur,x0,hgg,hc,hfz,Rv,hgB,hgl⟩:=RQ hR.out hyn;obtain rfl:g=g':=by simpa using hgg
    have hbg:¬b=g:=by
     obtain⟨b',o',u',e,_,AEE,_⟩:=J3 HV.out HX.out;simp only[Eg,Kj]at e;omega
    have HR2:=hid (fun t:Int=>(Ty.set1 (B:=w.heap.size) (b:=g) (i:=y) Rv t).one _ _ hR.out);have HB2:=hid (fun t:Int=>hB.out.setCell (p:=⟨g,y,none⟩) hgB (.int .i64 t));have M9:=hid (fun(W:World) (h:R1 w.heap.size W n (.slice (some ⟨g,0,none⟩) n n))=>(show R1 w.heap.size W.drew n (.slice (some ⟨g,0,none⟩) n n) from(Ty.keep (S:=Any) (AJ.drew) fun _ _=>trivial).one _ _ h));clear hgg Rv hpx hneg hR hB;go_upto_region 7 with fail;go_region_law (fail);all_goals
     go_wp2_with fail;go_roundw;case rel=>exact⟨i+1,by omega,by go_num,hid (by first|exact HR2.out _|exact M9.out _ (HR2.out _)),hid (by first|exact HB2.out _|exact(HB2.out _).drew)⟩
     case measure=>simp[intOf];omega
  ·obtain rfl:m=i:=by omega
   have hnl:¬(m:Int)<(m:Int):=by omega
   have HF:=hid (show jS n w (.returned (.tuple #[.slice (some ⟨g,0,none⟩) n n,.bool true])) wr from .inl ⟨g,n,rfl,hR.out,hB.out⟩);clear hR hB;go_wp2_with fail;exact Aj (v:=.tuple #[.slice (some ⟨g,0,none⟩) n n,.bool true]) (by simp[results,Tryz.results182,go_sem]) rfl HF.out
end Go.Proofs.YtaadbccidfdniaaGreat.Ud
namespace Go.Proofs.YtaadbccidfdniaaGreat.Wy
open Go.RowKit Go.Proofs.YtaadbccidfdniaaGreat AB Val Dp Cn Dm Df Cc OA Ud
theorem ALc:(Tryz.prog.info? 5).map (fun i=>(i.zero,i.size,i.bytes))=some (some (.int .u8 0),1,1):=by kernel_rfl
def Rx (l:List UInt8):List Value:=l.map fun b=>.int .u8 (b.toNat:Int)
theorem iy (z:Int):∃ub:UInt8,z%256=(ub.toNat:Int):=by
 refine⟨UInt8.ofNat (z%256).toNat,?_⟩;have h1:0≤z%256:=Int.emod_nonneg _ (by decide);have h2:z%256<256:=Int.emod_lt_of_pos _ (by decide);simp;omega
def ALd (w:World)(e:Ending)(w':World):Prop:=∃b:Bool,e= .returned (.bool b)∧w'=w
theorem AKu (a:Option Addr)(n c:Nat)(l:List Int)(hl:l.length=n)(hn:n≤1000)(w:World)(hv:AL Any w (.slice a n c) l):
  Calls Tryz.prog 184 #[.slice a n c] w (ALd w):=by
 have HV:=hid hv;have HL:=hid hl;clear hv hl;go_enter Tryz.func184,Tryz.ntmps184;go_wp2_with fail;go_loopw [3] (fun iv wr=>∃i:Nat,i≤n∧iv= .int .i64 (i:Int)∧wr=w) (fun iv _=>n-(intOf iv).toNat);case atStart=>exact⟨0,AU _,rfl,rfl⟩
 case round=>
  obtain⟨i,hi,rfl,rfl⟩:=hrel;by_cases hlt:i<n
  ·have hki:(i:Int)<(n:Int):=by omega
   have Gb:(0:Int)≤(i:Int):=by omega
   obtain⟨x,hx⟩:∃x,l[i]?=some x:=⟨_,AO (by rw[HL.out];exact hlt)⟩;obtain⟨b,o,u,rfl,_,hbl,Ep,rfl⟩:=J3 HV.out hx;clear hx;cases hx0:(x==0)with
   |true=>
    go_wp2_with fail;go_roundw;case rel=>exact⟨i+1,by omega,by go_num,trivial⟩
    case measure=>simp[intOf];omega
   |false=>
    go_wp2_with fail;go_ret;exact⟨_,rfl,rfl⟩
  ·obtain rfl:n=i:=by omega
   have hnl:¬(n:Int)<(n:Int):=by omega
   go_wp2_with fail;go_ret;exact⟨_,rfl,rfl⟩
def ADU (m:Nat)(w:World)(e:Ending)(w':World):Prop:=∃n a c,e= .returned (.slice a n c)∧I1 (fun _=>True) w.heap.size m w' (.slice a n c) n∧Below w.heap.size w w'
theorem ABY (a:Option Addr)(n c:Nat)(x:List Nat)(hl:x.length=n)(hn:n≤6)(h7:∀q∈x,q≤7)(w:World)(hv:AL Any w (.slice a n c) (ints x)):
  Calls Tryz.prog 187 #[.slice a n c] w (ADU 42 w):=by
 obtain⟨i0,hi0,hz0,hz1,hz2⟩:=Bt FX;have HV:=hid hv;have HL:=hid hl;have H7:=hid h7;have Ru:=hid (I1.nil (P:=fun _=>True) (m:=42) w AR);clear hv hl h7;go_enter Tryz.func187,Tryz.ntmps187;go_wp2_with fail;go_loopw [3,4] (fun ov iv wr=>∃(i k:Nat) (a:Option Addr) (c:Nat),i≤n∧k≤7*i∧iv= .int .i64 (i:Int)∧ov= .slice a k c∧Hid (I1 (fun _=>True) w.heap.size 42 wr (.slice a k c) k)∧Hid (Below w.heap.size w wr)) (fun _ iv _=>n-(intOf iv).toNat);case atStart=>exact⟨0,0,_,_,AU _,Av _,rfl,rfl,Ru,hid (AX.alloc AR _)⟩
 case round=>
  clear Ru;obtain⟨i,k,aw,cw,hi,hk,rfl,rfl,hL,hB⟩:=hrel;by_cases hlt:i<n
  ·have hki:(i:Int)<(n:Int):=by omega
   have Gb:(0:Int)≤(i:Int):=by omega
   have HI:=hid (And.intro hlt hk);obtain⟨q,hq⟩:∃q,x[i]?=some q:=⟨_,AO (by rw[HL.out];exact hlt)⟩;have Zw:=H7.out q (Ak hq);have HQ:=hid (show(ints x)[i]?=some (q:Int) by simp[ints,hq]);clear hq hlt hk;have Lu:i≤100:=by omega
   go_wp2_with fail;go_loopw [3,5] (fun ov tv wr=>∃(t k':Nat) (a:Option Addr) (c:Nat),t≤q∧k'=k+t∧tv= .int .i64 (t:Int)∧ov= .slice a k' c∧Hid (I1 (fun _=>True) w.heap.size 42 wr (.slice a k' c) k')∧Hid (Below w.heap.size w wr)) (fun _ tv _=>q-(intOf tv).toNat);case atStart=>exact⟨0,k,aw,cw,AU _,rfl,rfl,rfl,hL,hB⟩
   case round=>
    clear hL hB;obtain⟨t,k',aw,cw,ht,hkt,rfl,rfl,hL,hB⟩:=hrel;have Ry:=hid hkt;clear hkt;obtain⟨b,o,u,rfl,_,hbl,Ep,rfl⟩:=J3 (HV.out.keep (AA.of_below hB.out)) HQ.out;by_cases htq:t<q
    ·have AMh:(t:Int)<(q:Int):=by omega
     obtain⟨l,h1,h2,h3,h4⟩:=hL.out;have AMi:k'+1≤42:=by have:=Ry.out;have:=HI.out;omega
     have a1:=Br h2 (S:=Any) ((AA.refl _ wr).alloc (.cells #[.int .i64 ((i:Int)+1)] 2)) (fun _ _=>trivial);have Fq:=hB.out.size;have H1:=hid h1;clear h1 h2 h3 hL;go_wp2_with (at_builtin;(refine GQ _ rfl _ _ 24 rfl w.heap.size 2 i0 (.int .i64 0) 1 8 Tryz.underlying24 hi0 hz0 hz1 hz2 rfl (by decide) _ _ _ rfl a1 ⟨wr.heap.size,0,none⟩ 1 1 [.int .i64 ((i:Int)+1)] rfl rfl (GN (cs:= #[.int .i64 ((i:Int)+1)]) (t:=2) (fr:=(0,0)) (BA wr _)) (by simp[Value.oneCell']) (by decide) (by unfold maxLen;omega) (by omega) (by simp;omega) _ rfl ?_));intro g2 cap2 w6 hown2 hgrow2 KF hlt2;have Ar:=hid ((hB.out.alloc Fq (.cells #[.int .i64 ((i:Int)+1)] 2)).grown hgrow2 (by simp;omega) (fun g hg=>(Af a1 g hg).1));have QO:=hid (I1.push (P:=fun _=>True) (m:=42) H1.out (fun _ _=>trivial) trivial AMi hown2);clear a1 hown2 hgrow2 KF hlt2 hB Fq;go_wp2_with fail;go_roundw;case rel=>exact⟨t+1,k'+1,_,cap2,by omega,by have:=Ry.out;omega,by go_num,rfl,QO,Ar⟩
     case measure=>simp[intOf];omega
    ·obtain rfl:q=t:=by omega
     have AMh:¬(q:Int)<(q:Int):=by omega
     go_wp2_with fail;go_roundw;case rel=>exact⟨i+1,k',aw,cw,by have:=HI.out;omega,by have:=Ry.out;have:=HI.out;omega,by go_num,rfl,hL,hB⟩
     case measure=>have:=HI.out;simp[intOf];omega
  ·obtain rfl:n=i:=by omega
   have hnl:¬(n:Int)<(n:Int):=by omega
   have HF:=hid (show ADU 42 w (.returned (.slice aw k cw)) wr from⟨k,aw,cw,rfl,hL.out,hB.out⟩);clear hL hB;go_wp2_with fail;go_ret;exact HF.out
def Ij (m:Nat)(w:World)(e:Ending)(w':World):Prop:=∃t:ByteArray,e= .returned (.string t)∧t.size≤m∧Below w.heap.size w w'
theorem pK (a:Option Addr)(n c:Nat)(l:List Int)(hl:l.length=n)(hn:n≤1000)(w:World)(hv:AL Any w (.slice a n c) l):
  Calls Tryz.prog 186 #[.slice a n c] w (Ij (n+1) w):=by
 obtain⟨i8,hi8,h80,h81,h82⟩:=Bt ALc;have HV:=hid hv;have HL:=hid hl;have H1:=hid (show Ij (n+1) w (.returned (.string ⟨#[49]⟩)) w from⟨_,rfl,by show 1≤_;omega,A7 _ _⟩);have H0:=hid (show(w.alloc (.cells #[] 5)).ownsRow w.heap.size 5 1 (.slice (some ⟨w.heap.size,0,none⟩) 0 0) 0 (Rx []) from Fb (base:=w.heap.size) (e:=5) (size:=1) w #[] 0 AR (AU _) rfl);have Z0:=hid (fun(W:World) (g c:Nat) (L:List UInt8) (h:W.ownsRow w.heap.size 5 1 (.slice (some ⟨g,0,none⟩) L.length c) L.length (Rx L))=>run_convert_bytes_back (P:=Tryz.prog) W 22 9 5 ⟨g,0,none⟩ c L Tryz.underlying22 Tryz.underlying5 Tryz.underlying9 (fun j hj=>h.cells (g:=g) rfl j _ (by simp[Rx,hj])));clear hv hl;by_cases hn0:n=0
 ·have hz:((n:Int)==0)=true:=by rw[hn0];rfl
  clear hn0;go_enter Tryz.func186,Tryz.ntmps186;go_wp2_with fail;go_ret;exact H1.out
 have hz:((n:Int)==0)=false:=LZ.2 (by omega);go_enter Tryz.func186,Tryz.ntmps186;go_wp2_with fail;go_loopw [3,4] (fun ov iv wr=>∃(i:Nat) (L:List UInt8) (g c:Nat),i≤n∧iv= .int .i64 (i:Int)∧L.length=i∧ov= .slice (some ⟨g,0,none⟩) i c∧Hid (wr.ownsRow w.heap.size 5 1 (.slice (some ⟨g,0,none⟩) i c) i (Rx L))∧Hid (Below w.heap.size w wr)) (fun _ iv _=>n-(intOf iv).toNat);case atStart=>exact⟨0,[],_,_,AU _,rfl,rfl,rfl,H0,hid (AX.alloc AR _)⟩
 case round=>
  clear H0;obtain⟨i,L,g,cg,hi,rfl,lS,rfl,hO,hB⟩:=hrel;have EN:=hid lS;by_cases hlt:i<n
  ·have hki:(i:Int)<(n:Int):=by omega
   have Gb:(0:Int)≤(i:Int):=by omega
   obtain⟨x,hx⟩:∃x,l[i]?=some x:=⟨_,AO (by rw[HL.out];exact hlt)⟩;obtain⟨b,o,u,rfl,_,hbl,Ep,rfl⟩:=J3 (HV.out.keep (AA.of_below hB.out)) hx;clear hx;by_cases hx0:0<x
   ·clear HL;obtain⟨ub,hub⟩:∃ub:UInt8,(wrap64 (wrap64 (97+x)-1))%256=(ub.toNat:Int):=iy _;have a1:=Br hO.out (S:=Any) ((AA.refl _ wr).alloc (.cells #[.int .u8 (ub.toNat:Int)] 5)) (fun _ _=>trivial);have Fq:=hB.out.size;clear hO;go_wp2_with (at_builtin;(refine GQ _ rfl _ _ 22 rfl w.heap.size 5 i8 (.int .u8 0) 1 1 Tryz.underlying22 hi8 h80 h81 h82 rfl (by decide) _ _ _ rfl a1 ⟨wr.heap.size,0,none⟩ 1 1 [.int .u8 (ub.toNat:Int)] rfl rfl (GN (cs:= #[.int .u8 (ub.toNat:Int)]) (t:=5) (fr:=(0,0)) (BA wr _)) (by simp[Value.oneCell']) (by decide) (by unfold maxLen;omega) (by omega) (by simp;omega) _ rfl ?_));intro g2 cap2 w6 hown2 hgrow2 KF hlt2;have Ar:=hid ((hB.out.alloc Fq (.cells #[.int .u8 (ub.toNat:Int)] 5)).grown hgrow2 (by simp;omega) (fun g hg=>(Af a1 g hg).1));have FP:=hid (show w6.ownsRow w.heap.size 5 1 (.slice (some ⟨g2,0,none⟩) (i+1) cap2) (i+1) (Rx (L++[ub])) from by simpa[Rx]using hown2);clear a1 hown2 hgrow2 KF hlt2 hB Fq hub;go_wp2_with fail;go_roundw;case rel=>exact⟨i+1,L++[ub],g2,cap2,by omega,by go_num,by simp;omega,rfl,FP,Ar⟩
    case measure=>simp[intOf];omega
   ·clear HL;obtain⟨ub,hub⟩:∃ub:UInt8,(wrap64 (wrap64 (65-x)-1))%256=(ub.toNat:Int):=iy _;have a1:=Br hO.out (S:=Any) ((AA.refl _ wr).alloc (.cells #[.int .u8 (ub.toNat:Int)] 5)) (fun _ _=>trivial);have Fq:=hB.out.size;clear hO;go_wp2_with (at_builtin;(refine GQ _ rfl _ _ 22 rfl w.heap.size 5 i8 (.int .u8 0) 1 1 Tryz.underlying22 hi8 h80 h81 h82 rfl (by decide) _ _ _ rfl a1 ⟨wr.heap.size,0,none⟩ 1 1 [.int .u8 (ub.toNat:Int)] rfl rfl (GN (cs:= #[.int .u8 (ub.toNat:Int)]) (t:=5) (fr:=(0,0)) (BA wr _)) (by simp[Value.oneCell']) (by decide) (by unfold maxLen;omega) (by omega) (by simp;omega) _ rfl ?_));intro g2 cap2 w6 hown2 hgrow2 KF hlt2;have Ar:=hid ((hB.out.alloc Fq (.cells #[.int .u8 (ub.toNat:Int)] 5)).grown hgrow2 (by simp;omega) (fun g hg=>(Af a1 g hg).1));have FP:=hid (show w6.ownsRow w.heap.size 5 1 (.slice (some ⟨g2,0,none⟩) (i+1) cap2) (i+1) (Rx (L++[ub])) from by simpa[Rx]using hown2);clear a1 hown2 hgrow2 KF hlt2 hB Fq hub;go_wp2_with fail;go_roundw;case rel=>exact⟨i+1,L++[ub],g2,cap2,by omega,by go_num,by simp;omega,rfl,FP,Ar⟩
    case measure=>simp[intOf];omega
  ·obtain rfl:n=i:=by omega
   have hnl:¬(n:Int)<(n:Int):=by omega
   subst lS;have hcv:=Z0.out _ _ _ _ hO.out;have HF:=hid (show Ij (L.length+1) w (.returned (.string ⟨L.toArray⟩)) wr from⟨_,rfl,by show L.toArray.size≤_;simp,hB.out⟩);clear hO hB;go_wp2_with fail;go_ret;exact HF.out
theorem om (i:Nat)(hi:i≤100)(w:World):Calls Tryz.prog 185 #[.int .i64 (i:Int)] w (Ij 2 w):=by
 have hw1:IntKind.i64.wrap ((i:Int)+1)=(i:Int)+1:=AY _ (by omega);have HO:=hid (LM (l:=[(i:Int)+1]) (Q0 (B:=0) w #[.int .i64 ((i:Int)+1)] [(i:Int)+1] (AU _) (by simp[maxLen]) rfl) rfl);have HC:=hid ((pK (some ⟨w.heap.size,0,none⟩) 1 1 [(i:Int)+1] rfl (by omega) _ HO.out).mono (R':=Ij 2 w) (by
  rintro e w' ⟨t,rfl,ht,hb⟩;exact⟨t,rfl,ht,(AX.alloc AR _).trans (hb.mono (by simp))⟩))
 go_enter Tryz.func185,Tryz.ntmps185;go_wp2_with fail;refine HC.out.mono ?_;rintro e w6 ⟨t,rfl,ht,hb⟩;have HF:=hid (show Ij 2 w (.returned (.string t)) w6 from⟨t,rfl,ht,hb⟩);clear hb ht;go_wp2_with fail;go_ret;exact HF.out
end Go.Proofs.YtaadbccidfdniaaGreat.Wy
