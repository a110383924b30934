import Derived.Test.YtlmlamcoeegkbaaGreatZ0
import Derived.Test.YtlmlamcoeegkbaaGreatZb
import Derived.Test.YtlmlamcoeegkbaaGreatZa
import Derived.Laws.AppendOwnNone
/-
  Lemmas for the law FnOrbits, in short spelling.
-/
open Go.Lib (hid)
set_option linter.unusedVariables false
set_option linter.unusedSimpArgs false
set_option maxRecDepth 100000
set_option maxHeartbeats 40000000
namespace Go.Proofs.YtlmlamcoeegkbaaGreat.ImplV
open Go.RowKit Go.Proofs.YtlmlamcoeegkbaaGreat Tow Val
abbrev Any:Nat→Prop:=fun _=>True
def ExR (p:Prop)(w:World)(e:Ending)(w':World):Prop:=∃r:Bool,e= .returned (.bool r)∧(r=true↔p)∧w=w'
theorem prime_any (x:Int)(w:World):Calls Tryz.prog 106 #[.int .i64 x] w fun e w'=>e= .returned (.bool (primeB x))∧w=w':=by
 by_cases h2:x=2
 ·subst h2;go_enter Tryz.func106,Tryz.ntmps106;go_wp2_with fail;go_ret;exact⟨rfl,rfl⟩
 ·by_cases h3:x=3
  ·subst h3;go_enter Tryz.func106,Tryz.ntmps106;go_wp2_with fail;go_ret;exact⟨rfl,rfl⟩
  ·by_cases h5:x=5
   ·subst h5;go_enter Tryz.func106,Tryz.ntmps106;go_wp2_with fail;go_ret;exact⟨rfl,rfl⟩
   ·by_cases h7:x=7
    ·subst h7;go_enter Tryz.func106,Tryz.ntmps106;go_wp2_with fail;go_ret;exact⟨rfl,rfl⟩
    ·have e2:(x==2)=false:=by simpa using h2
     have e3:(x==3)=false:=by simpa using h3
     have e5:(x==5)=false:=by simpa using h5
     have e7:(x==7)=false:=by simpa using h7
     have HB:=hid (show primeB x=false by simp[primeB,h2,h3,h5,h7]);clear h2 h3 h5 h7;go_enter Tryz.func106,Tryz.ntmps106;go_wp2_with fail;go_ret;exact⟨by rw[HB.out];rfl,rfl⟩
theorem inside_T (x lo hi:Int)(h1:lo≤x)(h2:x≤hi)(w:World):Calls Tryz.prog 130 #[.int .i64 x,.int .i64 lo,.int .i64 hi] w fun e w'=>e= .returned (.bool true)∧w=w':=by
 have h1':x≥lo:=h1;go_enter Tryz.func130,Tryz.ntmps130;go_wp2_with fail;go_ret;exact⟨rfl,rfl⟩
theorem inside_F (x lo hi:Int)(h:¬(lo≤x∧x≤hi))(w:World):Calls Tryz.prog 130 #[.int .i64 x,.int .i64 lo,.int .i64 hi] w fun e w'=>e= .returned (.bool false)∧w=w':=by
 by_cases h1:lo≤x
 ·have h2:¬x≤hi:=fun h2=>h ⟨h1,h2⟩;have h3:decide (x≤hi)=false:=zq67 h2;have h4:decide (lo≤x)=true:=zq83 h1;clear h;go_enter Tryz.func130,Tryz.ntmps130;go_wp2_with fail;go_ret;exact⟨rfl,rfl⟩
 ·have h4:decide (lo≤x)=false:=zq67 h1;clear h;go_enter Tryz.func130,Tryz.ntmps130;go_wp2_with fail;go_ret;exact⟨rfl,rfl⟩
def Zero (l:List Int):Prop:=∀x∈l,x=0
theorem isZero_any (S:Nat→Prop)(v:Value)(l:List Int)(w:World)(hv:SlI S w v l):
  Calls Tryz.prog 84 #[v] w (ExR (Zero l) w):=by
 obtain⟨ao,c,rfl,hc,hm,_,hx⟩:=hv;unfold maxLen at hm;have HM:=hid hm;have hl63:(l.length:Int)≤9223372036854775807:=by omega
 have HX:=hid hx;clear hm hx;go_enter Tryz.func84,Tryz.ntmps84;go_wp2_with fail;go_loop [7] (fun i=>∃k:Nat,k≤l.length∧i= .int .i64 k∧Hid (∀j,j<k→∀x,l[j]?=some x→x=0)) (fun i=>l.length-(intOf i).toNat);case atStart=>exact⟨0,zq4 _,rfl,hid (fun j h=>absurd h (zq33 _))⟩
 case round=>
  obtain⟨k,hk,rfl,hz⟩:=hrel;by_cases hlt:k<l.length
  ·obtain⟨x,hg⟩:∃x,l[k]?=some x:=⟨_,zq0 hlt⟩;obtain⟨b,o,rfl,_,hb,u,hcell,rfl⟩:=HX.out k x hg;have HG:=hid hg;clear hg;by_cases h0:x=0
   ·subst h0;go_wp2_with fail;go_round;case rel=>exact⟨k+1,by omega,by go_num,hid (fun j hj y hy=>by
     rcases zq30.1 hj with h|h
     ·exact hz.out j h y hy
     ·subst h;rw[HG.out]at hy;exact(zq102 hy).symm)⟩
    case measure=>simp[intOf];omega
   ·have h1:(x !=0)=true:=by simpa using h0
    have H0:=hid h0;clear h0;go_wp2_with fail;go_ret;exact⟨false,rfl,⟨fun h=>absurd h (by simp),fun h=>absurd (h x (zq5 HG.out)) H0.out⟩,rfl⟩
  ·obtain rfl:k=l.length:=by omega
   go_wp2_with fail;go_ret;exact⟨true,rfl,⟨fun _ x hx=>by obtain⟨j,hj,rfl⟩:=zq87 hx;exact hz.out j hj _ (zq0 hj),fun _=>rfl⟩,rfl⟩
theorem isExponents_any (w:World)(b o:Nat)(P:Pres)(v:Value)(l:List Int)(hP:PtrP Any w b o P)(hv:SlI Any w v l)(hpr:∀x∈P.os,primeB x=true):
  Calls Tryz.prog 75 #[.pointer (some ⟨b,o,none⟩),v] w (ExR (TailV P.os 0 l) w):=by
 obtain⟨_,hbl,vO,vP,vC,hp0,hp1,hp2,hV⟩:=hP;obtain⟨aO,cO,rfl,hcO,hmO,_,hO⟩:=hV.os;obtain⟨ao,c,rfl,hc,hm,_,hx⟩:=hv;have hn63:(l.length:Int)≤9223372036854775807:=by unfold maxLen at hm;omega
 have HX:=hid hx;have HO:=hid hO;have HM:=hid (And.intro hmO hm);have HPR:=hid hpr;clear hx hO hmO hm hpr hV hp1 hp2;by_cases hl:l.length=P.os.length
 ·have hl2:((l.length:Int) !=(P.os.length:Int))=false:=by simp;omega
  have HL:=hid hl;clear hl;go_enter Tryz.func75,Tryz.ntmps75;go_wp2_with fail;go_loop [17] (fun i=>∃k:Nat,k≤l.length∧i= .int .i64 k∧Hid (∀j,j<k→∀x o,l[j]?=some x→P.os[j]?=some o→0≤x∧x<o)) (fun i=>l.length-(intOf i).toNat);case atStart=>exact⟨0,zq4 _,rfl,hid (fun j h=>absurd h (zq33 _))⟩
  case round=>
   obtain⟨k,hk,rfl,hz⟩:=hrel;by_cases hlt:k<l.length
   ·obtain⟨x,hg⟩:∃x,l[k]?=some x:=⟨_,zq0 hlt⟩;obtain⟨q,hq⟩:∃q,P.os[k]?=some q:=⟨_,zq0 (by rw[←HL.out];exact hlt)⟩;obtain⟨bX,oX,rfl,_,hbX,u,hcX,rfl⟩:=HX.out k x hg;obtain⟨bO,oO,rfl,_,hbO,u,hcO2,rfl⟩:=HO.out k q hq;have hk2:k<P.os.length:=by rw[←HL.out];exact hlt
    have hq7:=primeB_le (HPR.out q (zq5 hq));have HG:=hid (And.intro hg hq);clear hg hq;by_cases hin:0≤x∧x≤q-1
    ·have HI:=hid hin;clear hin;go_wp2_with (go_at_call 130;refine(inside_T x 0 (q-1) HI.out.1 HI.out.2 _).mono ?_;rintro e w' ⟨rfl,rfl⟩);go_round;case rel=>exact⟨k+1,by omega,by go_num,hid (fun j hj y p hy hp=>by
      rcases zq30.1 hj with h|h
      ·exact hz.out j h y p hy hp
      ·subst h;rw[HG.out.1]at hy;rw[HG.out.2]at hp;cases hy;cases hp;have:=HI.out;omega)⟩
     case measure=>simp[intOf];omega
    ·have HI:=hid hin;clear hin;go_wp2_with (go_at_call 130;refine(inside_F x 0 (q-1) HI.out _).mono ?_;rintro e w' ⟨rfl,rfl⟩);go_ret;exact⟨false,rfl,⟨fun h=>absurd h (by simp),fun h=>by have:=h.2 k x q HG.out.1 HG.out.2;exact absurd ⟨this.1,by omega⟩ HI.out⟩,rfl⟩
   ·obtain rfl:k=l.length:=by omega
    go_wp2_with fail;go_ret;exact⟨true,rfl,⟨fun _=>⟨HL.out,fun j x q hx hq=>by have:=hz.out j (zq2.1 hx).1 x q hx hq;exact⟨this.1,this.2,fun h=>absurd h (zq33 _)⟩⟩,fun _=>rfl⟩,rfl⟩
 ·have hl2:((l.length:Int) !=(P.os.length:Int))=true:=by simp;omega
  have HL:=hid hl;clear hl;go_enter Tryz.func75,Tryz.ntmps75;go_wp2_with fail;go_ret;exact⟨false,rfl,⟨fun h=>absurd h (by simp),fun h=>absurd h.1 HL.out⟩,rfl⟩
theorem SlI_head {S:Nat→Prop}{w:World}{b o n c:Nat}{l:List Int}(h:SlI S w (.slice (some ⟨b,o,none⟩) n c) l)(k:Nat)(hk:k≤n):SlI S w (.slice (some ⟨b,o,none⟩) k c) (l.take k):=by
 obtain⟨ao,c',e,h1,h2,h0,hx⟩:=h;obtain⟨rfl,rfl,rfl⟩:some ⟨b,o,none⟩=ao∧n=l.length∧c=c':=by simpa using e
 refine⟨_,c,by rw[zq75,Nat.min_eq_left hk],by rw[zq75];omega,h2,fun e=>absurd e (by simp),fun i x hi=>?_⟩;rw[zq106]at hi;split at hi
 ·exact hx i x hi
 ·cases hi
theorem tailVector_any (w:World)(b o i:Nat)(P:Pres)(v:Value)(l:List Int)(hP:PtrP Any w b o P)(hv:SlI Any w v l)(hpr:∀x∈P.os,primeB x=true)(hi:i<P.os.length)(hn:P.os.length≤6):
  Calls Tryz.prog 107 #[.pointer (some ⟨b,o,none⟩),.int .i64 (i:Int),v] w (ExR (TailV P.os (i+1) l) w):=by
 have HE:=hid (isExponents_any w b o P v l hP hv hpr);by_cases h0:TailV P.os 0 l
 ·have hl:=h0.1;obtain⟨ao,c,rfl,hc,hm,_,hx⟩:=hv;obtain⟨bX,oX,rfl,_,hbX,u,hcX,rfl⟩:=hx i l[i] (zq0 (by omega));have hv:SlI Any w (.slice (some ⟨bX,oX,none⟩) l.length c) l:=⟨_,c,rfl,hc,hm,fun e=>absurd e (by simp),hx⟩;have HZ:=hid (isZero_any Any _ _ w (SlI_head hv (i+1) (by omega)));have H0:=hid h0;have HM:=hid hm;have HIF:=hid (show Zero (l.take (i+1))↔TailV P.os (i+1) l from by
   constructor
   ·intro hz;refine⟨hl,fun j x q hx hq=>⟨(h0.2 j x q hx hq).1,(h0.2 j x q hx hq).2.1,fun hj=>hz x ?_⟩⟩;exact zq5 (i:=j) (by rw[zq106,zq57 hj];exact hx)
   ·intro ht x hx;obtain⟨j,hj,rfl⟩:=zq87 hx;have hj2:j<i+1:=by rw[zq75]at hj;omega
    have hjl:j<l.length:=by rw[zq75]at hj;omega
    rw[List.getElem_take];exact(ht.2 j _ _ (zq0 hjl) (zq0 (by omega))).2.2 hj2)
  have hlc:i+1≤l.length:=by omega
  have hcc:i+1≤c:=by omega
  have hl6:l.length≤6:=by omega
  clear hx hv hcX h0 hpr hP hm hl;go_enter Tryz.func107,Tryz.ntmps107;go_wp2_with fail;refine HE.out.mono ?_;rintro e w' ⟨r,rfl,hr,rfl⟩;obtain rfl:r=true:=hr.2 H0.out;clear hr;go_wp2_with fail;refine HZ.out.mono ?_;rintro e w' ⟨r,rfl,hr,rfl⟩;have HR:=hid hr;clear hr;go_wp2_with fail;go_ret;exact⟨r,rfl,HR.out.trans HIF.out,rfl⟩
 ·have H0:=hid h0;clear h0 hP hv hpr;go_enter Tryz.func107,Tryz.ntmps107;go_wp2_with fail;refine HE.out.mono ?_;rintro e w' ⟨r,rfl,hr,rfl⟩;obtain rfl:r=false:=by cases r;rfl;exact absurd (hr.1 rfl) H0.out
  clear hr;go_wp2_with fail;go_ret;exact⟨false,rfl,⟨fun h=>absurd h (by simp),fun h=>absurd ⟨h.1,fun j x q hx hq=>⟨(h.2 j x q hx hq).1,(h.2 j x q hx hq).2.1,fun h=>absurd h (zq33 _)⟩⟩ H0.out⟩,rfl⟩
end Go.Proofs.YtlmlamcoeegkbaaGreat.ImplV
namespace Go.Proofs.YtlmlamcoeegkbaaGreat.ImplW
open Go.RowKit Go.Proofs.YtlmlamcoeegkbaaGreat Tow Val ImplV
def ExB (p:Prop)(w:World)(e:Ending)(w':World):Prop:=∃r:Bool,e= .returned (.bool r)∧(r=true↔p)∧Below w.heap.size w w'
theorem ExB_false {p:Prop}{w w':World}(h:¬p)(hb:Below w.heap.size w w'):ExB p w (.returned (.bool false)) w':=⟨false,rfl,⟨fun h=>absurd h (by simp),fun h'=>absurd h' h⟩,hb⟩
theorem ExB_true {p:Prop}{w w':World}(h:p)(hb:Below w.heap.size w w'):ExB p w (.returned (.bool true)) w':=⟨true,rfl,⟨fun _=>h,fun _=>rfl⟩,hb⟩
theorem isPres_any (w:World)(vO vP vC:Value)(P:Pres)(hV:ValP Any w vO vP vC P):
  Calls Tryz.prog 58 #[.agg #[vO,vP,vC]] w (ExB (Valid P) w):=by
 have hW:=hV;obtain⟨aO,cO,rfl,hcO,hmO,hn1,hO⟩:=hV.os;obtain⟨aP,cP,rfl,hcP,hmP,hn2,hP⟩:=hV.ps;obtain⟨aC,cC,rfl,hcC,hmC,hn3,hC⟩:=hV.cs;have HMM:=hid (And.intro hmO (And.intro hmP hmC));have m1:(P.os.length:Int)≤9223372036854775807:=by unfold maxLen at hmO;omega
 have m2:(P.ps.length:Int)≤9223372036854775807:=by unfold maxLen at hmP;omega
 have m3:(P.cs.length:Int)≤9223372036854775807:=by unfold maxLen at hmC;omega
 have HB:=hid ((zq3 w.heap.size w).alloc zqN (.cells #[.slice aO P.os.length cO,.slice aP P.ps.length cP,.slice aC P.cs.length cC] 28));clear hmO hmP hmC hn1 hn2 hn3;by_cases h6:P.os.length≤6
 ·have hd6:decide ((P.os.length:Int)>6)=false:=by simp;omega
  by_cases hpl:P.ps.length=P.os.length
  ·have hp2:((P.ps.length:Int) !=(P.os.length:Int))=false:=by simp;omega
   by_cases hcl:P.cs.length=P.os.length
   ·have hc2:((P.cs.length:Int) !=(P.os.length:Int))=false:=by simp;omega
    have HPL:=hid hpl;have HCL:=hid hcl;have HO:=hid hO;have HP:=hid hP;have HC:=hid hC;have HPT:=hid (show PtrP Any (w.alloc (.cells #[.slice aO P.os.length cO,.slice aP P.ps.length cP,.slice aC P.cs.length cC] 28)) w.heap.size 0 P from by
     have hb:=zq3 (w.heap.size+1) (w.alloc (.cells #[.slice aO P.os.length cO,.slice aP P.ps.length cP,.slice aC P.cs.length cC] 28));obtain⟨e0,e1,e2⟩:=box_cells hb;exact⟨trivial,by simp,_,_,_,e0,e1,e2,hW.keep (keep_boxed hb _)⟩)
    have HKW:=hid (keep_boxed (zq3 (w.heap.size+1) (w.alloc (.cells #[.slice aO P.os.length cO,.slice aP P.ps.length cP,.slice aC P.cs.length cC] 28))) Any);clear hpl hcl hO hP hC hV hW;go_enter Tryz.func58,Tryz.ntmps58;go_wp2_with fail;go_loop [4,32] (fun q i=>∃k:Nat,k≤P.os.length∧i= .int .i64 (k:Int)∧∃z:Int,q= .int .i64 z∧1≤z∧z≤729∧Hid (z=prodI (P.os.take k)∧∀x∈P.os.take k,primeB x=true)) (fun _ i=>P.os.length-(intOf i).toNat);case atStart=>exact⟨0,zq4 _,rfl,1,rfl,by omega,by omega,hid ⟨rfl,fun x hx=>by simp at hx⟩⟩
    case round=>
     obtain⟨k,hk,rfl,z,rfl,hz1,hz2,hR⟩:=hrel;by_cases hlt:k<P.os.length
     ·obtain⟨x,hx⟩:∃x,P.os[k]?=some x:=⟨_,zq0 hlt⟩;obtain⟨bO,oO,rfl,_,hbO,u,hcO2,rfl⟩:=HO.out k x hx;have HX:=hid hx;clear hx;by_cases hpr:primeB x=true
      ·have hx7:=primeB_le hpr;have b1:1≤z*x:=by have:1*1≤z*x:=Int.mul_le_mul hz1 (by omega) (by omega) (by omega);simpa using this
       have b2:z*x≤5103:=by have:z*x≤729*7:=Int.mul_le_mul hz2 hx7.2 (by omega) (by omega);simpa using this
       have HPR:=hid hpr;clear hpr;by_cases hbig:z*x≤729
       ·have hg:decide (z*x>729)=false:=by simp;omega
        have HT:=hid (show z*x=prodI (P.os.take (k+1))∧∀y∈P.os.take (k+1),primeB y=true from by
         refine⟨by rw[prodI_take_succ HX.out,hR.out.1],fun y hy=>?_⟩;rw[zq69,HX.out]at hy;rcases zq68.1 hy with h|h
         ·exact hR.out.2 y h
         ·simp at h;rw[h];exact HPR.out)
        go_wp2_with (go_at_call 106;refine(prime_any x _).mono ?_;rintro e w' ⟨rfl,rfl⟩;rw[HPR.out]);go_round;case rel=>exact⟨k+1,by omega,by go_num,z*x,rfl,b1,hbig,HT⟩
        case measure=>simp[intOf];omega
       ·have hg:decide (z*x>729)=true:=by simp;omega
        have HN:=hid (show¬Valid P from fun h=>hbig (by
         have h1:=prodI_take_le h.pr (k+1);rw[prodI_take_succ HX.out,←hR.out.1]at h1;have:=h.le;omega))
        go_wp2_with (go_at_call 106;refine(prime_any x _).mono ?_;rintro e w' ⟨rfl,rfl⟩;rw[HPR.out]);go_ret;exact ExB_false HN.out HB.out
      ·have HPR:=hid (show primeB x=false by simpa using hpr);have HN:=hid (show¬Valid P from fun h=>hpr (h.pr x (zq5 HX.out)));clear hpr;go_wp2_with (go_at_call 106;refine(prime_any x _).mono ?_;rintro e w' ⟨rfl,rfl⟩;rw[HPR.out]);go_ret;exact ExB_false HN.out HB.out
     ·obtain rfl:k=P.os.length:=by omega
      have HPR:=hid (show(∀x∈P.os,primeB x=true)∧prodI P.os≤729 from by
       have h:=hR.out;rw[zq88]at h;exact⟨h.2,by rw[←h.1];exact hz2⟩)
      have HTV:=hid (fun(i:Nat) (v:Value) (l:List Int) (hv:SlI Any _ v l) (hi:i<P.os.length)=>tailVector_any _ w.heap.size 0 i P v l HPT.out hv HPR.out.1 hi h6);clear hR hlt hk;go_wp2_with fail;go_loop [50] (fun i=>∃k:Nat,k≤P.os.length∧i= .int .i64 (k:Int)∧Hid (∀j,j<k→(∀p,P.ps[j]?=some p→TailV P.os (j+1) p)∧∀c,P.cs[j]?=some c→c.length=P.os.length-1-j∧∀y∈c,TailV P.os (j+1) y)) (fun i=>P.os.length-(intOf i).toNat);case atStart=>exact⟨0,zq4 _,rfl,hid (fun j h=>absurd h (zq33 _))⟩
      case round=>
       obtain⟨i,hi,rfl,hR⟩:=hrel;by_cases hlt:i<P.os.length
       ·obtain⟨p,hp⟩:∃p,P.ps[i]?=some p:=⟨_,zq0 (by rw[HPL.out];exact hlt)⟩;obtain⟨c,hc⟩:∃c,P.cs[i]?=some c:=⟨_,zq0 (by rw[HCL.out];exact hlt)⟩;obtain⟨bP,oP,rfl,_,hbP,uP,hcP2,huP⟩:=HP.out i p hp;obtain⟨bC,oC,rfl,_,hbC,uC,hcC2,huC⟩:=HC.out i c hc;obtain⟨a2,c2,rfl,h21,h22,_,h24⟩:=huC;have m4:(c.length:Int)≤9223372036854775807:=by unfold maxLen at h22;omega
        have H22:=hid h22;have H24:=hid h24;have HUP:=hid (huP.keep HKW.out);have HPP:=hid hp;have HCC:=hid hc;have hi2:i<P.ps.length:=by rw[HPL.out];exact hlt
        have hi3:i<P.cs.length:=by rw[HCL.out];exact hlt
        have hd:decide ((i:Int)<(P.os.length:Int))=true:=by simp;omega
        clear hp hc huP h22 h24;by_cases htv:TailV P.os (i+1) p
        ·have HTP:=hid htv;clear htv;by_cases hln:c.length=P.os.length-1-i
         ·have hlb:((c.length:Int) !=(P.os.length:Int)-1-(i:Int))=false:=by simp;omega
          have HLN:=hid hln;clear hln;go_wp2_with (go_at_call 107;refine(HTV.out i _ p HUP.out hlt).mono ?_;rintro e w' ⟨r,rfl,hr,rfl⟩;obtain rfl:r=true:=hr.2 HTP.out;clear hr);go_loop [80] (fun kv=>∃k:Nat,k≤c.length∧kv= .int .i64 (k:Int)∧Hid (∀j y,j<k→c[j]?=some y→TailV P.os (i+1) y)) (fun kv=>c.length-(intOf kv).toNat);case atStart=>exact⟨0,zq4 _,rfl,hid (fun j y h=>absurd h (zq33 _))⟩
          case round=>
           obtain⟨k,hk,rfl,hS⟩:=hrel;by_cases hkc:k<c.length
           ·obtain⟨y,hy⟩:∃y,c[k]?=some y:=⟨_,zq0 hkc⟩;obtain⟨b2,o2,rfl,_,hb2,uy,hcy,huy⟩:=H24.out k y hy;have HUY:=hid (huy.keep HKW.out);have HY:=hid hy;clear hy huy;by_cases hty:TailV P.os (i+1) y
            ·have HTY:=hid hty;clear hty;go_wp2_with (go_at_call 107;refine(HTV.out i _ y HUY.out hlt).mono ?_;rintro e w' ⟨r,rfl,hr,rfl⟩;obtain rfl:r=true:=hr.2 HTY.out;clear hr);go_round;case rel=>exact⟨k+1,by omega,by go_num,hid (fun j z hj hz=>by
              rcases zq30.1 hj with h|h
              ·exact hS.out j z h hz
              ·subst h;rw[HY.out]at hz;cases hz;exact HTY.out)⟩
             case measure=>simp[intOf];omega
            ·have HTY:=hid hty;have HN:=hid (show¬Valid P from fun h=>hty ((h.cv i c HCC.out).2 y (zq5 HY.out)));clear hty;go_wp2_with (go_at_call 107;refine(HTV.out i _ y HUY.out hlt).mono ?_;rintro e w' ⟨r,rfl,hr,rfl⟩;obtain rfl:r=false:=(by cases r;rfl;exact absurd (hr.1 rfl) HTY.out);clear hr);go_ret;exact ExB_false HN.out HB.out
           ·obtain rfl:k=c.length:=by omega
            have HNX:=hid (show∀j,j<i+1→(∀p,P.ps[j]?=some p→TailV P.os (j+1) p)∧∀c,P.cs[j]?=some c→c.length=P.os.length-1-j∧∀y∈c,TailV P.os (j+1) y from fun j hj=>by
             rcases zq30.1 hj with h|h
             ·exact hR.out j h
             ·subst h;refine⟨fun q hq=>?_,fun d hd=>?_⟩
              ·rw[HPP.out]at hq;cases hq;exact HTP.out
              ·rw[HCC.out]at hd;cases hd;refine⟨HLN.out,fun y hy=>?_⟩;obtain⟨t,ht,rfl⟩:=zq87 hy;exact hS.out t _ ht (zq0 ht))
            go_wp2_with fail;go_round;case rel=>exact⟨i+1,by omega,by go_num,HNX⟩
            case measure=>simp[intOf];omega
         ·have hlb:((c.length:Int) !=(P.os.length:Int)-1-(i:Int))=true:=by simp;omega
          have HN:=hid (show¬Valid P from fun h=>hln (h.cv i c HCC.out).1);clear hln;go_wp2_with (go_at_call 107;refine(HTV.out i _ p HUP.out hlt).mono ?_;rintro e w' ⟨r,rfl,hr,rfl⟩;obtain rfl:r=true:=hr.2 HTP.out;clear hr);go_ret;exact ExB_false HN.out HB.out
        ·have HTP:=hid htv;have HN:=hid (show¬Valid P from fun h=>htv (h.pv i p HPP.out));clear htv;go_wp2_with (go_at_call 107;refine(HTV.out i _ p HUP.out hlt).mono ?_;rintro e w' ⟨r,rfl,hr,rfl⟩;obtain rfl:r=false:=(by cases r;rfl;exact absurd (hr.1 rfl) HTP.out);clear hr);go_ret;exact ExB_false HN.out HB.out
       ·obtain rfl:i=P.os.length:=by omega
        have HYES:=hid (show Valid P from⟨h6,HPL.out,HCL.out,HPR.out.1,HPR.out.2,fun j p hp=>(hR.out j (by have:=(zq2.1 hp).1;rw[HPL.out]at this;exact this)).1 p hp,fun j c hc=>(hR.out j (by have:=(zq2.1 hc).1;rw[HCL.out]at this;exact this)).2 c hc⟩);go_wp2_with fail;go_ret;exact ExB_true HYES.out HB.out
   ·have hc2:((P.cs.length:Int) !=(P.os.length:Int))=true:=by simp;omega
    have HN:=hid (show¬Valid P from fun h=>hcl h.cl);clear hcl hpl hO hP hC hV hW;go_enter Tryz.func58,Tryz.ntmps58;go_wp2_with fail;go_ret;exact ExB_false HN.out HB.out
  ·have hp2:((P.ps.length:Int) !=(P.os.length:Int))=true:=by simp;omega
   have HN:=hid (show¬Valid P from fun h=>hpl h.pl);clear hpl hO hP hC hV hW;go_enter Tryz.func58,Tryz.ntmps58;go_wp2_with fail;go_ret;exact ExB_false HN.out HB.out
 ·have hd6:decide ((P.os.length:Int)>6)=true:=by simp;omega
  have HN:=hid (show¬Valid P from fun h=>h6 h.n6);clear h6 hO hP hC hV hW;go_enter Tryz.func58,Tryz.ntmps58;go_wp2_with fail;go_ret;exact ExB_false HN.out HB.out
end Go.Proofs.YtlmlamcoeegkbaaGreat.ImplW
namespace Go.Proofs.YtlmlamcoeegkbaaGreat.SpecV
open Go.RowKit Go.Proofs.YtlmlamcoeegkbaaGreat Tow Val ImplV ImplW
theorem prime_any (x:Int)(w:World):Calls Tryz.prog 149 #[.int .i64 x] w fun e w'=>e= .returned (.bool (primeB x))∧w=w':=by
 by_cases h2:x=2
 ·subst h2;go_enter Tryz.func149,Tryz.ntmps149;go_wp2_with fail;go_ret;exact⟨rfl,rfl⟩
 ·by_cases h3:x=3
  ·subst h3;go_enter Tryz.func149,Tryz.ntmps149;go_wp2_with fail;go_ret;exact⟨rfl,rfl⟩
  ·by_cases h5:x=5
   ·subst h5;go_enter Tryz.func149,Tryz.ntmps149;go_wp2_with fail;go_ret;exact⟨rfl,rfl⟩
   ·by_cases h7:x=7
    ·subst h7;go_enter Tryz.func149,Tryz.ntmps149;go_wp2_with fail;go_ret;exact⟨rfl,rfl⟩
    ·have e2:(x==2)=false:=by simpa using h2
     have e3:(x==3)=false:=by simpa using h3
     have e5:(x==5)=false:=by simpa using h5
     have e7:(x==7)=false:=by simpa using h7
     have HB:=hid (show primeB x=false by simp[primeB,h2,h3,h5,h7]);clear h2 h3 h5 h7;go_enter Tryz.func149,Tryz.ntmps149;go_wp2_with fail;go_ret;exact⟨by rw[HB.out];rfl,rfl⟩
theorem in_T (x lo hi:Int)(h1:lo≤x)(h2:x≤hi)(w:World):Calls Tryz.prog 180 #[.int .i64 x,.int .i64 lo,.int .i64 hi] w fun e w'=>e= .returned (.bool true)∧w'=w:=by
 have h1':x≥lo:=h1;go_enter Tryz.func180,Tryz.ntmps180;go_wp2_with fail;go_ret;exact⟨rfl,rfl⟩
theorem in_F (x lo hi:Int)(h:¬(lo≤x∧x≤hi))(w:World):Calls Tryz.prog 180 #[.int .i64 x,.int .i64 lo,.int .i64 hi] w fun e w'=>e= .returned (.bool false)∧w'=w:=by
 by_cases h1:lo≤x
 ·have h2:¬x≤hi:=fun h2=>h ⟨h1,h2⟩;have h3:decide (x≤hi)=false:=zq67 h2;have h4:decide (lo≤x)=true:=zq83 h1;clear h;go_enter Tryz.func180,Tryz.ntmps180;go_wp2_with fail;go_ret;exact⟨rfl,rfl⟩
 ·have h4:decide (lo≤x)=false:=zq67 h1;clear h;go_enter Tryz.func180,Tryz.ntmps180;go_wp2_with fail;go_ret;exact⟨rfl,rfl⟩
def ExD (p:Prop)(w:World)(e:Ending)(w':World):Prop:=∃r:Bool,e= .returned (.bool r)∧(r=true↔p)∧∃n,w'=w.drewN n
theorem ExD_false {p:Prop}{w:World}{n:Nat}(h:¬p):ExD p w (.returned (.bool false)) (w.drewN n):=⟨false,rfl,⟨fun h=>absurd h (by simp),fun h'=>absurd h' h⟩,n,rfl⟩
theorem ExD_true {p:Prop}{w:World}{n:Nat}(h:p):ExD p w (.returned (.bool true)) (w.drewN n):=⟨true,rfl,⟨fun _=>h,fun _=>rfl⟩,n,rfl⟩
theorem exps_any (w:World)(vo v:Value)(os l:List Int)(zc:Int)(z:Nat)(hz:∀j:Nat,((j:Int)≤zc↔j<z))(ho:SlI Any w vo os)(hv:SlI Any w v l)(hpr:∀x∈os,primeB x=true):
  Calls Tryz.prog 133 #[vo,v,.int .i64 zc] w (ExD (TailV os z l) w):=by
 obtain⟨aO,cO,rfl,hcO,hmO,_,hO⟩:=ho;obtain⟨ao,c,rfl,hc,hm,_,hx⟩:=hv;have hn63:(l.length:Int)≤9223372036854775807:=by unfold maxLen at hm;omega
 have HX:=hid hx;have HO:=hid hO;have HM:=hid (And.intro hmO hm);have HPR:=hid hpr;have HZ:=hid hz;clear hx hO hmO hm hpr hz;by_cases hl:l.length=os.length
 ·have hl2:((l.length:Int) !=(os.length:Int))=false:=by simp;omega
  have HL:=hid hl;clear hl;go_enter Tryz.func133,Tryz.ntmps133;go_wp2_with fail;go_loopw [7] (fun i wr=>∃k:Nat,k≤l.length∧i= .int .i64 (k:Int)∧Hid (∀j,j<k→∀x o,l[j]?=some x→os[j]?=some o→0≤x∧x<o∧(j<z→x=0))∧Hid (∃n,wr=w.drewN n)) (fun i _=>l.length-(intOf i).toNat);case atStart=>exact⟨0,zq4 _,rfl,hid (fun j h=>absurd h (zq33 _)),hid ⟨0,rfl⟩⟩
  case round=>
   obtain⟨k,hk,rfl,hR,hW⟩:=hrel;obtain⟨m,hw⟩:=hW.out;have HW:=hid hw;clear hw;by_cases hlt:k<l.length
   ·obtain⟨x,hg⟩:∃x,l[k]?=some x:=⟨_,zq0 hlt⟩;obtain⟨q,hq⟩:∃q,os[k]?=some q:=⟨_,zq0 (by rw[←HL.out];exact hlt)⟩;obtain⟨bX,oX,rfl,_,hbX,u,hcX,rfl⟩:=HX.out k x hg;obtain⟨bO,oO,rfl,_,hbO,u,hcO2,rfl⟩:=HO.out k q hq;have hcXr:wr.cell? ⟨bX,oX+k,none⟩=some (.int .i64 x):=by rw[HW.out];exact hcX
    have hcOr:wr.cell? ⟨bO,oO+k,none⟩=some (.int .i64 q):=by rw[HW.out];exact hcO2
    have hk2:k<os.length:=by rw[←HL.out];exact hlt
    have hq7:=primeB_le (HPR.out q (zq5 hq));have HG:=hid (And.intro hg hq);have w1:IntKind.i64.wrap (q-1)=q-1:=zq6 _ (by omega);have w4:(k:Int)<(l.length:Int):=by omega
    have w5:(0:Int)≤(k:Int):=by omega
    have w6:(k:Int)<(os.length:Int):=by omega
    clear hg hq;by_cases hin:0≤x∧x≤q-1
    ·have HI:=hid hin;clear hin;by_cases hkz:(k:Int)≤zc
     ·have hd:decide ((k:Int)≤zc)=true:=zq83 hkz;have HKZ:=hid ((HZ.out k).1 hkz);clear hkz;by_cases h0:x=0
      ·have hx0:(x !=0)=false:=by simpa using h0
       have HX0:=hid h0;clear h0;go_wp2_with fail;go_quiet ((go_at_call 180;exact Calls.quiet_of_same (in_T x 0 (q-1) HI.out.1 HI.out.2 _)));go_wp2_with fail;go_roundw;case rel=>exact⟨k+1,by omega,by go_num,hid (fun j hj y p hy hp=>by
        rcases zq30.1 hj with h|h
        ·exact hR.out j h y p hy hp
        ·subst h;rw[HG.out.1]at hy;rw[HG.out.2]at hp;cases hy;cases hp;have:=HI.out;exact⟨this.1,by omega,fun _=>HX0.out⟩),hid ⟨m+nq,by rw[HW.out,zq113]⟩⟩
       case measure=>simp[intOf];omega
      ·have hx0:(x !=0)=true:=by simpa using h0
       have HN:=hid (show¬TailV os z l from fun h=>h0 ((h.2 k x q HG.out.1 HG.out.2).2.2 HKZ.out));clear h0;go_wp2_with fail;go_quiet ((go_at_call 180;exact Calls.quiet_of_same (in_T x 0 (q-1) HI.out.1 HI.out.2 _)));go_wp2_with fail;go_ret;rw[HW.out,zq113];exact ExD_false HN.out
     ·have hd:decide ((k:Int)≤zc)=false:=zq67 hkz;have HKZ:=hid (fun h=>hkz ((HZ.out k).2 h));clear hkz;go_wp2_with fail;go_quiet ((go_at_call 180;exact Calls.quiet_of_same (in_T x 0 (q-1) HI.out.1 HI.out.2 _)));go_wp2_with fail;go_roundw;case rel=>exact⟨k+1,by omega,by go_num,hid (fun j hj y p hy hp=>by
       rcases zq30.1 hj with h|h
       ·exact hR.out j h y p hy hp
       ·subst h;rw[HG.out.1]at hy;rw[HG.out.2]at hp;cases hy;cases hp;have:=HI.out;exact⟨this.1,by omega,fun h=>absurd h HKZ.out⟩),hid ⟨m+nq,by rw[HW.out,zq113]⟩⟩
      case measure=>simp[intOf];omega
    ·have HI:=hid hin;have HN:=hid (show¬TailV os z l from fun h=>by have:=h.2 k x q HG.out.1 HG.out.2;exact hin ⟨this.1,by omega⟩);clear hin;go_wp2_with fail;go_quiet ((go_at_call 180;exact Calls.quiet_of_same (in_F x 0 (q-1) HI.out _)));go_wp2_with fail;go_ret;rw[HW.out,zq113];exact ExD_false HN.out
   ·obtain rfl:k=l.length:=by omega
    have HYES:=hid (show TailV os z l from⟨HL.out,fun j x q hx hq=>hR.out j (zq2.1 hx).1 x q hx hq⟩);go_wp2_with fail;go_ret;rw[HW.out];exact ExD_true HYES.out
 ·have hl2:((l.length:Int) !=(os.length:Int))=true:=by simp;omega
  have HN:=hid (show¬TailV os z l from fun h=>hl h.1);clear hl;go_enter Tryz.func133,Tryz.ntmps133;go_wp2_with fail;go_ret;exact ExD_false (n:=0) HN.out
def ProdR (os:List Int)(w:World)(e:Ending)(w':World):Prop:=∃r:Int,e= .returned (.int .i64 r)∧(r≤729↔prodI os≤729)∧(r≤729→r=prodI os)∧w=w'
theorem product_any (w:World)(vo:Value)(os:List Int)(ho:SlI Any w vo os)(hpr:∀x∈os,primeB x=true):
  Calls Tryz.prog 148 #[vo] w (ProdR os w):=by
 obtain⟨aO,cO,rfl,hcO,hmO,_,hO⟩:=ho;have hn63:(os.length:Int)≤9223372036854775807:=by unfold maxLen at hmO;omega
 have HO:=hid hO;have HM:=hid hmO;have HPR:=hid hpr;clear hO hmO hpr;go_enter Tryz.func148,Tryz.ntmps148;go_wp2_with fail;go_loop [3,4] (fun q i=>∃k:Nat,k≤os.length∧i= .int .i64 (k:Int)∧∃z:Int,q= .int .i64 z∧1≤z∧z≤5103∧Hid ((z≤729→z=prodI (os.take k))∧(729<z→729<prodI (os.take k)))) (fun _ i=>os.length-(intOf i).toNat);case atStart=>exact⟨0,zq4 _,rfl,1,rfl,by omega,by omega,hid ⟨fun _=>rfl,fun h=>by omega⟩⟩
 case round=>
  obtain⟨k,hk,rfl,z,rfl,hz1,hz2,hR⟩:=hrel;by_cases hlt:k<os.length
  ·obtain⟨x,hx⟩:∃x,os[k]?=some x:=⟨_,zq0 hlt⟩;obtain⟨bO,oO,rfl,_,hbO,u,hcO2,rfl⟩:=HO.out k x hx;have hx7:=primeB_le (HPR.out x (zq5 hx));have HX:=hid hx;clear hx;by_cases hbig:z≤729
   ·have b1:1≤z*x:=by have:1*1≤z*x:=Int.mul_le_mul hz1 (by omega) (by omega) (by omega);simpa using this
    have b2:z*x≤5103:=by have:z*x≤729*7:=Int.mul_le_mul hbig hx7.2 (by omega) (by omega);simpa using this
    have HT:=hid (show(z*x≤729→z*x=prodI (os.take (k+1)))∧(729<z*x→729<prodI (os.take (k+1))) from by
     rw[prodI_take_succ HX.out,←hR.out.1 hbig];exact⟨fun _=>rfl,fun h=>h⟩)
    go_wp2_with fail;go_round;case rel=>exact⟨k+1,by omega,by go_num,z*x,rfl,b1,b2,HT⟩
    case measure=>simp[intOf];omega
   ·have HT:=hid (show(z≤729→z=prodI (os.take (k+1)))∧(729<z→729<prodI (os.take (k+1))) from by
     refine⟨fun h=>absurd h hbig,fun h=>?_⟩;rw[prodI_take_succ HX.out];have h1:=hR.out.2 h;have h2:prodI (os.take k)*1≤prodI (os.take k)*x:=Int.mul_le_mul (Int.le_refl _) (by omega) (by omega) (by omega);rw[Int.mul_one]at h2;omega)
    go_wp2_with fail;go_round;case rel=>exact⟨k+1,by omega,by go_num,z,rfl,hz1,hz2,HT⟩
    case measure=>simp[intOf];omega
  ·obtain rfl:k=os.length:=by omega
   go_wp2_with fail;go_ret;have h:=hR.out;rw[zq88]at h;refine⟨z,rfl,⟨fun h1=>by rw[←h.1 h1];exact h1,fun h1=>?_⟩,h.1,rfl⟩;apply Int.le_of_not_gt;intro h2;have:=h.2 h2;omega
end Go.Proofs.YtlmlamcoeegkbaaGreat.SpecV
namespace Go.Proofs.YtlmlamcoeegkbaaGreat.SpecW
open Go.RowKit Go.Proofs.YtlmlamcoeegkbaaGreat Tow Val ImplV ImplW SpecV
theorem exps_T {w:World}{vo v:Value}{os l:List Int}{zc:Int}{z:Nat}(h:TailV os z l)(hc:Calls Tryz.prog 133 #[vo,v,.int .i64 zc] w (ExD (TailV os z l) w)):
  Calls Tryz.prog 133 #[vo,v,.int .i64 zc] w fun e w'=>e= .returned (.bool true)∧∃n,w'=w.drewN n:=
 hc.mono fun e w' ⟨r,he,hr,hw⟩=>⟨by rw[he,hr.2 h],hw⟩
theorem exps_F {w:World}{vo v:Value}{os l:List Int}{zc:Int}{z:Nat}(h:¬TailV os z l)(hc:Calls Tryz.prog 133 #[vo,v,.int .i64 zc] w (ExD (TailV os z l) w)):
  Calls Tryz.prog 133 #[vo,v,.int .i64 zc] w fun e w'=>e= .returned (.bool false)∧∃n,w'=w.drewN n:=
 hc.mono fun e w' ⟨r,he,hr,hw⟩=>⟨by cases r;exact he;exact absurd (hr.1 rfl) h,hw⟩
theorem zc_of (i:Nat):∀j:Nat,((j:Int)≤(i:Int)↔j<i+1):=fun j=>by omega
theorem isPres_any (w:World)(vO vP vC:Value)(P:Pres)(hV:ValP Any w vO vP vC P):
  Calls Tryz.prog 101 #[.agg #[vO,vP,vC]] w (ExB (Valid P) w):=by
 have hW:=hV;obtain⟨aO,cO,rfl,hcO,hmO,hn1,hO⟩:=hV.os;obtain⟨aP,cP,rfl,hcP,hmP,hn2,hP⟩:=hV.ps;obtain⟨aC,cC,rfl,hcC,hmC,hn3,hC⟩:=hV.cs;have HMM:=hid (And.intro hmO (And.intro hmP hmC));have m1:(P.os.length:Int)≤9223372036854775807:=by unfold maxLen at hmO;omega
 have m2:(P.ps.length:Int)≤9223372036854775807:=by unfold maxLen at hmP;omega
 have m3:(P.cs.length:Int)≤9223372036854775807:=by unfold maxLen at hmC;omega
 have HB:=hid ((zq3 w.heap.size w).alloc zqN (.cells #[.slice aO P.os.length cO,.slice aP P.ps.length cP,.slice aC P.cs.length cC] 28));clear hmO hmP hmC hn1 hn2 hn3;by_cases h6:P.os.length≤6
 ·have hd6:decide ((P.os.length:Int)>6)=false:=by simp;omega
  by_cases hpl:P.ps.length=P.os.length
  ·have hp2:((P.ps.length:Int) !=(P.os.length:Int))=false:=by simp;omega
   by_cases hcl:P.cs.length=P.os.length
   ·have hc2:((P.cs.length:Int) !=(P.os.length:Int))=false:=by simp;omega
    have HPL:=hid hpl;have HCL:=hid hcl;have HO:=hid hO;have HP:=hid hP;have HC:=hid hC;have HW:=hid hW;clear hpl hcl hO hP hC hV hW;go_enter Tryz.func101,Tryz.ntmps101;go_wp2_with fail;go_loop [4] (fun i=>∃k:Nat,k≤P.os.length∧i= .int .i64 (k:Int)∧Hid (∀j,j<k→∀x,P.os[j]?=some x→primeB x=true)) (fun i=>P.os.length-(intOf i).toNat);case atStart=>exact⟨0,zq4 _,rfl,hid (fun j h=>absurd h (zq33 _))⟩
    case round=>
     obtain⟨k,hk,rfl,hR⟩:=hrel;by_cases hlt:k<P.os.length
     ·obtain⟨x,hx⟩:∃x,P.os[k]?=some x:=⟨_,zq0 hlt⟩;obtain⟨bO,oO,rfl,_,hbO,u,hcO2,rfl⟩:=HO.out k x hx;have HX:=hid hx;clear hx;by_cases hpr:primeB x=true
      ·have HPR:=hid hpr;clear hpr;go_wp2_with (go_at_call 149;refine(SpecV.prime_any x _).mono ?_;rintro e w' ⟨rfl,rfl⟩;rw[HPR.out]);go_round;case rel=>exact⟨k+1,by omega,by go_num,hid (fun j hj y hy=>by
        rcases zq30.1 hj with h|h
        ·exact hR.out j h y hy
        ·subst h;rw[HX.out]at hy;cases hy;exact HPR.out)⟩
       case measure=>simp[intOf];omega
      ·have HPR:=hid (show primeB x=false by simpa using hpr);have HN:=hid (show¬Valid P from fun h=>hpr (h.pr x (zq5 HX.out)));clear hpr;go_wp2_with (go_at_call 149;refine(SpecV.prime_any x _).mono ?_;rintro e w' ⟨rfl,rfl⟩;rw[HPR.out]);go_ret;exact ExB_false HN.out HB.out
     ·obtain rfl:k=P.os.length:=by omega
      have HPR:=hid (show∀x∈P.os,primeB x=true from fun x hx=>by obtain⟨j,hj,rfl⟩:=zq87 hx;exact hR.out j hj _ (zq0 hj));clear hR hlt hk;go_wp2_with fail;refine(product_any _ _ P.os (HW.out.os.keep (zqK.alloc _)) HPR.out).mono ?_;rintro e w' ⟨r,rfl,hr1,_,rfl⟩;by_cases hle:prodI P.os≤729
      ·have hrd:decide (r>729)=false:=by have:=hr1.2 hle;simp;omega
       have HLE:=hid hle;clear hle hr1;go_wp2_with fail;go_loopw [5] (fun i wr=>∃k:Nat,k≤P.os.length∧i= .int .i64 (k:Int)∧Hid (∀j,j<k→(∀p,P.ps[j]?=some p→TailV P.os (j+1) p)∧∀c,P.cs[j]?=some c→c.length=P.os.length-1-j∧∀y∈c,TailV P.os (j+1) y)∧Below (w.heap.size+1) (w.alloc (.cells #[.slice aO P.os.length cO,.slice aP P.ps.length cP,.slice aC P.cs.length cC] 28)) wr) (fun i _=>P.os.length-(intOf i).toNat);case atStart=>exact⟨0,zq4 _,rfl,hid (fun j h=>absurd h (zq33 _)),zq3 _ _⟩
       case round=>
        obtain⟨i,hi,rfl,hR,hb⟩:=hrel;obtain⟨e0,e1,e2⟩:=box_cells hb;have HBr:=hid hb;have HK:=hid (keep_boxed hb Any);have HBW:=hid (below_unboxed hb);clear hb;by_cases hlt:i<P.os.length
        ·obtain⟨p,hp⟩:∃p,P.ps[i]?=some p:=⟨_,zq0 (by rw[HPL.out];exact hlt)⟩;obtain⟨c,hc⟩:∃c,P.cs[i]?=some c:=⟨_,zq0 (by rw[HCL.out];exact hlt)⟩;obtain⟨bP,oP,rfl,_,hbP,uP,hcP2,huP⟩:=HP.out i p hp;obtain⟨bC,oC,rfl,_,hbC,uC,hcC2,huC⟩:=HC.out i c hc;obtain⟨a2,c2,rfl,h21,h22,_,h24⟩:=huC;have g1:wr.cell? ⟨bP,oP+i,none⟩=some uP:=by rw[HK.out.cell trivial hbP];exact hcP2
         have g2:wr.cell? ⟨bC,oC+i,none⟩=some (.slice a2 c.length c2):=by rw[HK.out.cell trivial hbC];exact hcC2
         have m4:(c.length:Int)≤9223372036854775807:=by unfold maxLen at h22;omega
         have H22:=hid h22;have H24:=hid h24;have HUP:=hid (huP.keep HK.out);have HUO:=hid (HW.out.os.keep HK.out);have HPP:=hid hp;have HCC:=hid hc;have hi2:i<P.ps.length:=by rw[HPL.out];exact hlt
         have hi3:i<P.cs.length:=by rw[HCL.out];exact hlt
         have wa:IntKind.i64.wrap ((P.os.length:Int)-1)=(P.os.length:Int)-1:=zq6 _ (by omega);have wb:IntKind.i64.wrap ((P.os.length:Int)-1-(i:Int))=(P.os.length:Int)-1-(i:Int):=zq6 _ (by omega);have w4:(i:Int)<(P.ps.length:Int):=by omega
         have w5:(0:Int)≤(i:Int):=by omega
         have w6:(i:Int)<(P.cs.length:Int):=by omega
         have hd:decide ((i:Int)<(P.os.length:Int))=true:=by simp;omega
         have HCI:=hid hcC2;clear hp hc huP h22 h24 hcP2 hcC2;by_cases htv:TailV P.os (i+1) p
         ·have HTP:=hid htv;clear htv;by_cases hln:c.length=P.os.length-1-i
          ·have hlb:((c.length:Int) !=(P.os.length:Int)-1-(i:Int))=false:=by simp;omega
           have HLN:=hid hln;clear hln;go_wp2_with fail;go_quiet ((go_at_call 133;exact Calls.quiet_of (exps_T HTP.out (exps_any _ _ _ _ _ (i:Int) (i+1) (zc_of i) (HUO.out.keep (zqK.drewN _)) (HUP.out.keep (zqK.drewN _)) HPR.out))));go_wp2_with fail;obtain⟨w5,hw5⟩:∃w5,w5=wr.drewN nq:=⟨_,rfl⟩;have HB5:=hid (show Below (w.heap.size+1) (w.alloc (.cells #[.slice aO P.os.length cO,.slice (some ⟨bP,oP,none⟩) P.ps.length cP,.slice (some ⟨bC,oC,none⟩) P.cs.length cC] 28)) w5 by rw[hw5];exact zq61 HBr.out nq);rw[←hw5];clear hw5 e0 e1 e2 g1 g2;go_loopw [6] (fun kv wi=>∃k:Nat,k≤c.length∧kv= .int .i64 (k:Int)∧Hid (∀j y,j<k→c[j]?=some y→TailV P.os (i+1) y)∧Below (w.heap.size+1) (w.alloc (.cells #[.slice aO P.os.length cO,.slice (some ⟨bP,oP,none⟩) P.ps.length cP,.slice (some ⟨bC,oC,none⟩) P.cs.length cC] 28)) wi) (fun kv _=>c.length-(intOf kv).toNat);case atStart=>exact⟨0,zq4 _,rfl,hid (fun j y h=>absurd h (zq33 _)),HB5.out⟩
           case round=>
            clear HB5 HUP HUO HBr;obtain⟨k,hk,rfl,hS,hb⟩:=hrel;obtain⟨e0,e1,e2⟩:=box_cells hb;have HBr:=hid hb;have HKi:=hid (keep_boxed hb Any);have HBWi:=hid (below_unboxed hb);clear hb;by_cases hkc:k<c.length
            ·obtain⟨y,hy⟩:∃y,c[k]?=some y:=⟨_,zq0 hkc⟩;obtain⟨b2,o2,rfl,_,hb2,uy,hcy,huy⟩:=H24.out k y hy;have g2:wr.cell? ⟨bC,oC+i,none⟩=some (.slice (some ⟨b2,o2,none⟩) c.length c2):=by rw[HKi.out.cell trivial hbC];exact HCI.out
             have g3:wr.cell? ⟨b2,o2+k,none⟩=some uy:=by rw[HKi.out.cell trivial hb2];exact hcy
             have HUY:=hid (huy.keep HKi.out);have HUO:=hid (HW.out.os.keep HKi.out);have HY:=hid hy;have v4:(k:Int)<(c.length:Int):=by omega
             have v5:(0:Int)≤(k:Int):=by omega
             clear hy huy hcy;by_cases hty:TailV P.os (i+1) y
             ·have HTY:=hid hty;clear hty;go_wp2_with fail;go_quiet ((go_at_call 133;exact Calls.quiet_of (exps_T HTY.out (exps_any _ _ _ _ _ (i:Int) (i+1) (zc_of i) (HUO.out.keep (zqK.drewN _)) (HUY.out.keep (zqK.drewN _)) HPR.out))));go_wp2_with fail;go_roundw;case rel=>exact⟨k+1,by omega,by go_num,hid (fun j z hj hz=>by
               rcases zq30.1 hj with h|h
               ·exact hS.out j z h hz
               ·subst h;rw[HY.out]at hz;cases hz;exact HTY.out),zq61 HBr.out nq⟩
              case measure=>simp[intOf];omega
             ·have HTY:=hid hty;have HN:=hid (show¬Valid P from fun h=>hty ((h.cv i c HCC.out).2 y (zq5 HY.out)));clear hty;go_wp2_with fail;go_quiet ((go_at_call 133;exact Calls.quiet_of (exps_F HTY.out (exps_any _ _ _ _ _ (i:Int) (i+1) (zc_of i) (HUO.out.keep (zqK.drewN _)) (HUY.out.keep (zqK.drewN _)) HPR.out))));go_wp2_with fail;go_ret;exact ExB_false HN.out (zq61 HBWi.out nq)
            ·obtain rfl:k=c.length:=by omega
             have g2:wr.cell? ⟨bC,oC+i,none⟩=some (.slice a2 c.length c2):=by rw[HKi.out.cell trivial hbC];exact HCI.out
             have HNX:=hid (show∀j,j<i+1→(∀p,P.ps[j]?=some p→TailV P.os (j+1) p)∧∀c,P.cs[j]?=some c→c.length=P.os.length-1-j∧∀y∈c,TailV P.os (j+1) y from fun j hj=>by
              rcases zq30.1 hj with h|h
              ·exact hR.out j h
              ·subst h;refine⟨fun q hq=>?_,fun d hd=>?_⟩
               ·rw[HPP.out]at hq;cases hq;exact HTP.out
               ·rw[HCC.out]at hd;cases hd;refine⟨HLN.out,fun y hy=>?_⟩;obtain⟨t,ht,rfl⟩:=zq87 hy;exact hS.out t _ ht (zq0 ht))
             go_wp2_with fail;go_roundw;case rel=>exact⟨i+1,by omega,by go_num,HNX,HBr.out⟩
             case measure=>simp[intOf];omega
          ·have hlb:((c.length:Int) !=(P.os.length:Int)-1-(i:Int))=true:=by simp;omega
           have HN:=hid (show¬Valid P from fun h=>hln (h.cv i c HCC.out).1);clear hln;go_wp2_with fail;go_quiet ((go_at_call 133;exact Calls.quiet_of (exps_T HTP.out (exps_any _ _ _ _ _ (i:Int) (i+1) (zc_of i) (HUO.out.keep (zqK.drewN _)) (HUP.out.keep (zqK.drewN _)) HPR.out))));go_wp2_with fail;go_ret;exact ExB_false HN.out (zq61 HBW.out nq)
         ·have HTP:=hid htv;have HN:=hid (show¬Valid P from fun h=>htv (h.pv i p HPP.out));clear htv;go_wp2_with fail;go_quiet ((go_at_call 133;exact Calls.quiet_of (exps_F HTP.out (exps_any _ _ _ _ _ (i:Int) (i+1) (zc_of i) (HUO.out.keep (zqK.drewN _)) (HUP.out.keep (zqK.drewN _)) HPR.out))));go_wp2_with fail;go_ret;exact ExB_false HN.out (zq61 HBW.out nq)
        ·obtain rfl:i=P.os.length:=by omega
         have HYES:=hid (show Valid P from⟨h6,HPL.out,HCL.out,HPR.out,HLE.out,fun j p hp=>(hR.out j (by have:=(zq2.1 hp).1;rw[HPL.out]at this;exact this)).1 p hp,fun j c hc=>(hR.out j (by have:=(zq2.1 hc).1;rw[HCL.out]at this;exact this)).2 c hc⟩);go_wp2_with fail;go_ret;exact ExB_true HYES.out HBW.out
      ·have hrd:decide (r>729)=true:=by
        have:¬r≤729:=fun h=>hle (hr1.1 h);simp;omega
       have HN:=hid (show¬Valid P from fun h=>hle h.le);clear hle hr1;go_wp2_with fail;go_ret;exact ExB_false HN.out HB.out
   ·have hc2:((P.cs.length:Int) !=(P.os.length:Int))=true:=by simp;omega
    have HN:=hid (show¬Valid P from fun h=>hcl h.cl);clear hcl hpl hO hP hC hV hW;go_enter Tryz.func101,Tryz.ntmps101;go_wp2_with fail;go_ret;exact ExB_false HN.out HB.out
  ·have hp2:((P.ps.length:Int) !=(P.os.length:Int))=true:=by simp;omega
   have HN:=hid (show¬Valid P from fun h=>hpl h.pl);clear hpl hO hP hC hV hW;go_enter Tryz.func101,Tryz.ntmps101;go_wp2_with fail;go_ret;exact ExB_false HN.out HB.out
 ·have hd6:decide ((P.os.length:Int)>6)=true:=by simp;omega
  have HN:=hid (show¬Valid P from fun h=>h6 h.n6);clear h6 hO hP hC hV hW;go_enter Tryz.func101,Tryz.ntmps101;go_wp2_with fail;go_ret;exact ExB_false HN.out HB.out
end Go.Proofs.YtlmlamcoeegkbaaGreat.SpecW
namespace Go.Proofs.YtlmlamcoeegkbaaGreat.SpecA
open Go.RowKit Go.Proofs.YtlmlamcoeegkbaaGreat Tow
theorem own_any (S:Nat→Prop)(v:Value)(l:List Int)(w:World)(hv:SlI S w v l)(hl:l.length≤1000000):
  Calls Tryz.prog 97 #[v] w (NewS l w):=by
 obtain⟨i0,hi,hz0,hz1,hz2⟩:=zq41 infoI;obtain⟨ao,c,rfl,hc,hm,hn,hx⟩:=hv;have HL:=hid hl;have HM:=hid hm;clear hl hm;have hsl:SlI S w (.slice ao l.length c) l:=⟨ao,c,rfl,hc,HM.out,hn,hx⟩;have HS:=hid hsl;have h00:=zq47 (base:=w.heap.size) (e:=2) (size:=1) w #[] 0 zqN (zq4 _) rfl;have HX:=hid hx;clear hsl hx;cases ao with
 |none=>
  obtain rfl:c=0:=hn rfl;obtain rfl:l=[]:=zq21 (by omega);go_enter Tryz.func97,Tryz.ntmps97;go_wp2_with fail;go_ret;exact⟨w.heap.size,0,rfl,h00,zqB.alloc zqN _⟩
 |some ad=>
  have C1:=hid (SlI.src (w':=w.alloc (.cells #[] 2)) HS.out (zqK.alloc _));have C2:=hid (vals_one l);have C3:=hid (show 0+l.length≤maxLen from by have:=HL.out;unfold maxLen;omega);have C4:=hid (show(0+l.length)*8≤140737488355328 from by have:=HL.out;omega);have C5:=hid (show(vals l).length=l.length*1 by simp[vals]);go_enter Tryz.func97,Tryz.ntmps97;go_wp2_with (at_builtin;refine zq55 _ rfl _ _ 24 rfl w.heap.size 2 i0 (.int .i64 0) 1 8 Tryz.underlying24 hi hz0 hz1 hz2 rfl (by decide) _ _ _ rfl h00 ad l.length c (vals l) rfl C5.out C1.out C2.out C3.out C4.out (by simp) ?_);intro v' w1 hown' hgrow hnil;have hO:Own w.heap.size w1 v' l:=by simpa[Own]using hown'
  have hB:Below w.heap.size w w1:=(zqB.alloc zqN _).grown hgrow (by simp) (by intro k hk;simp[Value.ownBlock]at hk;omega);have hne:v'≠.slice none 0 0:=hnil;clear hown' hgrow hnil;go_wp2_with fail;go_ret;obtain⟨g,cap,rfl⟩:=hO.head hne;exact⟨g,cap,rfl,hO,hB⟩
end Go.Proofs.YtlmlamcoeegkbaaGreat.SpecA
namespace Go.Proofs.YtlmlamcoeegkbaaGreat.SpecB
open Go.RowKit Go.Proofs.YtlmlamcoeegkbaaGreat Tow SpecA
abbrev Any:Nat→Prop:=fun _=>True
def AtSpec (T:Tw)(i:Nat):Prop:=∀(w:World) (vO vP vC va vb:Value) (a b:List Nat),ValP Any w vO vP vC (ofTw T)→SlI Any w va (ints a)→SlI Any w vb (ints b)→
 a.length=T.length→b.length=T.length→El (T.drop i) (a.drop i)→El (T.drop i) (b.drop i)→
 Calls Tryz.prog 143 #[.agg #[vO,vP,vC],.int .i64 i,va,vb] w (NewI (ints (pad i (mul (T.drop i) (a.drop i) (b.drop i)))) w)
def ImgSpec (T:Tw)(i:Nat)(L:Lv):Prop:=∀(w:World) (vO vP vC vx:Value) (x:List Nat),ValP Any w vO vP vC (ofTw T)→SlI Any w vx (ints x)→
 x.length=T.length→El (T.drop (i+1)) (x.drop (i+1))→
 Calls Tryz.prog 185 #[.agg #[vO,vP,vC],.int .i64 i,vx] w (NewI (ints (pad (i+1) (img (T.drop (i+1)) L.c (x.drop (i+1))))) w)
theorem mk22 (n:Nat)(hn:n≤6)(w:World):(Instr.makeSlice 24 (.int .i64 (n:Int)) (.int .i64 (n:Int))).run Tryz.prog w= .ok (.slice (some ⟨w.heap.size,0,none⟩) n n) (w.alloc (.cells (madeCells #[.int .i64 0] n) 2)):=
 run_make_row' (P:=Tryz.prog) 24 2 (.int .i64 0) 8 Tryz.underlying24 infoI rfl .i64 .i64 n (by omega) (by omega) w
abbrev imR (T':Tw)(c:List (List Nat))(y:List Nat)(j k:Nat):List Nat:=prR (mul T') (Tow.one T') (Tow.one T') c y j k
theorem imR_El {T':Tw}(h:Wf T'){c:List (List Nat)}(hc:∀y∈c,El T' y)(y:List Nat)(j k:Nat):El T' (imR T' c y j k):=
 prR_inv (El T') (mul T') (fun _ _ p q=>El_mul h p q) _ _ c y (El_one h) (El_one h) hc j k
theorem lvl {T:Tw}(hT:Wf T){i:Nat}{L:Lv}(hL:T[i]?=some L):Wf (T.drop (i+1))∧L.c.length=T.length-(i+1)∧(∀y∈L.c,El (T.drop (i+1)) y)∧El (T.drop (i+1)) L.w∧2≤L.o:=by
 have hi:i<T.length:=(zq2.1 hL).1;have e:T.drop i=L::T.drop (i+1):=by rw[zq32 hi,(zq2.1 hL).2]
 have:=Wf_drop hT i;rw[e]at this;exact⟨this.2.2.2.2,by rw[this.2.2.1];simp,this.2.2.2.1,this.2.1,this.1⟩
theorem drop_cons {T:Tw}{i:Nat}{L:Lv}(hL:T[i]?=some L):T.drop i=L::T.drop (i+1):=by
 have hi:i<T.length:=(zq2.1 hL).1;rw[zq32 hi,(zq2.1 hL).2]
theorem img_of_at (T:Tw)(hT:Wf T)(hs:Small T)(i:Nat)(L:Lv)(hL:T[i]?=some L)(hAt:AtSpec T (i+1)):ImgSpec T i L:=by
 intro w vO vP vC vx x hP hx hxl hxE;have hi:i<T.length:=(zq2.1 hL).1;have hs6:=hs.1;have HK:=hid (lvl hT hL);have hmk:=mk22 T.length hs6;obtain⟨aO,cO,aP,cP,aC,cC,rfl,rfl,rfl,hO1,hP1,hC1⟩:=hP.open;obtain⟨aX,cX,rfl,hX1⟩:=hx.open;rw[hxl]at hX1 ⊢;rw[hxl]at hx;obtain⟨bC,oC,a2,c2,rfl,_,hbC,hcC,h21,hC4⟩:=hP.con hL;have HW:=hid hT;have HSM:=hid hs;have HP:=hid hP;have HX:=hid hx;have HL:=hid hL;have HXE:=hid hxE;have HXL:=hid hxl;have HAT:=hid hAt;have HC4:=hid hC4;have HCC:=hid hcC;have hcl:L.c.length=T.length-(i+1):=HK.out.2.1;have HO:=hid (Own.made (B:=w.heap.size+1) (w.alloc (.cells #[.slice aO T.length cO,.slice aP T.length cP,.slice (some ⟨bC,oC,none⟩) T.length cC] 28)) T.length (by simp) (by unfold maxLen;omega));obtain⟨V,hV⟩:∃V:Nat→Nat→List Nat,V=fun m k=>pad (i+1) (imR (T.drop (i+1)) L.c (x.drop (i+1)) m k):=⟨_,rfl⟩;have HV:=hid hV;have HV0:=hid (show List.replicate T.length (0:Int)=ints (V 0 0) by rw[hV];simp only[imR,prR_zero];rw[one_pad T (i+1) (by omega),ints_replicate];rfl);have HVE:=hid (show∀m q,El T (V m q) from by
  intro m q;rw[hV];exact El_pad hT (i+1) (imR_El HK.out.1 HK.out.2.2.1 _ m q) (by omega))
 have HVs:=hid (show∀m q y,L.c[m]?=some y→pad (i+1) (mul (T.drop (i+1)) ((V m q).drop (i+1)) ((pad (i+1) y).drop (i+1)))=V m (q+1) from by
  intro m q y hy;rw[hV];show pad (i+1) (mul _ ((pad (i+1) _).drop (i+1)) _)=pad (i+1) _;rw[pad_drop,pad_drop,imR,imR,prR_step,zq9,hy];rfl)
 have HVx:=hid (show∀m a,m<T.length-(i+1)→x[i+1+m]?=some a→V m a=V (m+1) 0 from by
  intro m a hm ha;rw[hV];show pad (i+1) _=pad (i+1) _;rw[imR,prR_next _ _ _ _ _ m a (by omega) (by rw[zq63];exact ha)])
 have HVz:=hid (show V (T.length-(i+1)) 0=pad (i+1) (img (T.drop (i+1)) L.c (x.drop (i+1))) from by
  rw[hV];show pad (i+1) _=pad (i+1) _;rw[imR,prR_end _ _ _ _ _ _ (by omega) (by simp;omega)];rfl)
 clear hP hx hL hxE hxl hAt hV hT hs hC4 hcC;go_enter Tryz.func185,Tryz.ntmps185;go_wp2_with fail;go_loopw [8,9] (fun o j wr=>∃m:Nat,m≤T.length-(i+1)∧j= .int .i64 ((i:Int)+1+(m:Int))∧Own (w.heap.size+1) wr o (ints (V m 0))∧
   Below (w.heap.size+1) (w.alloc (.cells #[.slice aO T.length cO,.slice aP T.length cP,.slice (some ⟨bC,oC,none⟩) T.length cC] 28)) wr) (fun _ j _=>T.length-(intOf j).toNat)
 case atStart=>exact⟨0,zq4 _,by go_num,by rw[←HV0.out];have:=HO.out;simpa using this,zqB.alloc (by simp) _⟩
 case round=>
  obtain⟨m,hm,rfl,ho,hb⟩:=hrel;by_cases hlt:m<T.length-(i+1)
  ·obtain⟨a,ha⟩:∃a,x[i+1+m]?=some a:=⟨_,zq0 (by rw[HXL.out];omega)⟩;obtain⟨bX,oX,rfl,_,hbX,hcX⟩:=HX.out.at ha;obtain⟨y,hy⟩:∃y,L.c[m]?=some y:=⟨_,zq0 (by omega)⟩;obtain⟨b2,o2,uy,rfl,_,hb2,hcy,huy⟩:=HC4.out m y hy;have hk:=keep_boxed hb Any;have hcx:wr.cell? ⟨bX,oX+(i+1+m),none⟩=some (.int .i64 (a:Int)):=by rw[hk.cell trivial hbX];exact hcX
   have ha7:a<7:=HSM.out.lt HXE.out (by omega) ha;have HA:=hid ha;have HY:=hid hy;have HCY:=hid hcy;have HUY:=hid huy;have HB:=hid hb;have HOW:=hid ho;have HKP:=hid hk;have HCX:=hid hcX;have hd:decide ((i:Int)+1+(m:Int)<(T.length:Int))=true:=by simp;omega
   clear ha hb ho hk hcX hy hcy huy;go_wp2_with fail;go_loopw [8,10] (fun o k wi=>∃q:Nat,q≤a∧k= .int .i64 (q:Int)∧Own (w.heap.size+1) wi o (ints (V m q))∧
    Below (w.heap.size+1) (w.alloc (.cells #[.slice aO T.length cO,.slice aP T.length cP,.slice (some ⟨bC,oC,none⟩) T.length cC] 28)) wi) (fun _ k _=>a-(intOf k).toNat)
   case atStart=>exact⟨0,zq4 _,rfl,HOW.out,HB.out⟩
   case round=>
    obtain⟨q,hq,rfl,hoi,hbi⟩:=hrel;have hki:=keep_boxed hbi Any;have hcx2:wr.cell? ⟨bX,oX+(i+1+m),none⟩=some (.int .i64 (a:Int)):=by rw[hki.cell trivial hbX];exact HCX.out
    by_cases hqa:q<a
    ·have HPi:=hid (HP.out.keep hki);obtain⟨e0,e1,e2⟩:=box_cells hbi;have hcC:wr.cell? ⟨bC,oC+i,none⟩=some (.slice (some ⟨b2,o2,none⟩) L.c.length c2):=by rw[hki.cell trivial hbC];exact HCC.out
     have hcy:wr.cell? ⟨b2,o2+m,none⟩=some uy:=by rw[hki.cell trivial hb2];exact HCY.out
     have w1:IntKind.i64.wrap (((i:Int)+1+(m:Int))-(i:Int))=(m:Int)+1:=by rw[zq6 _ (by omega)];omega
     have w2:IntKind.i64.wrap (((m:Int)+1)-1)=(m:Int):=by rw[zq6 _ (by omega)];omega
     have w3:IntKind.i64.wrap ((i:Int)+1)=(i:Int)+1:=zq6 _ (by omega);have w8:IntKind.i64.wrap (m:Int)=(m:Int):=zq6 _ (by omega);have w4:(m:Int)<(L.c.length:Int):=by omega
     have w5:(0:Int)≤(m:Int):=by omega
     have w6:(i:Int)<(T.length:Int):=by omega
     have w7:(0:Int)≤(i:Int):=by omega
     have hsz2:w.heap.size<wr.heap.size:=by have:=hbi.size;simp at this;omega
     have hbC2:=Nat.lt_trans hbC hsz2;have hb22:=Nat.lt_trans hb2 hsz2;have HB2:=hid hbi;have HOI:=hid hoi;have HUY2:=hid (HUY.out.keep hki);have HVd:=hid (show El (T.drop (i+1)) ((V m q).drop (i+1)) from El_drop (HVE.out m q) (i+1));have HVl:=hid (show(V m q).length=T.length from El_length (HVE.out m q));have HYE:=hid (show El T (pad (i+1) y) from El_pad HW.out (i+1) (HK.out.2.2.1 y (zq5 HY.out)) (by omega));clear hbi hoi hki;go_wp2_with fail;go_region_held3 (fun w'=>(∀b o,b<wr.heap.size→w'.cell? ⟨b,o,none⟩=wr.cell? ⟨b,o,none⟩)∧Keep (fun _=>True) wr w')
      (first|exact ks_mk (zqK.drew)|exact ks_mk (Keep.trans (zqK.drew) (Keep.of_below (by assumption))))
      (first|(go_at_call 143;refine(HAT.out _ _ _ _ _ _ (V m q) (pad (i+1) y) (HPi.out.keep (zqK.drew)) ((HOI.out.sl.mono (fun _ _=>trivial)).keep (zqK.drew)) (HUY2.out.keep (zqK.drew)) HVl.out (El_length HYE.out) HVd.out (El_drop HYE.out (i+1))).mono ?_;rintro e w2 ⟨v2,rfl,hov,hbv⟩))
     go_wp2_with fail;go_roundw;case rel=>exact⟨q+1,by omega,by go_num,by rw[HVs.out m q y HY.out]at hov;exact hov.mono (by show w.heap.size+1≤wr.heap.size;omega),HB2.out.trans ((zqB.drew).trans (hbv.mono (by show w.heap.size+1≤wr.heap.size;omega)))⟩
     case measure=>simp[intOf];omega
    ·obtain rfl:q=a:=by omega
     have HB2:=hid hbi;have HOI:=hid hoi;clear hbi hoi hki;go_wp2_with fail;go_roundw;case rel=>exact⟨m+1,by omega,by go_num,by rw[←HVx.out m q (by omega) HA.out];exact HOI.out,HB2.out⟩
     case measure=>simp[intOf];omega
  ·obtain rfl:m=T.length-(i+1):=by omega
   have HB:=hid hb;have HOW:=hid ho;clear hb ho;go_wp2_with fail;go_ret;exact⟨_,rfl,by rw[←HVz.out];exact HOW.out.mono (by omega),below_unboxed HB.out⟩
end Go.Proofs.YtlmlamcoeegkbaaGreat.SpecB
namespace Go.Proofs.YtlmlamcoeegkbaaGreat.SpecC
open Go.RowKit Go.Proofs.YtlmlamcoeegkbaaGreat Tow SpecA SpecB
theorem at_of (T:Tw)(hT:Wf T)(hs:Small T)(i:Nat)(L:Lv)(hL:T[i]?=some L)(hAt:AtSpec T (i+1))(hImg:ImgSpec T i L):AtSpec T i:=by
 intro w vO vP vC va vb a b hP ha hb hal hbl haE hbE;have hi:i<T.length:=(zq2.1 hL).1;have hs6:=hs.1;have HK:=hid (lvl hT hL);have hmk:=mk22 T.length hs6;obtain⟨aO,cO,aP,cP,aC,cC,rfl,rfl,rfl,hO1,hP1,hC1⟩:=hP.open;obtain⟨aA,cA,rfl,hA1⟩:=ha.open;obtain⟨aB,cB,rfl,hB1⟩:=hb.open;rw[hal]at hA1 ha ⊢;rw[hbl]at hB1 hb ⊢;obtain⟨bO,oO,rfl,_,hbO,hcO⟩:=hP.ord hL;obtain⟨bP,oP,uP,rfl,_,hbP,hcP,huP⟩:=hP.pow hL;obtain⟨p,hp⟩:∃p,a[i]?=some p:=⟨_,zq0 (by omega)⟩;obtain⟨q,hq⟩:∃q,b[i]?=some q:=⟨_,zq0 (by omega)⟩;obtain⟨bA,oA,rfl,_,hbA,hcA⟩:=ha.at hp;obtain⟨bB,oB,rfl,_,hbB,hcB⟩:=hb.at hq;have hp7:p<7:=hs.lt haE zqN hp;have hq7:q<7:=hs.lt hbE zqN hq;have ho7:L.o≤7:=hs.2 L (zq5 hL);have HP:=hid hP;have HA:=hid ha;have HB:=hid hb;have HAT:=hid hAt;have HIM:=hid hImg;have HT:=hid (And.intro hT (And.intro hs hL));clear hP ha hb hAt hImg hT hs hL;have HC:=hid (And.intro hcO (And.intro hcP (And.intro hcA hcB)));have HUP:=hid huP;have HPQ:=hid (And.intro hp hq);have HE:=hid (And.intro haE hbE);clear hcO hcP hcA hcB huP hp hq haE hbE;have hla:(ints a).length=T.length:=by rw[ints_length];exact hal
 have hlb:(ints b).length=T.length:=by rw[ints_length];exact hbl
 obtain⟨Z,hZ⟩:∃Z:Nat→List Nat,Z=fun k=>if k=0 then a.set i 0 else pad (i+1) (it (img (T.drop (i+1)) L.c) k (a.drop (i+1))):=⟨_,rfl⟩;have HZd:=hid (show∀k,(Z k).drop (i+1)=it (img (T.drop (i+1)) L.c) k (a.drop (i+1)) from by
  intro k;rw[hZ];by_cases h0:k=0
  ·subst h0;simp[it,List.drop_set]
  ·simp only[zq37 h0,pad_drop])
 have HE1:=hid (show El (T.drop (i+1)) (a.drop (i+1))∧El (T.drop (i+1)) (b.drop (i+1)) from by
  have h1:=El_drop HE.out.1 1;have h2:=El_drop HE.out.2 1;rw[zq66,zq66]at h1 h2;exact⟨h1,h2⟩)
 have HZE:=hid (show∀k,El (T.drop (i+1)) (it (img (T.drop (i+1)) L.c) k (a.drop (i+1))) from fun k=>
  it_inv (El _) _ (fun z _=>El_img HK.out.1 HK.out.2.2.1 z) k _ HE1.out.1)
 have HZl:=hid (show∀k,(Z k).length=T.length from by
  intro k;rw[hZ];by_cases h0:k=0
  ·subst h0;simp[hal]
  ·simp only[zq37 h0,pad_length,El_length (HZE.out k),zq34];omega)
 have HZ0:=hid (show Z 0=a.set i 0 by rw[hZ];rfl);have HZs:=hid (show∀k,pad (i+1) (img (T.drop (i+1)) L.c ((Z k).drop (i+1)))=Z (k+1) from by
  intro k;rw[HZd.out,←it_succ' (img (T.drop (i+1)) L.c),hZ];simp)
 clear hZ;go_enter Tryz.func143,Tryz.ntmps143;go_wp2_with fail;refine(own_any Any _ _ _ (HA.out.keep (zqK.alloc _)) (by omega)).mono ?_;rintro e w1 ⟨g1,c1,rfl,ho1,hb1⟩;rw[hla]at ho1 ⊢;have HB1:=hid (show Below (w.heap.size+1) (w.alloc (.cells #[.slice (some ⟨bO,oO,none⟩) T.length cO,.slice (some ⟨bP,oP,none⟩) T.length cP,.slice aC T.length cC] 28)) w1 from hb1.mono (by simp));have HO1:=hid (ho1.mono (B':=w.heap.size+1) (by simp));clear hb1 ho1;go_wp2_with fail;refine(own_any Any _ _ _ (HB.out.keep (keep_boxed HB1.out Any)) (by omega)).mono ?_;rintro e w2 ⟨g2,c2,rfl,ho2,hb2⟩;rw[hlb]at ho2 ⊢;have hlt1:=HO1.out.lt;have hlt2:=ho2.lt;have hsz1:w.heap.size+1≤w1.heap.size:=by have:=HB1.out.size;simp at this;omega
 have hne:¬g1=g2:=by omega
 have hne':¬g2=g1:=by omega
 have HO12:=HO1.out.of_below hb2;obtain⟨s1,f1⟩:=HO12.cell (j:=i) (a:=(p:Int)) (by rw[ints_get,HPQ.out.1];rfl);obtain⟨s2,f2⟩:=ho2.cell (j:=i) (a:=(q:Int)) (by rw[ints_get,HPQ.out.2];rfl);have HL1:=HO12.set_n i 0;have HO2a:=(ho2.mono (B':=w.heap.size+1) hsz1).keep (S:=fun k=>¬k=g1) (Keep.grown HL1.2 (fun k hk e=>hk (zq102 e))) (fun k hk=>by simp[Value.ownBlock]at hk;omega);have HL2:=HO2a.set_n i 0;have HL3:=HL1.1.keep (S:=fun k=>¬k=g2) (Keep.grown HL2.2 (fun k hk e=>hk (zq102 e))) (fun k hk=>by simp[Value.ownBlock]at hk;omega);have HB2:=hid ((((HB1.out.trans (hb2.mono hsz1)).grown HL1.2 (by omega) (by intro k hk;cases hk;omega)).grown HL2.2 (by simp;omega) (by intro k hk;cases hk;omega)));rw[←HZ0.out]at HL3;have HLL:=hid HL3;have HRR:=hid HL2.1;clear HO12 hb2 ho2 HL1 HO2a HL2 HL3;go_wp2_with fail;go_loopw [10,12] (fun v k wr=>∃t:Nat,t≤q∧k= .int .i64 (t:Int)∧Own (w.heap.size+1) wr v (ints (Z t))∧Own (w.heap.size+1) wr (.slice (some ⟨g2,0,none⟩) T.length c2) (ints (b.set i 0))∧
  Below (w.heap.size+1) (w.alloc (.cells #[.slice (some ⟨bO,oO,none⟩) T.length cO,.slice (some ⟨bP,oP,none⟩) T.length cP,.slice aC T.length cC] 28)) wr) (fun _ k _=>q-(intOf k).toNat)
 case atStart=>
  exact⟨0,zq4 _,rfl,HLL.out,HRR.out,HB2.out⟩
 case round=>
  obtain⟨t,ht,rfl,hv,hr,hb⟩:=hrel;have hk:=keep_boxed hb Any;have hcB:wr.cell? ⟨bB,oB+i,none⟩=some (.int .i64 (q:Int)):=by rw[hk.cell trivial hbB];exact HC.out.2.2.2
  have HV:=hid hv;have HR:=hid hr;have HB3:=hid hb;have HKK:=hid hk;obtain⟨e0,e1,e2⟩:=box_cells hb;clear hv hr hb;by_cases hlt:t<q
  ·go_wp2_with fail;refine(HIM.out _ _ _ _ _ (Z t) (HP.out.keep HKK.out) (HV.out.sl.mono (fun _ _=>trivial)) (HZl.out t) (by rw[HZd.out];exact HZE.out t)).mono ?_;rintro e w3 ⟨v3,rfl,ho3,hb3⟩;rw[HZs.out]at ho3;have hsz3:w.heap.size+1≤wr.heap.size:=by have:=HB3.out.size;simp at this;omega
   have HO3:=hid (ho3.mono hsz3);have HR3:=hid (HR.out.of_below hb3);have HB4:=hid (HB3.out.trans (hb3.mono hsz3));clear ho3 hb3 hk hcB e0 e1 e2;go_wp2_with fail;go_roundw;case rel=>exact⟨t+1,by omega,by go_num,HO3.out,HR3.out,HB4.out⟩
   case measure=>simp[intOf];omega
  ·obtain rfl:t=q:=by omega
   have hsz3:w.heap.size+1≤wr.heap.size:=by have:=HB3.out.size;simp at this;omega
   clear hlt;go_wp2_with fail;refine(HAT.out _ _ _ _ _ _ (Z t) (b.set i 0) (HP.out.keep HKK.out) (HV.out.sl.mono (fun _ _=>trivial)) (HR.out.sl.mono (fun _ _=>trivial)) (HZl.out t) (by simp[hbl]) (by rw[HZd.out];exact HZE.out t) (by rw[show(b.set i 0).drop (i+1)=b.drop (i+1) by simp[List.drop_set]];exact HE1.out.2)).mono ?_;rintro e w4 ⟨v4,rfl,ho4,hb4⟩;clear hk hcB e0 e1 e2;rw[HZd.out,show(b.set i 0).drop (i+1)=b.drop (i+1) by simp[List.drop_set]]at ho4;obtain⟨R,hR⟩:∃R,R=mul (T.drop (i+1)) (it (img (T.drop (i+1)) L.c) t (a.drop (i+1))) (b.drop (i+1)):=⟨_,rfl⟩;have HRE:=hid (show El (T.drop (i+1)) R by rw[hR];exact El_mul HK.out.1 (HZE.out t) HE1.out.2);rw[←hR]at ho4;have HRR:=hid hR;have HO4:=hid (ho4.mono hsz3);have HB4:=hid (HB3.out.trans (hb4.mono hsz3));have hk4:=keep_boxed HB4.out Any;obtain⟨e0,e1,e2⟩:=box_cells HB4.out;have hcA:w4.cell? ⟨bA,oA+i,none⟩=some (.int .i64 (p:Int)):=by rw[hk4.cell trivial hbA];exact HC.out.2.2.1
   have hcB:w4.cell? ⟨bB,oB+i,none⟩=some (.int .i64 (t:Int)):=by rw[hk4.cell trivial hbB];exact HC.out.2.2.2
   have hcO:w4.cell? ⟨bO,oO+i,none⟩=some (.int .i64 (L.o:Int)):=by rw[hk4.cell trivial hbO];exact HC.out.1
   have hcP:w4.cell? ⟨bP,oP+i,none⟩=some uP:=by rw[hk4.cell trivial hbP];exact HC.out.2.1
   have hsz4:w.heap.size+1≤w4.heap.size:=by have:=HB4.out.size;simp at this;omega
   have w1:IntKind.i64.wrap ((p:Int)+(t:Int))=(p:Int)+(t:Int):=zq6 _ (by omega);have w6:(i:Int)<(T.length:Int):=by omega
   have w7:(0:Int)≤(i:Int):=by omega
   have HK4:=hid hk4;clear ho4 hb4 hk4 hR;by_cases hge:L.o≤p+t
   ·have hgi:(L.o:Int)≤(p:Int)+(t:Int):=by omega
    have hge2:decide ((p:Int)+(t:Int)≥(L.o:Int))=true:=by simp;omega
    have w3:IntKind.i64.wrap ((i:Int)+1)=(i:Int)+1:=zq6 _ (by omega);have hbP4:bP<w4.heap.size:=by omega
    have hsz44:w.heap.size<w4.heap.size:=by omega
    have HU4:=hid (HUP.out.keep (Keep.trans (keep_boxed HB4.out Any) zqK));have HP4:=hid (HP.out.keep HK4.out);have HRR2:=hid (El_mul HK.out.1 HK.out.2.2.2.1 HRE.out);go_wp2_with fail;go_quiet (fail);go_wp2_with fail;go_region_held3 (fun w'=>(∀b o,b<w4.heap.size→w'.cell? ⟨b,o,none⟩=w4.cell? ⟨b,o,none⟩)∧Keep (fun _=>True) w4 w')
     (first|exact ks_mk ((zqK.drewN _).drew)|exact ks_mk (Keep.trans ((zqK.drewN _).drew) (Keep.of_below (by assumption))))
     (first|(go_at_call 143;refine(HAT.out _ _ _ _ _ _ (pad (i+1) L.w) (pad (i+1) R) (HP4.out.keep ((zqK.drewN _).drew)) (HU4.out.keep ((zqK.drewN _).drew)) ((HO4.out.sl.mono (fun _ _=>trivial)).keep ((zqK.drewN _).drew)) (by rw[pad_length,El_length HK.out.2.2.2.1];simp;omega) (by rw[pad_length,El_length HRE.out];simp;omega) (by rw[pad_drop];exact HK.out.2.2.2.1) (by rw[pad_drop];exact HRE.out)).mono ?_;rintro e w6 ⟨v6,rfl,ho6,hb6⟩))
    rw[pad_drop,pad_drop]at ho6;have HZ6:=hid (show w.heap.size+1≤w6.heap.size from zq11 hsz4 (zq11 (show w4.heap.size≤((w4.drewN nq).drew).heap.size from((((Keep.refl (fun _=>True) w4).drewN nq).drew).size)) hb6.size));have hs4:w.heap.size+1≤((w4.drewN nq).drew).heap.size:=zq11 hsz4 ((((Keep.refl (fun _=>True) w4).drewN nq).drew).size);have HO6:=hid (ho6.mono hs4);have HB6:=hid ((HB4.out.trans (zq61 zqB nq).drew).trans (hb6.mono hs4));clear ho6 hb6;go_wp2_with fail;have hr6:(ints (pad (i+1) (mul (T.drop (i+1)) L.w R))).length=T.length:=by rw[ints_length,pad_length,El_length HRR2.out];simp;omega
    refine(own_any Any _ _ _ (HO6.out.sl.mono (fun _ _=>trivial)) (by omega)).mono ?_;rintro e w7 ⟨g7,c7,rfl,ho7,hb7⟩;rw[hr6]at ho7 ⊢;have HBF:=hid (HB6.out.trans (hb7.mono HZ6.out));have HO7:=hid (ho7.mono (B':=w.heap.size+1) HZ6.out);obtain⟨s7,f7⟩:=HO7.out.cell (j:=i) (a:=0) (by rw[ints_get,pad,zq28 (by simp)];simp);obtain⟨hF,hG⟩:=HO7.out.set_n i (p+t-L.o);have hlt7:=HO7.out.lt;have HBG:=hid (HBF.out.grown hG (by have:=HBF.out.size;simp at this;omega) (by intro k hk;cases hk;omega));have HFF:=hid hF;clear ho7 hb7 hF hG hr6;go_wp2_with fail;go_ret;have hres:pad i (mul (T.drop i) (a.drop i) (b.drop i))=(pad (i+1) (mul (T.drop (i+1)) L.w R)).set i (p+t-L.o):=by
     rw[drop_cons HT.out.2.2,zq32 (show i<a.length by omega),zq32 (show i<b.length by omega),(zq2.1 HPQ.out.1).2,(zq2.1 HPQ.out.2).2,mul_cons,zq57 hge,←HRR.out,show pad (i+1) (mul (T.drop (i+1)) L.w R)=pad i (0::(mul (T.drop (i+1)) L.w R)) by rw[←pad_add];rfl];simp[pad]
    rw[hres];rw[show((p:Int)+(t:Int)-(L.o:Int))=((p+t-L.o:Nat):Int) by omega];exact⟨_,rfl,by have:=HFF.out.mono (B':=w.heap.size) (by omega);exact this,below_unboxed HBG.out⟩
   ·have hgi:¬(L.o:Int)≤(p:Int)+(t:Int):=by omega
    have hge2:decide ((p:Int)+(t:Int)≥(L.o:Int))=false:=by simp;omega
    have HRR2:=HRE;go_wp2_with fail;go_quiet (fail);go_wp2_with fail;have HZ6:=hid (show w.heap.size+1≤(w4.drewN nq).heap.size from zq11 hsz4 (((Keep.refl (fun _=>True) w4).drewN nq).size));have HO6:=hid (HO4.out.drewN nq);have HB6:=hid (HB4.out.trans (zq61 zqB nq));have hr6:(ints (pad (i+1) (R))).length=T.length:=by rw[ints_length,pad_length,El_length HRR2.out];simp;omega
    refine(own_any Any _ _ _ (HO6.out.sl.mono (fun _ _=>trivial)) (by omega)).mono ?_;rintro e w7 ⟨g7,c7,rfl,ho7,hb7⟩;rw[hr6]at ho7 ⊢;have HBF:=hid (HB6.out.trans (hb7.mono HZ6.out));have HO7:=hid (ho7.mono (B':=w.heap.size+1) HZ6.out);obtain⟨s7,f7⟩:=HO7.out.cell (j:=i) (a:=0) (by rw[ints_get,pad,zq28 (by simp)];simp);obtain⟨hF,hG⟩:=HO7.out.set_n i (p+t);have hlt7:=HO7.out.lt;have HBG:=hid (HBF.out.grown hG (by have:=HBF.out.size;simp at this;omega) (by intro k hk;cases hk;omega));have HFF:=hid hF;clear ho7 hb7 hF hG hr6;go_wp2_with fail;go_ret;have hres:pad i (mul (T.drop i) (a.drop i) (b.drop i))=(pad (i+1) (R)).set i (p+t):=by
     rw[drop_cons HT.out.2.2,zq32 (show i<a.length by omega),zq32 (show i<b.length by omega),(zq2.1 HPQ.out.1).2,(zq2.1 HPQ.out.2).2,mul_cons,zq37 hge,←HRR.out,show pad (i+1) (R)=pad i (0::(R)) by rw[←pad_add];rfl];simp[pad]
    rw[hres];exact⟨_,rfl,by have:=HFF.out.mono (B':=w.heap.size) (by omega);exact this,below_unboxed HBG.out⟩
end Go.Proofs.YtlmlamcoeegkbaaGreat.SpecC
