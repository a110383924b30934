import Derived.Test.YtlmlamcoeegkbaaGreatZ0
import Derived.Test.YtlmlamcoeegkbaaGreatZb
import Derived.Test.YtlmlamcoeegkbaaGreatZa
import Derived.Laws.AppendOwnNone
/-
  Lemmas for the law FnStandardForms, in short spelling.
-/
open Go.Lib (hid)
set_option linter.unusedVariables false
set_option linter.unusedSimpArgs false
set_option maxRecDepth 100000
set_option maxHeartbeats 40000000
namespace Go.Proofs.YtlmlamcoeegkbaaGreat.WW
open Go.RowKit Go.Proofs.YtlmlamcoeegkbaaGreat AJ Val
abbrev Any:Nat→Prop:=fun _=>True
def uF (p:Prop)(w:World)(e:Ending)(w':World):Prop:=∃r:Bool,e= .returned (.bool r)∧(r=true↔p)∧w=w'
theorem Po (x:Int)(w:World):Calls Tryz.prog 106 #[.int .i64 x] w fun e w'=>e= .returned (.bool (CZ x))∧w=w':=by
 by_cases h2:x=2
 ·subst h2;go_enter Tryz.func106,Tryz.ntmps106;go_wp2_with fail;go_ret;exact⟨rfl,rfl⟩
 ·by_cases h3:x=3
  ·subst h3;go_enter Tryz.func106,Tryz.ntmps106;go_wp2_with fail;go_ret;exact⟨rfl,rfl⟩
  ·by_cases h5:x=5
   ·subst h5;go_enter Tryz.func106,Tryz.ntmps106;go_wp2_with fail;go_ret;exact⟨rfl,rfl⟩
   ·by_cases h7:x=7
    ·subst h7;go_enter Tryz.func106,Tryz.ntmps106;go_wp2_with fail;go_ret;exact⟨rfl,rfl⟩
    ·have e2:(x==2)=false:=by simpa using h2
     have e3:(x==3)=false:=by simpa using h3
     have e5:(x==5)=false:=by simpa using h5
     have e7:(x==7)=false:=by simpa using h7
     have HB:=hid (show CZ x=false by simp[CZ,h2,h3,h5,h7]);clear h2 h3 h5 h7;go_enter Tryz.func106,Tryz.ntmps106;go_wp2_with fail;go_ret;exact⟨by rw[HB.out];rfl,rfl⟩
theorem AFh (x lo hi:Int)(h1:lo≤x)(h2:x≤hi)(w:World):Calls Tryz.prog 130 #[.int .i64 x,.int .i64 lo,.int .i64 hi] w fun e w'=>e= .returned (.bool true)∧w=w':=by
 have h1':x≥lo:=h1;go_enter Tryz.func130,Tryz.ntmps130;go_wp2_with fail;go_ret;exact⟨rfl,rfl⟩
theorem AFi (x lo hi:Int)(h:¬(lo≤x∧x≤hi))(w:World):Calls Tryz.prog 130 #[.int .i64 x,.int .i64 lo,.int .i64 hi] w fun e w'=>e= .returned (.bool false)∧w=w':=by
 by_cases h1:lo≤x
 ·have h2:¬x≤hi:=fun h2=>h ⟨h1,h2⟩;have h3:decide (x≤hi)=false:=Dh h2;have h4:decide (lo≤x)=true:=En h1;clear h;go_enter Tryz.func130,Tryz.ntmps130;go_wp2_with fail;go_ret;exact⟨rfl,rfl⟩
 ·have h4:decide (lo≤x)=false:=Dh h1;clear h;go_enter Tryz.func130,Tryz.ntmps130;go_wp2_with fail;go_ret;exact⟨rfl,rfl⟩
def Zero (l:List Int):Prop:=∀x∈l,x=0
theorem AEM (S:Nat→Prop)(v:Value)(l:List Int)(w:World)(hv:AL S w v l):
  Calls Tryz.prog 84 #[v] w (uF (Zero l) w):=by
 obtain⟨ao,c,rfl,hc,hm,_,hx⟩:=hv;unfold maxLen at hm;have HM:=hid hm;have hl63:(l.length:Int)≤9223372036854775807:=by omega
 have HX:=hid hx;clear hm hx;go_enter Tryz.func84,Tryz.ntmps84;go_wp2_with fail;go_loop [7] (fun i=>∃k:Nat,k≤l.length∧i= .int .i64 k∧Hid (∀j,j<k→∀x,l[j]?=some x→x=0)) (fun i=>l.length-(intOf i).toNat);case atStart=>exact⟨0,AU _,rfl,hid (fun j h=>absurd h (DX _))⟩
 case round=>
  obtain⟨k,hk,rfl,hz⟩:=hrel;by_cases hlt:k<l.length
  ·obtain⟨x,hg⟩:∃x,l[k]?=some x:=⟨_,AP hlt⟩;obtain⟨b,o,rfl,_,hb,u,hcell,rfl⟩:=HX.out k x hg;have HG:=hid hg;clear hg;by_cases h0:x=0
   ·subst h0;go_wp2_with fail;go_round;case rel=>exact⟨k+1,by omega,by go_num,hid (fun j hj y hy=>by
     rcases FK.1 hj with h|h
     ·exact hz.out j h y hy
     ·subst h;rw[HG.out]at hy;exact(Ng hy).symm)⟩
    case measure=>simp[intOf];omega
   ·have h1:(x !=0)=true:=by simpa using h0
    have H0:=hid h0;clear h0;go_wp2_with fail;go_ret;exact⟨false,rfl,⟨fun h=>absurd h (by simp),fun h=>absurd (h x (Ar HG.out)) H0.out⟩,rfl⟩
  ·obtain rfl:k=l.length:=by omega
   go_wp2_with fail;go_ret;exact⟨true,rfl,⟨fun _ x hx=>by obtain⟨j,hj,rfl⟩:=Nq hx;exact hz.out j hj _ (AP hj),fun _=>rfl⟩,rfl⟩
theorem ADo (w:World)(b o:Nat)(P:Bq)(v:Value)(l:List Int)(hP:Cn Any w b o P)(hv:AL Any w v l)(hpr:∀x∈P.os,CZ x=true):
  Calls Tryz.prog 75 #[.pointer (some ⟨b,o,none⟩),v] w (uF (DN P.os 0 l) w):=by
 obtain⟨_,hbl,vO,vP,vC,hp0,hp1,hp2,hV⟩:=hP;obtain⟨aO,cO,rfl,Bc,Iw,_,hO⟩:=hV.os;obtain⟨ao,c,rfl,hc,hm,_,hx⟩:=hv;have hn63:(l.length:Int)≤9223372036854775807:=by unfold maxLen at hm;omega
 have HX:=hid hx;have HO:=hid hO;have HM:=hid (And.intro Iw hm);have Bw:=hid hpr;clear hx hO Iw hm hpr hV hp1 hp2;by_cases hl:l.length=P.os.length
 ·have hl2:((l.length:Int) !=(P.os.length:Int))=false:=by simp;omega
  have HL:=hid hl;clear hl;go_enter Tryz.func75,Tryz.ntmps75;go_wp2_with fail;go_loop [17] (fun i=>∃k:Nat,k≤l.length∧i= .int .i64 k∧Hid (∀j,j<k→∀x o,l[j]?=some x→P.os[j]?=some o→0≤x∧x<o)) (fun i=>l.length-(intOf i).toNat);case atStart=>exact⟨0,AU _,rfl,hid (fun j h=>absurd h (DX _))⟩
  case round=>
   obtain⟨k,hk,rfl,hz⟩:=hrel;by_cases hlt:k<l.length
   ·obtain⟨x,hg⟩:∃x,l[k]?=some x:=⟨_,AP hlt⟩;obtain⟨q,hq⟩:∃q,P.os[k]?=some q:=⟨_,AP (by rw[←HL.out];exact hlt)⟩;obtain⟨bX,oX,rfl,_,hbX,u,FV,rfl⟩:=HX.out k x hg;obtain⟨bO,oO,rfl,_,Ch,u,Rc,rfl⟩:=HO.out k q hq;have hk2:k<P.os.length:=by rw[←HL.out];exact hlt
    have SI:=Oa (Bw.out q (Ar hq));have HG:=hid (And.intro hg hq);clear hg hq;by_cases hin:0≤x∧x≤q-1
    ·have HI:=hid hin;clear hin;go_wp2_with (go_at_call 130;refine(AFh x 0 (q-1) HI.out.1 HI.out.2 _).mono ?_;rintro e w' ⟨rfl,rfl⟩);go_round;case rel=>exact⟨k+1,by omega,by go_num,hid (fun j hj y p hy hp=>by
      rcases FK.1 hj with h|h
      ·exact hz.out j h y p hy hp
      ·subst h;rw[HG.out.1]at hy;rw[HG.out.2]at hp;cases hy;cases hp;have:=HI.out;omega)⟩
     case measure=>simp[intOf];omega
    ·have HI:=hid hin;clear hin;go_wp2_with (go_at_call 130;refine(AFi x 0 (q-1) HI.out _).mono ?_;rintro e w' ⟨rfl,rfl⟩);go_ret;exact⟨false,rfl,⟨fun h=>absurd h (by simp),fun h=>by have:=h.2 k x q HG.out.1 HG.out.2;exact absurd ⟨this.1,by omega⟩ HI.out⟩,rfl⟩
   ·obtain rfl:k=l.length:=by omega
    go_wp2_with fail;go_ret;exact⟨true,rfl,⟨fun _=>⟨HL.out,fun j x q hx hq=>by have:=hz.out j (Ak.1 hx).1 x q hx hq;exact⟨this.1,this.2,fun h=>absurd h (DX _)⟩⟩,fun _=>rfl⟩,rfl⟩
 ·have hl2:((l.length:Int) !=(P.os.length:Int))=true:=by simp;omega
  have HL:=hid hl;clear hl;go_enter Tryz.func75,Tryz.ntmps75;go_wp2_with fail;go_ret;exact⟨false,rfl,⟨fun h=>absurd h (by simp),fun h=>absurd h.1 HL.out⟩,rfl⟩
theorem AFj {S:Nat→Prop}{w:World}{b o n c:Nat}{l:List Int}(h:AL S w (.slice (some ⟨b,o,none⟩) n c) l)(k:Nat)(hk:k≤n):AL S w (.slice (some ⟨b,o,none⟩) k c) (l.take k):=by
 obtain⟨ao,c',e,h1,h2,h0,hx⟩:=h;obtain⟨rfl,rfl,rfl⟩:some ⟨b,o,none⟩=ao∧n=l.length∧c=c':=by simpa using e
 refine⟨_,c,by rw[Gl,Nat.min_eq_left hk],by rw[Gl];omega,h2,fun e=>absurd e (by simp),fun i x hi=>?_⟩;rw[MQ]at hi;split at hi
 ·exact hx i x hi
 ·cases hi
theorem ADq (w:World)(b o i:Nat)(P:Bq)(v:Value)(l:List Int)(hP:Cn Any w b o P)(hv:AL Any w v l)(hpr:∀x∈P.os,CZ x=true)(hi:i<P.os.length)(hn:P.os.length≤6):
  Calls Tryz.prog 107 #[.pointer (some ⟨b,o,none⟩),.int .i64 (i:Int),v] w (uF (DN P.os (i+1) l) w):=by
 have HE:=hid (ADo w b o P v l hP hv hpr);by_cases h0:DN P.os 0 l
 ·have hl:=h0.1;obtain⟨ao,c,rfl,hc,hm,_,hx⟩:=hv;obtain⟨bX,oX,rfl,_,hbX,u,FV,rfl⟩:=hx i l[i] (AP (by omega));have hv:AL Any w (.slice (some ⟨bX,oX,none⟩) l.length c) l:=⟨_,c,rfl,hc,hm,fun e=>absurd e (by simp),hx⟩;have HZ:=hid (AEM Any _ _ w (AFj hv (i+1) (by omega)));have H0:=hid h0;have HM:=hid hm;have Fq:=hid (show Zero (l.take (i+1))↔DN P.os (i+1) l from by
   constructor
   ·intro hz;refine⟨hl,fun j x q hx hq=>⟨(h0.2 j x q hx hq).1,(h0.2 j x q hx hq).2.1,fun hj=>hz x ?_⟩⟩;exact Ar (i:=j) (by rw[MQ,CU hj];exact hx)
   ·intro ht x hx;obtain⟨j,hj,rfl⟩:=Nq hx;have hj2:j<i+1:=by rw[Gl]at hj;omega
    have hjl:j<l.length:=by rw[Gl]at hj;omega
    rw[List.getElem_take];exact(ht.2 j _ _ (AP hjl) (AP (by omega))).2.2 hj2)
  have hlc:i+1≤l.length:=by omega
  have hcc:i+1≤c:=by omega
  have Es:l.length≤6:=by omega
  clear hx hv FV h0 hpr hP hm hl;go_enter Tryz.func107,Tryz.ntmps107;go_wp2_with fail;refine HE.out.mono ?_;rintro e w' ⟨r,rfl,hr,rfl⟩;obtain rfl:r=true:=hr.2 H0.out;clear hr;go_wp2_with fail;refine HZ.out.mono ?_;rintro e w' ⟨r,rfl,hr,rfl⟩;have HR:=hid hr;clear hr;go_wp2_with fail;go_ret;exact⟨r,rfl,HR.out.trans Fq.out,rfl⟩
 ·have H0:=hid h0;clear h0 hP hv hpr;go_enter Tryz.func107,Tryz.ntmps107;go_wp2_with fail;refine HE.out.mono ?_;rintro e w' ⟨r,rfl,hr,rfl⟩;obtain rfl:r=false:=by cases r;rfl;exact absurd (hr.1 rfl) H0.out
  clear hr;go_wp2_with fail;go_ret;exact⟨false,rfl,⟨fun h=>absurd h (by simp),fun h=>absurd ⟨h.1,fun j x q hx hq=>⟨(h.2 j x q hx hq).1,(h.2 j x q hx hq).2.1,fun h=>absurd h (DX _)⟩⟩ H0.out⟩,rfl⟩
end Go.Proofs.YtlmlamcoeegkbaaGreat.WW
namespace Go.Proofs.YtlmlamcoeegkbaaGreat.MS
open Go.RowKit Go.Proofs.YtlmlamcoeegkbaaGreat AJ Val WW
def PM (p:Prop)(w:World)(e:Ending)(w':World):Prop:=∃r:Bool,e= .returned (.bool r)∧(r=true↔p)∧Below w.heap.size w w'
theorem FE {p:Prop}{w w':World}(h:¬p)(hb:Below w.heap.size w w'):PM p w (.returned (.bool false)) w':=⟨false,rfl,⟨fun h=>absurd h (by simp),fun h'=>absurd h' h⟩,hb⟩
theorem TU {p:Prop}{w w':World}(h:p)(hb:Below w.heap.size w w'):PM p w (.returned (.bool true)) w':=⟨true,rfl,⟨fun _=>h,fun _=>rfl⟩,hb⟩
theorem Ve (w:World)(vO vP vC:Value)(P:Bq)(hV:Aw Any w vO vP vC P):
  Calls Tryz.prog 58 #[.agg #[vO,vP,vC]] w (PM (Valid P) w):=by
 have hW:=hV;obtain⟨aO,cO,rfl,Bc,Iw,hn1,hO⟩:=hV.os;obtain⟨aP,cP,rfl,hcP,OQ,hn2,hP⟩:=hV.ps;obtain⟨aC,cC,rfl,hcC,OT,fM,hC⟩:=hV.cs;have HMM:=hid (And.intro Iw (And.intro OQ OT));have m1:(P.os.length:Int)≤9223372036854775807:=by unfold maxLen at Iw;omega
 have m2:(P.ps.length:Int)≤9223372036854775807:=by unfold maxLen at OQ;omega
 have m3:(P.cs.length:Int)≤9223372036854775807:=by unfold maxLen at OT;omega
 have HB:=hid ((Ag w.heap.size w).alloc AQ (.cells #[.slice aO P.os.length cO,.slice aP P.ps.length cP,.slice aC P.cs.length cC] 28));clear Iw OQ OT hn1 hn2 fM;by_cases h6:P.os.length≤6
 ·have hd6:decide ((P.os.length:Int)>6)=false:=by simp;omega
  by_cases hpl:P.ps.length=P.os.length
  ·have hp2:((P.ps.length:Int) !=(P.os.length:Int))=false:=by simp;omega
   by_cases hcl:P.cs.length=P.os.length
   ·have hc2:((P.cs.length:Int) !=(P.os.length:Int))=false:=by simp;omega
    have G6:=hid hpl;have Fp:=hid hcl;have HO:=hid hO;have HP:=hid hP;have HC:=hid hC;have J6:=hid (show Cn Any (w.alloc (.cells #[.slice aO P.os.length cO,.slice aP P.ps.length cP,.slice aC P.cs.length cC] 28)) w.heap.size 0 P from by
     have hb:=Ag (w.heap.size+1) (w.alloc (.cells #[.slice aO P.os.length cO,.slice aP P.ps.length cP,.slice aC P.cs.length cC] 28));obtain⟨e0,e1,e2⟩:=Cc hb;exact⟨trivial,by simp,_,_,_,e0,e1,e2,hW.keep (DW hb _)⟩)
    have Gd:=hid (DW (Ag (w.heap.size+1) (w.alloc (.cells #[.slice aO P.os.length cO,.slice aP P.ps.length cP,.slice aC P.cs.length cC] 28))) Any);clear hpl hcl hO hP hC hV hW;go_enter Tryz.func58,Tryz.ntmps58;go_wp2_with fail;go_loop [4,32] (fun q i=>∃k:Nat,k≤P.os.length∧i= .int .i64 (k:Int)∧∃z:Int,q= .int .i64 z∧1≤z∧z≤729∧Hid (z=DR (P.os.take k)∧∀x∈P.os.take k,CZ x=true)) (fun _ i=>P.os.length-(intOf i).toNat);case atStart=>exact⟨0,AU _,rfl,1,rfl,by omega,by omega,hid ⟨rfl,fun x hx=>by simp at hx⟩⟩
    case round=>
     obtain⟨k,hk,rfl,z,rfl,hz1,hz2,hR⟩:=hrel;by_cases hlt:k<P.os.length
     ·obtain⟨x,hx⟩:∃x,P.os[k]?=some x:=⟨_,AP hlt⟩;obtain⟨bO,oO,rfl,_,Ch,u,Rc,rfl⟩:=HO.out k x hx;have HX:=hid hx;clear hx;by_cases hpr:CZ x=true
      ·have hx7:=Oa hpr;have b1:1≤z*x:=by have:1*1≤z*x:=Int.mul_le_mul hz1 (by omega) (by omega) (by omega);simpa using this
       have b2:z*x≤5103:=by have:z*x≤729*7:=Int.mul_le_mul hz2 hx7.2 (by omega) (by omega);simpa using this
       have Bw:=hid hpr;clear hpr;by_cases hbig:z*x≤729
       ·have hg:decide (z*x>729)=false:=by simp;omega
        have HT:=hid (show z*x=DR (P.os.take (k+1))∧∀y∈P.os.take (k+1),CZ y=true from by
         refine⟨by rw[Y8 HX.out,hR.out.1],fun y hy=>?_⟩;rw[Jd,HX.out]at hy;rcases Hr.1 hy with h|h
         ·exact hR.out.2 y h
         ·simp at h;rw[h];exact Bw.out)
        go_wp2_with (go_at_call 106;refine(Po x _).mono ?_;rintro e w' ⟨rfl,rfl⟩;rw[Bw.out]);go_round;case rel=>exact⟨k+1,by omega,by go_num,z*x,rfl,b1,hbig,HT⟩
        case measure=>simp[intOf];omega
       ·have hg:decide (z*x>729)=true:=by simp;omega
        have HN:=hid (show¬Valid P from fun h=>hbig (by
         have h1:=ADs h.pr (k+1);rw[Y8 HX.out,←hR.out.1]at h1;have:=h.le;omega))
        go_wp2_with (go_at_call 106;refine(Po x _).mono ?_;rintro e w' ⟨rfl,rfl⟩;rw[Bw.out]);go_ret;exact FE HN.out HB.out
      ·have Bw:=hid (show CZ x=false by simpa using hpr);have HN:=hid (show¬Valid P from fun h=>hpr (h.pr x (Ar HX.out)));clear hpr;go_wp2_with (go_at_call 106;refine(Po x _).mono ?_;rintro e w' ⟨rfl,rfl⟩;rw[Bw.out]);go_ret;exact FE HN.out HB.out
     ·obtain rfl:k=P.os.length:=by omega
      have Bw:=hid (show(∀x∈P.os,CZ x=true)∧DR P.os≤729 from by
       have h:=hR.out;rw[Me]at h;exact⟨h.2,by rw[←h.1];exact hz2⟩)
      have IE:=hid (fun(i:Nat) (v:Value) (l:List Int) (hv:AL Any _ v l) (hi:i<P.os.length)=>ADq _ w.heap.size 0 i P v l J6.out hv Bw.out.1 hi h6);clear hR hlt hk;go_wp2_with fail;go_loop [50] (fun i=>∃k:Nat,k≤P.os.length∧i= .int .i64 (k:Int)∧Hid (∀j,j<k→(∀p,P.ps[j]?=some p→DN P.os (j+1) p)∧∀c,P.cs[j]?=some c→c.length=P.os.length-1-j∧∀y∈c,DN P.os (j+1) y)) (fun i=>P.os.length-(intOf i).toNat);case atStart=>exact⟨0,AU _,rfl,hid (fun j h=>absurd h (DX _))⟩
      case round=>
       obtain⟨i,hi,rfl,hR⟩:=hrel;by_cases hlt:i<P.os.length
       ·obtain⟨p,hp⟩:∃p,P.ps[i]?=some p:=⟨_,AP (by rw[G6.out];exact hlt)⟩;obtain⟨c,hc⟩:∃c,P.cs[i]?=some c:=⟨_,AP (by rw[Fp.out];exact hlt)⟩;obtain⟨bP,oP,rfl,_,EK,uP,oH,EA⟩:=HP.out i p hp;obtain⟨bC,oC,rfl,_,hbC,uC,dN,U8⟩:=HC.out i c hc;obtain⟨a2,c2,rfl,h21,h22,_,YU⟩:=U8;have m4:(c.length:Int)≤9223372036854775807:=by unfold maxLen at h22;omega
        have H22:=hid h22;have uG:=hid YU;have Ew:=hid (EA.keep Gd.out);have DF:=hid hp;have Eg:=hid hc;have hi2:i<P.ps.length:=by rw[G6.out];exact hlt
        have hi3:i<P.cs.length:=by rw[Fp.out];exact hlt
        have hd:decide ((i:Int)<(P.os.length:Int))=true:=by simp;omega
        clear hp hc EA h22 YU;by_cases NH:DN P.os (i+1) p
        ·have JR:=hid NH;clear NH;by_cases hln:c.length=P.os.length-1-i
         ·have hlb:((c.length:Int) !=(P.os.length:Int)-1-(i:Int))=false:=by simp;omega
          have Cj:=hid hln;clear hln;go_wp2_with (go_at_call 107;refine(IE.out i _ p Ew.out hlt).mono ?_;rintro e w' ⟨r,rfl,hr,rfl⟩;obtain rfl:r=true:=hr.2 JR.out;clear hr);go_loop [80] (fun kv=>∃k:Nat,k≤c.length∧kv= .int .i64 (k:Int)∧Hid (∀j y,j<k→c[j]?=some y→DN P.os (i+1) y)) (fun kv=>c.length-(intOf kv).toNat);case atStart=>exact⟨0,AU _,rfl,hid (fun j y h=>absurd h (DX _))⟩
          case round=>
           obtain⟨k,hk,rfl,hS⟩:=hrel;by_cases hkc:k<c.length
           ·obtain⟨y,hy⟩:∃y,c[k]?=some y:=⟨_,AP hkc⟩;obtain⟨b2,o2,rfl,_,hb2,uy,hcy,FW⟩:=uG.out k y hy;have Gf:=hid (FW.keep Gd.out);have HY:=hid hy;clear hy FW;by_cases hty:DN P.os (i+1) y
            ·have Lx:=hid hty;clear hty;go_wp2_with (go_at_call 107;refine(IE.out i _ y Gf.out hlt).mono ?_;rintro e w' ⟨r,rfl,hr,rfl⟩;obtain rfl:r=true:=hr.2 Lx.out;clear hr);go_round;case rel=>exact⟨k+1,by omega,by go_num,hid (fun j z hj hz=>by
              rcases FK.1 hj with h|h
              ·exact hS.out j z h hz
              ·subst h;rw[HY.out]at hz;cases hz;exact Lx.out)⟩
             case measure=>simp[intOf];omega
            ·have Lx:=hid hty;have HN:=hid (show¬Valid P from fun h=>hty ((h.cv i c Eg.out).2 y (Ar HY.out)));clear hty;go_wp2_with (go_at_call 107;refine(IE.out i _ y Gf.out hlt).mono ?_;rintro e w' ⟨r,rfl,hr,rfl⟩;obtain rfl:r=false:=(by cases r;rfl;exact absurd (hr.1 rfl) Lx.out);clear hr);go_ret;exact FE HN.out HB.out
           ·obtain rfl:k=c.length:=by omega
            have GK:=hid (show∀j,j<i+1→(∀p,P.ps[j]?=some p→DN P.os (j+1) p)∧∀c,P.cs[j]?=some c→c.length=P.os.length-1-j∧∀y∈c,DN P.os (j+1) y from fun j hj=>by
             rcases FK.1 hj with h|h
             ·exact hR.out j h
             ·subst h;refine⟨fun q hq=>?_,fun d hd=>?_⟩
              ·rw[DF.out]at hq;cases hq;exact JR.out
              ·rw[Eg.out]at hd;cases hd;refine⟨Cj.out,fun y hy=>?_⟩;obtain⟨t,ht,rfl⟩:=Nq hy;exact hS.out t _ ht (AP ht))
            go_wp2_with fail;go_round;case rel=>exact⟨i+1,by omega,by go_num,GK⟩
            case measure=>simp[intOf];omega
         ·have hlb:((c.length:Int) !=(P.os.length:Int)-1-(i:Int))=true:=by simp;omega
          have HN:=hid (show¬Valid P from fun h=>hln (h.cv i c Eg.out).1);clear hln;go_wp2_with (go_at_call 107;refine(IE.out i _ p Ew.out hlt).mono ?_;rintro e w' ⟨r,rfl,hr,rfl⟩;obtain rfl:r=true:=hr.2 JR.out;clear hr);go_ret;exact FE HN.out HB.out
        ·have JR:=hid NH;have HN:=hid (show¬Valid P from fun h=>NH (h.pv i p DF.out));clear NH;go_wp2_with (go_at_call 107;refine(IE.out i _ p Ew.out hlt).mono ?_;rintro e w' ⟨r,rfl,hr,rfl⟩;obtain rfl:r=false:=(by cases r;rfl;exact absurd (hr.1 rfl) JR.out);clear hr);go_ret;exact FE HN.out HB.out
       ·obtain rfl:i=P.os.length:=by omega
        have PD:=hid (show Valid P from⟨h6,G6.out,Fp.out,Bw.out.1,Bw.out.2,fun j p hp=>(hR.out j (by have:=(Ak.1 hp).1;rw[G6.out]at this;exact this)).1 p hp,fun j c hc=>(hR.out j (by have:=(Ak.1 hc).1;rw[Fp.out]at this;exact this)).2 c hc⟩);go_wp2_with fail;go_ret;exact TU PD.out HB.out
   ·have hc2:((P.cs.length:Int) !=(P.os.length:Int))=true:=by simp;omega
    have HN:=hid (show¬Valid P from fun h=>hcl h.cl);clear hcl hpl hO hP hC hV hW;go_enter Tryz.func58,Tryz.ntmps58;go_wp2_with fail;go_ret;exact FE HN.out HB.out
  ·have hp2:((P.ps.length:Int) !=(P.os.length:Int))=true:=by simp;omega
   have HN:=hid (show¬Valid P from fun h=>hpl h.pl);clear hpl hO hP hC hV hW;go_enter Tryz.func58,Tryz.ntmps58;go_wp2_with fail;go_ret;exact FE HN.out HB.out
 ·have hd6:decide ((P.os.length:Int)>6)=true:=by simp;omega
  have HN:=hid (show¬Valid P from fun h=>h6 h.n6);clear h6 hO hP hC hV hW;go_enter Tryz.func58,Tryz.ntmps58;go_wp2_with fail;go_ret;exact FE HN.out HB.out
end Go.Proofs.YtlmlamcoeegkbaaGreat.MS
namespace Go.Proofs.YtlmlamcoeegkbaaGreat.QA
open Go.RowKit Go.Proofs.YtlmlamcoeegkbaaGreat AJ Val WW MS
theorem Po (x:Int)(w:World):Calls Tryz.prog 149 #[.int .i64 x] w fun e w'=>e= .returned (.bool (CZ x))∧w=w':=by
 by_cases h2:x=2
 ·subst h2;go_enter Tryz.func149,Tryz.ntmps149;go_wp2_with fail;go_ret;exact⟨rfl,rfl⟩
 ·by_cases h3:x=3
  ·subst h3;go_enter Tryz.func149,Tryz.ntmps149;go_wp2_with fail;go_ret;exact⟨rfl,rfl⟩
  ·by_cases h5:x=5
   ·subst h5;go_enter Tryz.func149,Tryz.ntmps149;go_wp2_with fail;go_ret;exact⟨rfl,rfl⟩
   ·by_cases h7:x=7
    ·subst h7;go_enter Tryz.func149,Tryz.ntmps149;go_wp2_with fail;go_ret;exact⟨rfl,rfl⟩
    ·have e2:(x==2)=false:=by simpa using h2
     have e3:(x==3)=false:=by simpa using h3
     have e5:(x==5)=false:=by simpa using h5
     have e7:(x==7)=false:=by simpa using h7
     have HB:=hid (show CZ x=false by simp[CZ,h2,h3,h5,h7]);clear h2 h3 h5 h7;go_enter Tryz.func149,Tryz.ntmps149;go_wp2_with fail;go_ret;exact⟨by rw[HB.out];rfl,rfl⟩
theorem UZ (x lo hi:Int)(h1:lo≤x)(h2:x≤hi)(w:World):Calls Tryz.prog 180 #[.int .i64 x,.int .i64 lo,.int .i64 hi] w fun e w'=>e= .returned (.bool true)∧w'=w:=by
 have h1':x≥lo:=h1;go_enter Tryz.func180,Tryz.ntmps180;go_wp2_with fail;go_ret;exact⟨rfl,rfl⟩
theorem nu (x lo hi:Int)(h:¬(lo≤x∧x≤hi))(w:World):Calls Tryz.prog 180 #[.int .i64 x,.int .i64 lo,.int .i64 hi] w fun e w'=>e= .returned (.bool false)∧w'=w:=by
 by_cases h1:lo≤x
 ·have h2:¬x≤hi:=fun h2=>h ⟨h1,h2⟩;have h3:decide (x≤hi)=false:=Dh h2;have h4:decide (lo≤x)=true:=En h1;clear h;go_enter Tryz.func180,Tryz.ntmps180;go_wp2_with fail;go_ret;exact⟨rfl,rfl⟩
 ·have h4:decide (lo≤x)=false:=Dh h1;clear h;go_enter Tryz.func180,Tryz.ntmps180;go_wp2_with fail;go_ret;exact⟨rfl,rfl⟩
def YV (p:Prop)(w:World)(e:Ending)(w':World):Prop:=∃r:Bool,e= .returned (.bool r)∧(r=true↔p)∧∃n,w'=w.drewN n
theorem jo {p:Prop}{w:World}{n:Nat}(h:¬p):YV p w (.returned (.bool false)) (w.drewN n):=⟨false,rfl,⟨fun h=>absurd h (by simp),fun h'=>absurd h' h⟩,n,rfl⟩
theorem AFk {p:Prop}{w:World}{n:Nat}(h:p):YV p w (.returned (.bool true)) (w.drewN n):=⟨true,rfl,⟨fun _=>h,fun _=>rfl⟩,n,rfl⟩
theorem Vp (w:World)(vo v:Value)(os l:List Int)(zc:Int)(z:Nat)(hz:∀j:Nat,((j:Int)≤zc↔j<z))(ho:AL Any w vo os)(hv:AL Any w v l)(hpr:∀x∈os,CZ x=true):
  Calls Tryz.prog 133 #[vo,v,.int .i64 zc] w (YV (DN os z l) w):=by
 obtain⟨aO,cO,rfl,Bc,Iw,_,hO⟩:=ho;obtain⟨ao,c,rfl,hc,hm,_,hx⟩:=hv;have hn63:(l.length:Int)≤9223372036854775807:=by unfold maxLen at hm;omega
 have HX:=hid hx;have HO:=hid hO;have HM:=hid (And.intro Iw hm);have Bw:=hid hpr;have HZ:=hid hz;clear hx hO Iw hm hpr hz;by_cases hl:l.length=os.length
 ·have hl2:((l.length:Int) !=(os.length:Int))=false:=by simp;omega
  have HL:=hid hl;clear hl;go_enter Tryz.func133,Tryz.ntmps133;go_wp2_with fail;go_loopw [7] (fun i wr=>∃k:Nat,k≤l.length∧i= .int .i64 (k:Int)∧Hid (∀j,j<k→∀x o,l[j]?=some x→os[j]?=some o→0≤x∧x<o∧(j<z→x=0))∧Hid (∃n,wr=w.drewN n)) (fun i _=>l.length-(intOf i).toNat);case atStart=>exact⟨0,AU _,rfl,hid (fun j h=>absurd h (DX _)),hid ⟨0,rfl⟩⟩
  case round=>
   obtain⟨k,hk,rfl,hR,hW⟩:=hrel;obtain⟨m,hw⟩:=hW.out;have HW:=hid hw;clear hw;by_cases hlt:k<l.length
   ·obtain⟨x,hg⟩:∃x,l[k]?=some x:=⟨_,AP hlt⟩;obtain⟨q,hq⟩:∃q,os[k]?=some q:=⟨_,AP (by rw[←HL.out];exact hlt)⟩;obtain⟨bX,oX,rfl,_,hbX,u,FV,rfl⟩:=HX.out k x hg;obtain⟨bO,oO,rfl,_,Ch,u,Rc,rfl⟩:=HO.out k q hq;have ALf:wr.cell? ⟨bX,oX+k,none⟩=some (.int .i64 x):=by rw[HW.out];exact FV
    have ALg:wr.cell? ⟨bO,oO+k,none⟩=some (.int .i64 q):=by rw[HW.out];exact Rc
    have hk2:k<os.length:=by rw[←HL.out];exact hlt
    have SI:=Oa (Bw.out q (Ar hq));have HG:=hid (And.intro hg hq);have w1:IntKind.i64.wrap (q-1)=q-1:=AY _ (by omega);have w4:(k:Int)<(l.length:Int):=by omega
    have w5:(0:Int)≤(k:Int):=by omega
    have w6:(k:Int)<(os.length:Int):=by omega
    clear hg hq;by_cases hin:0≤x∧x≤q-1
    ·have HI:=hid hin;clear hin;by_cases hkz:(k:Int)≤zc
     ·have hd:decide ((k:Int)≤zc)=true:=En hkz;have uH:=hid ((HZ.out k).1 hkz);clear hkz;by_cases h0:x=0
      ·have hx0:(x !=0)=false:=by simpa using h0
       have HX0:=hid h0;clear h0;go_wp2_with fail;go_quiet ((go_at_call 180;exact Calls.quiet_of_same (UZ x 0 (q-1) HI.out.1 HI.out.2 _)));go_wp2_with fail;go_roundw;case rel=>exact⟨k+1,by omega,by go_num,hid (fun j hj y p hy hp=>by
        rcases FK.1 hj with h|h
        ·exact hR.out j h y p hy hp
        ·subst h;rw[HG.out.1]at hy;rw[HG.out.2]at hp;cases hy;cases hp;have:=HI.out;exact⟨this.1,by omega,fun _=>HX0.out⟩),hid ⟨m+nq,by rw[HW.out,Oo]⟩⟩
       case measure=>simp[intOf];omega
      ·have hx0:(x !=0)=true:=by simpa using h0
       have HN:=hid (show¬DN os z l from fun h=>h0 ((h.2 k x q HG.out.1 HG.out.2).2.2 uH.out));clear h0;go_wp2_with fail;go_quiet ((go_at_call 180;exact Calls.quiet_of_same (UZ x 0 (q-1) HI.out.1 HI.out.2 _)));go_wp2_with fail;go_ret;rw[HW.out,Oo];exact jo HN.out
     ·have hd:decide ((k:Int)≤zc)=false:=Dh hkz;have uH:=hid (fun h=>hkz ((HZ.out k).2 h));clear hkz;go_wp2_with fail;go_quiet ((go_at_call 180;exact Calls.quiet_of_same (UZ x 0 (q-1) HI.out.1 HI.out.2 _)));go_wp2_with fail;go_roundw;case rel=>exact⟨k+1,by omega,by go_num,hid (fun j hj y p hy hp=>by
       rcases FK.1 hj with h|h
       ·exact hR.out j h y p hy hp
       ·subst h;rw[HG.out.1]at hy;rw[HG.out.2]at hp;cases hy;cases hp;have:=HI.out;exact⟨this.1,by omega,fun h=>absurd h uH.out⟩),hid ⟨m+nq,by rw[HW.out,Oo]⟩⟩
      case measure=>simp[intOf];omega
    ·have HI:=hid hin;have HN:=hid (show¬DN os z l from fun h=>by have:=h.2 k x q HG.out.1 HG.out.2;exact hin ⟨this.1,by omega⟩);clear hin;go_wp2_with fail;go_quiet ((go_at_call 180;exact Calls.quiet_of_same (nu x 0 (q-1) HI.out _)));go_wp2_with fail;go_ret;rw[HW.out,Oo];exact jo HN.out
   ·obtain rfl:k=l.length:=by omega
    have PD:=hid (show DN os z l from⟨HL.out,fun j x q hx hq=>hR.out j (Ak.1 hx).1 x q hx hq⟩);go_wp2_with fail;go_ret;rw[HW.out];exact AFk PD.out
 ·have hl2:((l.length:Int) !=(os.length:Int))=true:=by simp;omega
  have HN:=hid (show¬DN os z l from fun h=>hl h.1);clear hl;go_enter Tryz.func133,Tryz.ntmps133;go_wp2_with fail;go_ret;exact jo (n:=0) HN.out
def AH5 (os:List Int)(w:World)(e:Ending)(w':World):Prop:=∃r:Int,e= .returned (.int .i64 r)∧(r≤729↔DR os≤729)∧(r≤729→r=DR os)∧w=w'
theorem NU (w:World)(vo:Value)(os:List Int)(ho:AL Any w vo os)(hpr:∀x∈os,CZ x=true):
  Calls Tryz.prog 148 #[vo] w (AH5 os w):=by
 obtain⟨aO,cO,rfl,Bc,Iw,_,hO⟩:=ho;have hn63:(os.length:Int)≤9223372036854775807:=by unfold maxLen at Iw;omega
 have HO:=hid hO;have HM:=hid Iw;have Bw:=hid hpr;clear hO Iw hpr;go_enter Tryz.func148,Tryz.ntmps148;go_wp2_with fail;go_loop [3,4] (fun q i=>∃k:Nat,k≤os.length∧i= .int .i64 (k:Int)∧∃z:Int,q= .int .i64 z∧1≤z∧z≤5103∧Hid ((z≤729→z=DR (os.take k))∧(729<z→729<DR (os.take k)))) (fun _ i=>os.length-(intOf i).toNat);case atStart=>exact⟨0,AU _,rfl,1,rfl,by omega,by omega,hid ⟨fun _=>rfl,fun h=>by omega⟩⟩
 case round=>
  obtain⟨k,hk,rfl,z,rfl,hz1,hz2,hR⟩:=hrel;by_cases hlt:k<os.length
  ·obtain⟨x,hx⟩:∃x,os[k]?=some x:=⟨_,AP hlt⟩;obtain⟨bO,oO,rfl,_,Ch,u,Rc,rfl⟩:=HO.out k x hx;have hx7:=Oa (Bw.out x (Ar hx));have HX:=hid hx;clear hx;by_cases hbig:z≤729
   ·have b1:1≤z*x:=by have:1*1≤z*x:=Int.mul_le_mul hz1 (by omega) (by omega) (by omega);simpa using this
    have b2:z*x≤5103:=by have:z*x≤729*7:=Int.mul_le_mul hbig hx7.2 (by omega) (by omega);simpa using this
    have HT:=hid (show(z*x≤729→z*x=DR (os.take (k+1)))∧(729<z*x→729<DR (os.take (k+1))) from by
     rw[Y8 HX.out,←hR.out.1 hbig];exact⟨fun _=>rfl,fun h=>h⟩)
    go_wp2_with fail;go_round;case rel=>exact⟨k+1,by omega,by go_num,z*x,rfl,b1,b2,HT⟩
    case measure=>simp[intOf];omega
   ·have HT:=hid (show(z≤729→z=DR (os.take (k+1)))∧(729<z→729<DR (os.take (k+1))) from by
     refine⟨fun h=>absurd h hbig,fun h=>?_⟩;rw[Y8 HX.out];have h1:=hR.out.2 h;have h2:DR (os.take k)*1≤DR (os.take k)*x:=Int.mul_le_mul (Int.le_refl _) (by omega) (by omega) (by omega);rw[Int.mul_one]at h2;omega)
    go_wp2_with fail;go_round;case rel=>exact⟨k+1,by omega,by go_num,z,rfl,hz1,hz2,HT⟩
    case measure=>simp[intOf];omega
  ·obtain rfl:k=os.length:=by omega
   go_wp2_with fail;go_ret;have h:=hR.out;rw[Me]at h;refine⟨z,rfl,⟨fun h1=>by rw[←h.1 h1];exact h1,fun h1=>?_⟩,h.1,rfl⟩;apply Int.le_of_not_gt;intro h2;have:=h.2 h2;omega
end Go.Proofs.YtlmlamcoeegkbaaGreat.QA
namespace Go.Proofs.YtlmlamcoeegkbaaGreat.aH
open Go.RowKit Go.Proofs.YtlmlamcoeegkbaaGreat AJ Val WW MS QA
theorem lS {w:World}{vo v:Value}{os l:List Int}{zc:Int}{z:Nat}(h:DN os z l)(hc:Calls Tryz.prog 133 #[vo,v,.int .i64 zc] w (YV (DN os z l) w)):
  Calls Tryz.prog 133 #[vo,v,.int .i64 zc] w fun e w'=>e= .returned (.bool true)∧∃n,w'=w.drewN n:=
 hc.mono fun e w' ⟨r,he,hr,hw⟩=>⟨by rw[he,hr.2 h],hw⟩
theorem AAe {w:World}{vo v:Value}{os l:List Int}{zc:Int}{z:Nat}(h:¬DN os z l)(hc:Calls Tryz.prog 133 #[vo,v,.int .i64 zc] w (YV (DN os z l) w)):
  Calls Tryz.prog 133 #[vo,v,.int .i64 zc] w fun e w'=>e= .returned (.bool false)∧∃n,w'=w.drewN n:=
 hc.mono fun e w' ⟨r,he,hr,hw⟩=>⟨by cases r;exact he;exact absurd (hr.1 rfl) h,hw⟩
theorem WX (i:Nat):∀j:Nat,((j:Int)≤(i:Int)↔j<i+1):=fun j=>by omega
theorem Ve (w:World)(vO vP vC:Value)(P:Bq)(hV:Aw Any w vO vP vC P):
  Calls Tryz.prog 101 #[.agg #[vO,vP,vC]] w (PM (Valid P) w):=by
 have hW:=hV;obtain⟨aO,cO,rfl,Bc,Iw,hn1,hO⟩:=hV.os;obtain⟨aP,cP,rfl,hcP,OQ,hn2,hP⟩:=hV.ps;obtain⟨aC,cC,rfl,hcC,OT,fM,hC⟩:=hV.cs;have HMM:=hid (And.intro Iw (And.intro OQ OT));have m1:(P.os.length:Int)≤9223372036854775807:=by unfold maxLen at Iw;omega
 have m2:(P.ps.length:Int)≤9223372036854775807:=by unfold maxLen at OQ;omega
 have m3:(P.cs.length:Int)≤9223372036854775807:=by unfold maxLen at OT;omega
 have HB:=hid ((Ag w.heap.size w).alloc AQ (.cells #[.slice aO P.os.length cO,.slice aP P.ps.length cP,.slice aC P.cs.length cC] 28));clear Iw OQ OT hn1 hn2 fM;by_cases h6:P.os.length≤6
 ·have hd6:decide ((P.os.length:Int)>6)=false:=by simp;omega
  by_cases hpl:P.ps.length=P.os.length
  ·have hp2:((P.ps.length:Int) !=(P.os.length:Int))=false:=by simp;omega
   by_cases hcl:P.cs.length=P.os.length
   ·have hc2:((P.cs.length:Int) !=(P.os.length:Int))=false:=by simp;omega
    have G6:=hid hpl;have Fp:=hid hcl;have HO:=hid hO;have HP:=hid hP;have HC:=hid hC;have HW:=hid hW;clear hpl hcl hO hP hC hV hW;go_enter Tryz.func101,Tryz.ntmps101;go_wp2_with fail;go_loop [4] (fun i=>∃k:Nat,k≤P.os.length∧i= .int .i64 (k:Int)∧Hid (∀j,j<k→∀x,P.os[j]?=some x→CZ x=true)) (fun i=>P.os.length-(intOf i).toNat);case atStart=>exact⟨0,AU _,rfl,hid (fun j h=>absurd h (DX _))⟩
    case round=>
     obtain⟨k,hk,rfl,hR⟩:=hrel;by_cases hlt:k<P.os.length
     ·obtain⟨x,hx⟩:∃x,P.os[k]?=some x:=⟨_,AP hlt⟩;obtain⟨bO,oO,rfl,_,Ch,u,Rc,rfl⟩:=HO.out k x hx;have HX:=hid hx;clear hx;by_cases hpr:CZ x=true
      ·have Bw:=hid hpr;clear hpr;go_wp2_with (go_at_call 149;refine(QA.Po x _).mono ?_;rintro e w' ⟨rfl,rfl⟩;rw[Bw.out]);go_round;case rel=>exact⟨k+1,by omega,by go_num,hid (fun j hj y hy=>by
        rcases FK.1 hj with h|h
        ·exact hR.out j h y hy
        ·subst h;rw[HX.out]at hy;cases hy;exact Bw.out)⟩
       case measure=>simp[intOf];omega
      ·have Bw:=hid (show CZ x=false by simpa using hpr);have HN:=hid (show¬Valid P from fun h=>hpr (h.pr x (Ar HX.out)));clear hpr;go_wp2_with (go_at_call 149;refine(QA.Po x _).mono ?_;rintro e w' ⟨rfl,rfl⟩;rw[Bw.out]);go_ret;exact FE HN.out HB.out
     ·obtain rfl:k=P.os.length:=by omega
      have Bw:=hid (show∀x∈P.os,CZ x=true from fun x hx=>by obtain⟨j,hj,rfl⟩:=Nq hx;exact hR.out j hj _ (AP hj));clear hR hlt hk;go_wp2_with fail;refine(NU _ _ P.os (HW.out.os.keep (AB.alloc _)) Bw.out).mono ?_;rintro e w' ⟨r,rfl,hr1,_,rfl⟩;by_cases hle:DR P.os≤729
      ·have hrd:decide (r>729)=false:=by have:=hr1.2 hle;simp;omega
       have FU:=hid hle;clear hle hr1;go_wp2_with fail;go_loopw [5] (fun i wr=>∃k:Nat,k≤P.os.length∧i= .int .i64 (k:Int)∧Hid (∀j,j<k→(∀p,P.ps[j]?=some p→DN P.os (j+1) p)∧∀c,P.cs[j]?=some c→c.length=P.os.length-1-j∧∀y∈c,DN P.os (j+1) y)∧Below (w.heap.size+1) (w.alloc (.cells #[.slice aO P.os.length cO,.slice aP P.ps.length cP,.slice aC P.cs.length cC] 28)) wr) (fun i _=>P.os.length-(intOf i).toNat);case atStart=>exact⟨0,AU _,rfl,hid (fun j h=>absurd h (DX _)),Ag _ _⟩
       case round=>
        obtain⟨i,hi,rfl,hR,hb⟩:=hrel;obtain⟨e0,e1,e2⟩:=Cc hb;have Cq:=hid hb;have HK:=hid (DW hb Any);have Au:=hid (Dx hb);clear hb;by_cases hlt:i<P.os.length
        ·obtain⟨p,hp⟩:∃p,P.ps[i]?=some p:=⟨_,AP (by rw[G6.out];exact hlt)⟩;obtain⟨c,hc⟩:∃c,P.cs[i]?=some c:=⟨_,AP (by rw[Fp.out];exact hlt)⟩;obtain⟨bP,oP,rfl,_,EK,uP,oH,EA⟩:=HP.out i p hp;obtain⟨bC,oC,rfl,_,hbC,uC,dN,U8⟩:=HC.out i c hc;obtain⟨a2,c2,rfl,h21,h22,_,YU⟩:=U8;have g1:wr.cell? ⟨bP,oP+i,none⟩=some uP:=by rw[HK.out.cell trivial EK];exact oH
         have g2:wr.cell? ⟨bC,oC+i,none⟩=some (.slice a2 c.length c2):=by rw[HK.out.cell trivial hbC];exact dN
         have m4:(c.length:Int)≤9223372036854775807:=by unfold maxLen at h22;omega
         have H22:=hid h22;have uG:=hid YU;have Ew:=hid (EA.keep HK.out);have Si:=hid (HW.out.os.keep HK.out);have DF:=hid hp;have Eg:=hid hc;have hi2:i<P.ps.length:=by rw[G6.out];exact hlt
         have hi3:i<P.cs.length:=by rw[Fp.out];exact hlt
         have wa:IntKind.i64.wrap ((P.os.length:Int)-1)=(P.os.length:Int)-1:=AY _ (by omega);have wb:IntKind.i64.wrap ((P.os.length:Int)-1-(i:Int))=(P.os.length:Int)-1-(i:Int):=AY _ (by omega);have w4:(i:Int)<(P.ps.length:Int):=by omega
         have w5:(0:Int)≤(i:Int):=by omega
         have w6:(i:Int)<(P.cs.length:Int):=by omega
         have hd:decide ((i:Int)<(P.os.length:Int))=true:=by simp;omega
         have HCI:=hid dN;clear hp hc EA h22 YU oH dN;by_cases NH:DN P.os (i+1) p
         ·have JR:=hid NH;clear NH;by_cases hln:c.length=P.os.length-1-i
          ·have hlb:((c.length:Int) !=(P.os.length:Int)-1-(i:Int))=false:=by simp;omega
           have Cj:=hid hln;clear hln;go_wp2_with fail;go_quiet ((go_at_call 133;exact Calls.quiet_of (lS JR.out (Vp _ _ _ _ _ (i:Int) (i+1) (WX i) (Si.out.keep (AB.drewN _)) (Ew.out.keep (AB.drewN _)) Bw.out))));go_wp2_with fail;obtain⟨w5,Ci⟩:∃w5,w5=wr.drewN nq:=⟨_,rfl⟩;have AZ:=hid (show Below (w.heap.size+1) (w.alloc (.cells #[.slice aO P.os.length cO,.slice (some ⟨bP,oP,none⟩) P.ps.length cP,.slice (some ⟨bC,oC,none⟩) P.cs.length cC] 28)) w5 by rw[Ci];exact Dp Cq.out nq);rw[←Ci];clear Ci e0 e1 e2 g1 g2;go_loopw [6] (fun kv wi=>∃k:Nat,k≤c.length∧kv= .int .i64 (k:Int)∧Hid (∀j y,j<k→c[j]?=some y→DN P.os (i+1) y)∧Below (w.heap.size+1) (w.alloc (.cells #[.slice aO P.os.length cO,.slice (some ⟨bP,oP,none⟩) P.ps.length cP,.slice (some ⟨bC,oC,none⟩) P.cs.length cC] 28)) wi) (fun kv _=>c.length-(intOf kv).toNat);case atStart=>exact⟨0,AU _,rfl,hid (fun j y h=>absurd h (DX _)),AZ.out⟩
           case round=>
            clear AZ Ew Si Cq;obtain⟨k,hk,rfl,hS,hb⟩:=hrel;obtain⟨e0,e1,e2⟩:=Cc hb;have Cq:=hid hb;have YW:=hid (DW hb Any);have AJb:=hid (Dx hb);clear hb;by_cases hkc:k<c.length
            ·obtain⟨y,hy⟩:∃y,c[k]?=some y:=⟨_,AP hkc⟩;obtain⟨b2,o2,rfl,_,hb2,uy,hcy,FW⟩:=uG.out k y hy;have g2:wr.cell? ⟨bC,oC+i,none⟩=some (.slice (some ⟨b2,o2,none⟩) c.length c2):=by rw[YW.out.cell trivial hbC];exact HCI.out
             have g3:wr.cell? ⟨b2,o2+k,none⟩=some uy:=by rw[YW.out.cell trivial hb2];exact hcy
             have Gf:=hid (FW.keep YW.out);have Si:=hid (HW.out.os.keep YW.out);have HY:=hid hy;have v4:(k:Int)<(c.length:Int):=by omega
             have v5:(0:Int)≤(k:Int):=by omega
             clear hy FW hcy;by_cases hty:DN P.os (i+1) y
             ·have Lx:=hid hty;clear hty;go_wp2_with fail;go_quiet ((go_at_call 133;exact Calls.quiet_of (lS Lx.out (Vp _ _ _ _ _ (i:Int) (i+1) (WX i) (Si.out.keep (AB.drewN _)) (Gf.out.keep (AB.drewN _)) Bw.out))));go_wp2_with fail;go_roundw;case rel=>exact⟨k+1,by omega,by go_num,hid (fun j z hj hz=>by
               rcases FK.1 hj with h|h
               ·exact hS.out j z h hz
               ·subst h;rw[HY.out]at hz;cases hz;exact Lx.out),Dp Cq.out nq⟩
              case measure=>simp[intOf];omega
             ·have Lx:=hid hty;have HN:=hid (show¬Valid P from fun h=>hty ((h.cv i c Eg.out).2 y (Ar HY.out)));clear hty;go_wp2_with fail;go_quiet ((go_at_call 133;exact Calls.quiet_of (AAe Lx.out (Vp _ _ _ _ _ (i:Int) (i+1) (WX i) (Si.out.keep (AB.drewN _)) (Gf.out.keep (AB.drewN _)) Bw.out))));go_wp2_with fail;go_ret;exact FE HN.out (Dp AJb.out nq)
            ·obtain rfl:k=c.length:=by omega
             have g2:wr.cell? ⟨bC,oC+i,none⟩=some (.slice a2 c.length c2):=by rw[YW.out.cell trivial hbC];exact HCI.out
             have GK:=hid (show∀j,j<i+1→(∀p,P.ps[j]?=some p→DN P.os (j+1) p)∧∀c,P.cs[j]?=some c→c.length=P.os.length-1-j∧∀y∈c,DN P.os (j+1) y from fun j hj=>by
              rcases FK.1 hj with h|h
              ·exact hR.out j h
              ·subst h;refine⟨fun q hq=>?_,fun d hd=>?_⟩
               ·rw[DF.out]at hq;cases hq;exact JR.out
               ·rw[Eg.out]at hd;cases hd;refine⟨Cj.out,fun y hy=>?_⟩;obtain⟨t,ht,rfl⟩:=Nq hy;exact hS.out t _ ht (AP ht))
             go_wp2_with fail;go_roundw;case rel=>exact⟨i+1,by omega,by go_num,GK,Cq.out⟩
             case measure=>simp[intOf];omega
          ·have hlb:((c.length:Int) !=(P.os.length:Int)-1-(i:Int))=true:=by simp;omega
           have HN:=hid (show¬Valid P from fun h=>hln (h.cv i c Eg.out).1);clear hln;go_wp2_with fail;go_quiet ((go_at_call 133;exact Calls.quiet_of (lS JR.out (Vp _ _ _ _ _ (i:Int) (i+1) (WX i) (Si.out.keep (AB.drewN _)) (Ew.out.keep (AB.drewN _)) Bw.out))));go_wp2_with fail;go_ret;exact FE HN.out (Dp Au.out nq)
         ·have JR:=hid NH;have HN:=hid (show¬Valid P from fun h=>NH (h.pv i p DF.out));clear NH;go_wp2_with fail;go_quiet ((go_at_call 133;exact Calls.quiet_of (AAe JR.out (Vp _ _ _ _ _ (i:Int) (i+1) (WX i) (Si.out.keep (AB.drewN _)) (Ew.out.keep (AB.drewN _)) Bw.out))));go_wp2_with fail;go_ret;exact FE HN.out (Dp Au.out nq)
        ·obtain rfl:i=P.os.length:=by omega
         have PD:=hid (show Valid P from⟨h6,G6.out,Fp.out,Bw.out,FU.out,fun j p hp=>(hR.out j (by have:=(Ak.1 hp).1;rw[G6.out]at this;exact this)).1 p hp,fun j c hc=>(hR.out j (by have:=(Ak.1 hc).1;rw[Fp.out]at this;exact this)).2 c hc⟩);go_wp2_with fail;go_ret;exact TU PD.out Au.out
      ·have hrd:decide (r>729)=true:=by
        have:¬r≤729:=fun h=>hle (hr1.1 h);simp;omega
       have HN:=hid (show¬Valid P from fun h=>hle h.le);clear hle hr1;go_wp2_with fail;go_ret;exact FE HN.out HB.out
   ·have hc2:((P.cs.length:Int) !=(P.os.length:Int))=true:=by simp;omega
    have HN:=hid (show¬Valid P from fun h=>hcl h.cl);clear hcl hpl hO hP hC hV hW;go_enter Tryz.func101,Tryz.ntmps101;go_wp2_with fail;go_ret;exact FE HN.out HB.out
  ·have hp2:((P.ps.length:Int) !=(P.os.length:Int))=true:=by simp;omega
   have HN:=hid (show¬Valid P from fun h=>hpl h.pl);clear hpl hO hP hC hV hW;go_enter Tryz.func101,Tryz.ntmps101;go_wp2_with fail;go_ret;exact FE HN.out HB.out
 ·have hd6:decide ((P.os.length:Int)>6)=true:=by simp;omega
  have HN:=hid (show¬Valid P from fun h=>h6 h.n6);clear h6 hO hP hC hV hW;go_enter Tryz.func101,Tryz.ntmps101;go_wp2_with fail;go_ret;exact FE HN.out HB.out
end Go.Proofs.YtlmlamcoeegkbaaGreat.aH
namespace Go.Proofs.YtlmlamcoeegkbaaGreat.IK
open Go.RowKit Go.Proofs.YtlmlamcoeegkbaaGreat AJ
theorem MM (S:Nat→Prop)(v:Value)(l:List Int)(w:World)(hv:AL S w v l)(hl:l.length≤1000000):
  Calls Tryz.prog 97 #[v] w (Ec l w):=by
 obtain⟨i0,hi,hz0,hz1,hz2⟩:=CO Fa;obtain⟨ao,c,rfl,hc,hm,hn,hx⟩:=hv;have HL:=hid hl;have HM:=hid hm;clear hl hm;have hsl:AL S w (.slice ao l.length c) l:=⟨ao,c,rfl,hc,HM.out,hn,hx⟩;have HS:=hid hsl;have h00:=FL (base:=w.heap.size) (e:=2) (size:=1) w #[] 0 AQ (AU _) rfl;have HX:=hid hx;clear hsl hx;cases ao with
 |none=>
  obtain rfl:c=0:=hn rfl;obtain rfl:l=[]:=EY (by omega);go_enter Tryz.func97,Tryz.ntmps97;go_wp2_with fail;go_ret;exact⟨w.heap.size,0,rfl,h00,AR.alloc AQ _⟩
 |some ad=>
  have C1:=hid (AL.src (w':=w.alloc (.cells #[] 2)) HS.out (AB.alloc _));have C2:=hid (NZ l);have C3:=hid (show 0+l.length≤maxLen from by have:=HL.out;unfold maxLen;omega);have C4:=hid (show(0+l.length)*8≤140737488355328 from by have:=HL.out;omega);have C5:=hid (show(vals l).length=l.length*1 by simp[vals]);go_enter Tryz.func97,Tryz.ntmps97;go_wp2_with (at_builtin;refine GQ _ rfl _ _ 24 rfl w.heap.size 2 i0 (.int .i64 0) 1 8 Tryz.underlying24 hi hz0 hz1 hz2 rfl (by decide) _ _ _ rfl h00 ad l.length c (vals l) rfl C5.out C1.out C2.out C3.out C4.out (by simp) ?_);intro v' w1 hown' hgrow hnil;have hO:Own w.heap.size w1 v' l:=by simpa[Own]using hown'
  have hB:Below w.heap.size w w1:=(AR.alloc AQ _).grown hgrow (by simp) (by intro k hk;simp[Value.ownBlock]at hk;omega);have hne:v'≠.slice none 0 0:=hnil;clear hown' hgrow hnil;go_wp2_with fail;go_ret;obtain⟨g,cap,rfl⟩:=hO.head hne;exact⟨g,cap,rfl,hO,hB⟩
end Go.Proofs.YtlmlamcoeegkbaaGreat.IK
namespace Go.Proofs.YtlmlamcoeegkbaaGreat.DL
open Go.RowKit Go.Proofs.YtlmlamcoeegkbaaGreat AJ IK
abbrev Any:Nat→Prop:=fun _=>True
def Tq (T:Tw)(i:Nat):Prop:=∀(w:World) (vO vP vC va vb:Value) (a b:List Nat),Aw Any w vO vP vC (AX T)→AL Any w va (ints a)→AL Any w vb (ints b)→
 a.length=T.length→b.length=T.length→El (T.drop i) (a.drop i)→El (T.drop i) (b.drop i)→
 Calls Tryz.prog 143 #[.agg #[vO,vP,vC],.int .i64 i,va,vb] w (Jf (ints (pad i (mul (T.drop i) (a.drop i) (b.drop i)))) w)
def ZY (T:Tw)(i:Nat)(L:Lv):Prop:=∀(w:World) (vO vP vC vx:Value) (x:List Nat),Aw Any w vO vP vC (AX T)→AL Any w vx (ints x)→
 x.length=T.length→El (T.drop (i+1)) (x.drop (i+1))→
 Calls Tryz.prog 185 #[.agg #[vO,vP,vC],.int .i64 i,vx] w (Jf (ints (pad (i+1) (img (T.drop (i+1)) L.c (x.drop (i+1))))) w)
theorem Jg (n:Nat)(hn:n≤6)(w:World):(Instr.makeSlice 24 (.int .i64 (n:Int)) (.int .i64 (n:Int))).run Tryz.prog w= .ok (.slice (some ⟨w.heap.size,0,none⟩) n n) (w.alloc (.cells (madeCells #[.int .i64 0] n) 2)):=
 run_make_row' (P:=Tryz.prog) 24 2 (.int .i64 0) 8 Tryz.underlying24 Fa rfl .i64 .i64 n (by omega) (by omega) w
abbrev Sj (T':Tw)(c:List (List Nat))(y:List Nat)(j k:Nat):List Nat:=Ir (mul T') (AJ.one T') (AJ.one T') c y j k
theorem AHX {T':Tw}(h:Wf T'){c:List (List Nat)}(hc:∀y∈c,El T' y)(y:List Nat)(j k:Nat):El T' (Sj T' c y j k):=
 Td (El T') (mul T') (fun _ _ p q=>Dl h p q) _ _ c y (Dm h) (Dm h) hc j k
theorem lvl {T:Tw}(hT:Wf T){i:Nat}{L:Lv}(hL:T[i]?=some L):Wf (T.drop (i+1))∧L.c.length=T.length-(i+1)∧(∀y∈L.c,El (T.drop (i+1)) y)∧El (T.drop (i+1)) L.w∧2≤L.o:=by
 have hi:i<T.length:=(Ak.1 hL).1;have e:T.drop i=L::T.drop (i+1):=by rw[EZ hi,(Ak.1 hL).2]
 have:=Ex hT i;rw[e]at this;exact⟨this.2.2.2.2,by rw[this.2.2.1];simp,this.2.2.2.1,this.2.1,this.1⟩
theorem drop_cons {T:Tw}{i:Nat}{L:Lv}(hL:T[i]?=some L):T.drop i=L::T.drop (i+1):=by
 have hi:i<T.length:=(Ak.1 hL).1;rw[EZ hi,(Ak.1 hL).2]
theorem AEy (T:Tw)(hT:Wf T)(hs:Small T)(i:Nat)(L:Lv)(hL:T[i]?=some L)(hAt:Tq T (i+1)):ZY T i L:=by
 intro w vO vP vC vx x hP hx hxl Du;have hi:i<T.length:=(Ak.1 hL).1;have hs6:=hs.1;have HK:=hid (lvl hT hL);have hmk:=Jg T.length hs6;obtain⟨aO,cO,aP,cP,aC,cC,rfl,rfl,rfl,Er,hP1,FP⟩:=hP.open;obtain⟨aX,cX,rfl,hX1⟩:=hx.open;rw[hxl]at hX1 ⊢;rw[hxl]at hx;obtain⟨bC,oC,a2,c2,rfl,_,hbC,hcC,h21,GJ⟩:=hP.J8 hL;have HW:=hid hT;have JP:=hid hs;have HP:=hid hP;have HX:=hid hx;have HL:=hid hL;have Cw:=hid Du;have Lt:=hid hxl;have HAT:=hid hAt;have Ij:=hid GJ;have Eg:=hid hcC;have hcl:L.c.length=T.length-(i+1):=HK.out.2.1;have HO:=hid (Own.made (B:=w.heap.size+1) (w.alloc (.cells #[.slice aO T.length cO,.slice aP T.length cP,.slice (some ⟨bC,oC,none⟩) T.length cC] 28)) T.length (by simp) (by unfold maxLen;omega));obtain⟨V,hV⟩:∃V:Nat→Nat→List Nat,V=fun m k=>pad (i+1) (Sj (T.drop (i+1)) L.c (x.drop (i+1)) m k):=⟨_,rfl⟩;have HV:=hid hV;have PV:=hid (show List.replicate T.length (0:Int)=ints (V 0 0) by rw[hV];simp only[Sj,Q5];rw[Vu T (i+1) (by omega),NT];rfl);have Ev:=hid (show∀m q,El T (V m q) from by
  intro m q;rw[hV];exact RD hT (i+1) (AHX HK.out.1 HK.out.2.2.1 _ m q) (by omega))
 have PW:=hid (show∀m q y,L.c[m]?=some y→pad (i+1) (mul (T.drop (i+1)) ((V m q).drop (i+1)) ((pad (i+1) y).drop (i+1)))=V m (q+1) from by
  intro m q y hy;rw[hV];show pad (i+1) (mul _ ((pad (i+1) _).drop (i+1)) _)=pad (i+1) _;rw[BG,BG,Sj,Sj,TV,Bg,hy];rfl)
 have HVx:=hid (show∀m a,m<T.length-(i+1)→x[i+1+m]?=some a→V m a=V (m+1) 0 from by
  intro m a hm ha;rw[hV];show pad (i+1) _=pad (i+1) _;rw[Sj,TW _ _ _ _ _ m a (by omega) (by rw[Gj];exact ha)])
 have PY:=hid (show V (T.length-(i+1)) 0=pad (i+1) (img (T.drop (i+1)) L.c (x.drop (i+1))) from by
  rw[hV];show pad (i+1) _=pad (i+1) _;rw[Sj,Tc _ _ _ _ _ _ (by omega) (by simp;omega)];rfl)
 clear hP hx hL Du hxl hAt hV hT hs GJ hcC;go_enter Tryz.func185,Tryz.ntmps185;go_wp2_with fail;go_loopw [8,9] (fun o j wr=>∃m:Nat,m≤T.length-(i+1)∧j= .int .i64 ((i:Int)+1+(m:Int))∧Own (w.heap.size+1) wr o (ints (V m 0))∧
   Below (w.heap.size+1) (w.alloc (.cells #[.slice aO T.length cO,.slice aP T.length cP,.slice (some ⟨bC,oC,none⟩) T.length cC] 28)) wr) (fun _ j _=>T.length-(intOf j).toNat)
 case atStart=>exact⟨0,AU _,by go_num,by rw[←PV.out];have:=HO.out;simpa using this,AR.alloc (by simp) _⟩
 case round=>
  obtain⟨m,hm,rfl,ho,hb⟩:=hrel;by_cases hlt:m<T.length-(i+1)
  ·obtain⟨a,ha⟩:∃a,x[i+1+m]?=some a:=⟨_,AP (by rw[Lt.out];omega)⟩;obtain⟨bX,oX,rfl,_,hbX,FV⟩:=HX.out.at ha;obtain⟨y,hy⟩:∃y,L.c[m]?=some y:=⟨_,AP (by omega)⟩;obtain⟨b2,o2,uy,rfl,_,hb2,hcy,FW⟩:=Ij.out m y hy;have hk:=DW hb Any;have hcx:wr.cell? ⟨bX,oX+(i+1+m),none⟩=some (.int .i64 (a:Int)):=by rw[hk.cell trivial hbX];exact FV
   have fo:a<7:=JP.out.lt Cw.out (by omega) ha;have HA:=hid ha;have HY:=hid hy;have NC:=hid hcy;have Gf:=hid FW;have HB:=hid hb;have HOW:=hid ho;have HKP:=hid hk;have YM:=hid FV;have hd:decide ((i:Int)+1+(m:Int)<(T.length:Int))=true:=by simp;omega
   clear ha hb ho hk FV hy hcy FW;go_wp2_with fail;go_loopw [8,10] (fun o k wi=>∃q:Nat,q≤a∧k= .int .i64 (q:Int)∧Own (w.heap.size+1) wi o (ints (V m q))∧
    Below (w.heap.size+1) (w.alloc (.cells #[.slice aO T.length cO,.slice aP T.length cP,.slice (some ⟨bC,oC,none⟩) T.length cC] 28)) wi) (fun _ k _=>a-(intOf k).toNat)
   case atStart=>exact⟨0,AU _,rfl,HOW.out,HB.out⟩
   case round=>
    obtain⟨q,hq,rfl,hoi,hbi⟩:=hrel;have hki:=DW hbi Any;have ACX:wr.cell? ⟨bX,oX+(i+1+m),none⟩=some (.int .i64 (a:Int)):=by rw[hki.cell trivial hbX];exact YM.out
    by_cases fq:q<a
    ·have HPi:=hid (HP.out.keep hki);obtain⟨e0,e1,e2⟩:=Cc hbi;have hcC:wr.cell? ⟨bC,oC+i,none⟩=some (.slice (some ⟨b2,o2,none⟩) L.c.length c2):=by rw[hki.cell trivial hbC];exact Eg.out
     have hcy:wr.cell? ⟨b2,o2+m,none⟩=some uy:=by rw[hki.cell trivial hb2];exact NC.out
     have w1:IntKind.i64.wrap (((i:Int)+1+(m:Int))-(i:Int))=(m:Int)+1:=by rw[AY _ (by omega)];omega
     have w2:IntKind.i64.wrap (((m:Int)+1)-1)=(m:Int):=by rw[AY _ (by omega)];omega
     have w3:IntKind.i64.wrap ((i:Int)+1)=(i:Int)+1:=AY _ (by omega);have w8:IntKind.i64.wrap (m:Int)=(m:Int):=AY _ (by omega);have w4:(m:Int)<(L.c.length:Int):=by omega
     have w5:(0:Int)≤(m:Int):=by omega
     have w6:(i:Int)<(T.length:Int):=by omega
     have w7:(0:Int)≤(i:Int):=by omega
     have hsz2:w.heap.size<wr.heap.size:=by have:=hbi.size;simp at this;omega
     have Nt:=Nat.lt_trans hbC hsz2;have UY:=Nat.lt_trans hb2 hsz2;have HB2:=hid hbi;have uJ:=hid hoi;have Nu:=hid (Gf.out.keep hki);have HVd:=hid (show El (T.drop (i+1)) ((V m q).drop (i+1)) from Jy (Ev.out m q) (i+1));have HVl:=hid (show(V m q).length=T.length from Af (Ev.out m q));have ET:=hid (show El T (pad (i+1) y) from RD HW.out (i+1) (HK.out.2.2.1 y (Ar HY.out)) (by omega));clear hbi hoi hki;go_wp2_with fail;go_region_held3 (fun w'=>(∀b o,b<wr.heap.size→w'.cell? ⟨b,o,none⟩=wr.cell? ⟨b,o,none⟩)∧AA (fun _=>True) wr w')
      (first|exact Aj (AB.drew)|exact Aj (AA.trans (AB.drew) (AA.of_below (by assumption))))
      (first|(go_at_call 143;refine(HAT.out _ _ _ _ _ _ (V m q) (pad (i+1) y) (HPi.out.keep (AB.drew)) ((uJ.out.sl.mono (fun _ _=>trivial)).keep (AB.drew)) (Nu.out.keep (AB.drew)) HVl.out (Af ET.out) HVd.out (Jy ET.out (i+1))).mono ?_;rintro e w2 ⟨v2,rfl,hov,hbv⟩))
     go_wp2_with fail;go_roundw;case rel=>exact⟨q+1,by omega,by go_num,by rw[PW.out m q y HY.out]at hov;exact hov.mono (by show w.heap.size+1≤wr.heap.size;omega),HB2.out.trans ((AR.drew).trans (hbv.mono (by show w.heap.size+1≤wr.heap.size;omega)))⟩
     case measure=>simp[intOf];omega
    ·obtain rfl:q=a:=by omega
     have HB2:=hid hbi;have uJ:=hid hoi;clear hbi hoi hki;go_wp2_with fail;go_roundw;case rel=>exact⟨m+1,by omega,by go_num,by rw[←HVx.out m q (by omega) HA.out];exact uJ.out,HB2.out⟩
     case measure=>simp[intOf];omega
  ·obtain rfl:m=T.length-(i+1):=by omega
   have HB:=hid hb;have HOW:=hid ho;clear hb ho;go_wp2_with fail;go_ret;exact⟨_,rfl,by rw[←PY.out];exact HOW.out.mono (by omega),Dx HB.out⟩
end Go.Proofs.YtlmlamcoeegkbaaGreat.DL
namespace Go.Proofs.YtlmlamcoeegkbaaGreat.ah
open Go.RowKit Go.Proofs.YtlmlamcoeegkbaaGreat AJ IK DL
theorem AH6 (T:Tw)(hT:Wf T)(hs:Small T)(i:Nat)(L:Lv)(hL:T[i]?=some L)(hAt:Tq T (i+1))(ACY:ZY T i L):Tq T i:=by
 intro w vO vP vC va vb a b hP ha hb hal hbl Qg OU;have hi:i<T.length:=(Ak.1 hL).1;have hs6:=hs.1;have HK:=hid (lvl hT hL);have hmk:=Jg T.length hs6;obtain⟨aO,cO,aP,cP,aC,cC,rfl,rfl,rfl,Er,hP1,FP⟩:=hP.open;obtain⟨aA,cA,rfl,hA1⟩:=ha.open;obtain⟨aB,cB,rfl,hB1⟩:=hb.open;rw[hal]at hA1 ha ⊢;rw[hbl]at hB1 hb ⊢;obtain⟨bO,oO,rfl,_,Ch,Bc⟩:=hP.ord hL;obtain⟨bP,oP,uP,rfl,_,EK,hcP,EA⟩:=hP.pow hL;obtain⟨p,hp⟩:∃p,a[i]?=some p:=⟨_,AP (by omega)⟩;obtain⟨q,hq⟩:∃q,b[i]?=some q:=⟨_,AP (by omega)⟩;obtain⟨bA,oA,rfl,_,KF,hcA⟩:=ha.at hp;obtain⟨bB,oB,rfl,_,Km,hcB⟩:=hb.at hq;have gX:p<7:=hs.lt Qg AQ hp;have SI:q<7:=hs.lt OU AQ hq;have Bz:L.o≤7:=hs.2 L (Ar hL);have HP:=hid hP;have HA:=hid ha;have HB:=hid hb;have HAT:=hid hAt;have OD:=hid ACY;have HT:=hid (And.intro hT (And.intro hs hL));clear hP ha hb hAt ACY hT hs hL;have HC:=hid (And.intro Bc (And.intro hcP (And.intro hcA hcB)));have Ew:=hid EA;have H6:=hid (And.intro hp hq);have HE:=hid (And.intro Qg OU);clear Bc hcP hcA hcB EA hp hq Qg OU;have hla:(ints a).length=T.length:=by rw[A7];exact hal
 have hlb:(ints b).length=T.length:=by rw[A7];exact hbl
 obtain⟨Z,hZ⟩:∃Z:Nat→List Nat,Z=fun k=>if k=0 then a.set i 0 else pad (i+1) (it (img (T.drop (i+1)) L.c) k (a.drop (i+1))):=⟨_,rfl⟩;have gY:=hid (show∀k,(Z k).drop (i+1)=it (img (T.drop (i+1)) L.c) k (a.drop (i+1)) from by
  intro k;rw[hZ];by_cases h0:k=0
  ·subst h0;simp[it,List.drop_set]
  ·simp only[BU h0,BG])
 have Qh:=hid (show El (T.drop (i+1)) (a.drop (i+1))∧El (T.drop (i+1)) (b.drop (i+1)) from by
  have h1:=Jy HE.out.1 1;have h2:=Jy HE.out.2 1;rw[FM,FM]at h1 h2;exact⟨h1,h2⟩)
 have Kq:=hid (show∀k,El (T.drop (i+1)) (it (img (T.drop (i+1)) L.c) k (a.drop (i+1))) from fun k=>
  I8 (El _) _ (fun z _=>Oh HK.out.1 HK.out.2.2.1 z) k _ Qh.out.1)
 have gD:=hid (show∀k,(Z k).length=T.length from by
  intro k;rw[hZ];by_cases h0:k=0
  ·subst h0;simp[hal]
  ·simp only[BU h0,BZ,Af (Kq.out k),Ct];omega)
 have HZ0:=hid (show Z 0=a.set i 0 by rw[hZ];rfl);have tK:=hid (show∀k,pad (i+1) (img (T.drop (i+1)) L.c ((Z k).drop (i+1)))=Z (k+1) from by
  intro k;rw[gY.out,←F7 (img (T.drop (i+1)) L.c),hZ];simp)
 clear hZ;go_enter Tryz.func143,Tryz.ntmps143;go_wp2_with fail;refine(MM Any _ _ _ (HA.out.keep (AB.alloc _)) (by omega)).mono ?_;rintro e w1 ⟨g1,c1,rfl,ho1,hb1⟩;rw[hla]at ho1 ⊢;have HB1:=hid (show Below (w.heap.size+1) (w.alloc (.cells #[.slice (some ⟨bO,oO,none⟩) T.length cO,.slice (some ⟨bP,oP,none⟩) T.length cP,.slice aC T.length cC] 28)) w1 from hb1.mono (by simp));have Db:=hid (ho1.mono (B':=w.heap.size+1) (by simp));clear hb1 ho1;go_wp2_with fail;refine(MM Any _ _ _ (HB.out.keep (DW HB1.out Any)) (by omega)).mono ?_;rintro e w2 ⟨g2,c2,rfl,ho2,hb2⟩;rw[hlb]at ho2 ⊢;have hlt1:=Db.out.lt;have hlt2:=ho2.lt;have hsz1:w.heap.size+1≤w1.heap.size:=by have:=HB1.out.size;simp at this;omega
 have hne:¬g1=g2:=by omega
 have hne':¬g2=g1:=by omega
 have XG:=Db.out.of_below hb2;obtain⟨s1,f1⟩:=XG.cell (j:=i) (a:=(p:Int)) (by rw[Gg,H6.out.1];rfl);obtain⟨s2,f2⟩:=ho2.cell (j:=i) (a:=(q:Int)) (by rw[Gg,H6.out.2];rfl);have gZ:=XG.MW i 0;have ACZ:=(ho2.mono (B':=w.heap.size+1) hsz1).keep (S:=fun k=>¬k=g1) (AA.grown gZ.2 (fun k hk e=>hk (Ng e))) (fun k hk=>by simp[Value.ownBlock]at hk;omega);have HL2:=ACZ.MW i 0;have uK:=gZ.1.keep (S:=fun k=>¬k=g2) (AA.grown HL2.2 (fun k hk e=>hk (Ng e))) (fun k hk=>by simp[Value.ownBlock]at hk;omega);have HB2:=hid ((((HB1.out.trans (hb2.mono hsz1)).grown gZ.2 (by omega) (by intro k hk;cases hk;omega)).grown HL2.2 (by simp;omega) (by intro k hk;cases hk;omega)));rw[←HZ0.out]at uK;have Et:=hid uK;have HRR:=hid HL2.1;clear XG hb2 ho2 gZ ACZ HL2 uK;go_wp2_with fail;go_loopw [10,12] (fun v k wr=>∃t:Nat,t≤q∧k= .int .i64 (t:Int)∧Own (w.heap.size+1) wr v (ints (Z t))∧Own (w.heap.size+1) wr (.slice (some ⟨g2,0,none⟩) T.length c2) (ints (b.set i 0))∧
  Below (w.heap.size+1) (w.alloc (.cells #[.slice (some ⟨bO,oO,none⟩) T.length cO,.slice (some ⟨bP,oP,none⟩) T.length cP,.slice aC T.length cC] 28)) wr) (fun _ k _=>q-(intOf k).toNat)
 case atStart=>
  exact⟨0,AU _,rfl,Et.out,HRR.out,HB2.out⟩
 case round=>
  obtain⟨t,ht,rfl,hv,hr,hb⟩:=hrel;have hk:=DW hb Any;have hcB:wr.cell? ⟨bB,oB+i,none⟩=some (.int .i64 (q:Int)):=by rw[hk.cell trivial Km];exact HC.out.2.2.2
  have HV:=hid hv;have HR:=hid hr;have HB3:=hid hb;have HKK:=hid hk;obtain⟨e0,e1,e2⟩:=Cc hb;clear hv hr hb;by_cases hlt:t<q
  ·go_wp2_with fail;refine(OD.out _ _ _ _ _ (Z t) (HP.out.keep HKK.out) (HV.out.sl.mono (fun _ _=>trivial)) (gD.out t) (by rw[gY.out];exact Kq.out t)).mono ?_;rintro e w3 ⟨v3,rfl,ho3,hb3⟩;rw[tK.out]at ho3;have Ra:w.heap.size+1≤wr.heap.size:=by have:=HB3.out.size;simp at this;omega
   have Kr:=hid (ho3.mono Ra);have HR3:=hid (HR.out.of_below hb3);have CB:=hid (HB3.out.trans (hb3.mono Ra));clear ho3 hb3 hk hcB e0 e1 e2;go_wp2_with fail;go_roundw;case rel=>exact⟨t+1,by omega,by go_num,Kr.out,HR3.out,CB.out⟩
   case measure=>simp[intOf];omega
  ·obtain rfl:t=q:=by omega
   have Ra:w.heap.size+1≤wr.heap.size:=by have:=HB3.out.size;simp at this;omega
   clear hlt;go_wp2_with fail;refine(HAT.out _ _ _ _ _ _ (Z t) (b.set i 0) (HP.out.keep HKK.out) (HV.out.sl.mono (fun _ _=>trivial)) (HR.out.sl.mono (fun _ _=>trivial)) (gD.out t) (by simp[hbl]) (by rw[gY.out];exact Kq.out t) (by rw[show(b.set i 0).drop (i+1)=b.drop (i+1) by simp[List.drop_set]];exact Qh.out.2)).mono ?_;rintro e w4 ⟨v4,rfl,ES,hb4⟩;clear hk hcB e0 e1 e2;rw[gY.out,show(b.set i 0).drop (i+1)=b.drop (i+1) by simp[List.drop_set]]at ES;obtain⟨R,hR⟩:∃R,R=mul (T.drop (i+1)) (it (img (T.drop (i+1)) L.c) t (a.drop (i+1))) (b.drop (i+1)):=⟨_,rfl⟩;have Mv:=hid (show El (T.drop (i+1)) R by rw[hR];exact Dl HK.out.1 (Kq.out t) Qh.out.2);rw[←hR]at ES;have HRR:=hid hR;have Ii:=hid (ES.mono Ra);have CB:=hid (HB3.out.trans (hb4.mono Ra));have hk4:=DW CB.out Any;obtain⟨e0,e1,e2⟩:=Cc CB.out;have hcA:w4.cell? ⟨bA,oA+i,none⟩=some (.int .i64 (p:Int)):=by rw[hk4.cell trivial KF];exact HC.out.2.2.1
   have hcB:w4.cell? ⟨bB,oB+i,none⟩=some (.int .i64 (t:Int)):=by rw[hk4.cell trivial Km];exact HC.out.2.2.2
   have Bc:w4.cell? ⟨bO,oO+i,none⟩=some (.int .i64 (L.o:Int)):=by rw[hk4.cell trivial Ch];exact HC.out.1
   have hcP:w4.cell? ⟨bP,oP+i,none⟩=some uP:=by rw[hk4.cell trivial EK];exact HC.out.2.1
   have oL:w.heap.size+1≤w4.heap.size:=by have:=CB.out.size;simp at this;omega
   have w1:IntKind.i64.wrap ((p:Int)+(t:Int))=(p:Int)+(t:Int):=AY _ (by omega);have w6:(i:Int)<(T.length:Int):=by omega
   have w7:(0:Int)≤(i:Int):=by omega
   have HK4:=hid hk4;clear ES hb4 hk4 hR;by_cases hge:L.o≤p+t
   ·have hgi:(L.o:Int)≤(p:Int)+(t:Int):=by omega
    have AJc:decide ((p:Int)+(t:Int)≥(L.o:Int))=true:=by simp;omega
    have w3:IntKind.i64.wrap ((i:Int)+1)=(i:Int)+1:=AY _ (by omega);have ALh:bP<w4.heap.size:=by omega
    have AK0:w.heap.size<w4.heap.size:=by omega
    have gm:=hid (Ew.out.keep (AA.trans (DW CB.out Any) AB));have BJ:=hid (HP.out.keep HK4.out);have XM:=hid (Dl HK.out.1 HK.out.2.2.2.1 Mv.out);go_wp2_with fail;go_quiet (fail);go_wp2_with fail;go_region_held3 (fun w'=>(∀b o,b<w4.heap.size→w'.cell? ⟨b,o,none⟩=w4.cell? ⟨b,o,none⟩)∧AA (fun _=>True) w4 w')
     (first|exact Aj ((AB.drewN _).drew)|exact Aj (AA.trans ((AB.drewN _).drew) (AA.of_below (by assumption))))
     (first|(go_at_call 143;refine(HAT.out _ _ _ _ _ _ (pad (i+1) L.w) (pad (i+1) R) (BJ.out.keep ((AB.drewN _).drew)) (gm.out.keep ((AB.drewN _).drew)) ((Ii.out.sl.mono (fun _ _=>trivial)).keep ((AB.drewN _).drew)) (by rw[BZ,Af HK.out.2.2.2.1];simp;omega) (by rw[BZ,Af Mv.out];simp;omega) (by rw[BG];exact HK.out.2.2.2.1) (by rw[BG];exact Mv.out)).mono ?_;rintro e w6 ⟨v6,rfl,Al,hb6⟩))
    rw[BG,BG]at Al;have YX:=hid (show w.heap.size+1≤w6.heap.size from Ab oL (Ab (show w4.heap.size≤((w4.drewN nq).drew).heap.size from((((AA.refl (fun _=>True) w4).drewN nq).drew).size)) hb6.size));have hs4:w.heap.size+1≤((w4.drewN nq).drew).heap.size:=Ab oL ((((AA.refl (fun _=>True) w4).drewN nq).drew).size);have Fy:=hid (Al.mono hs4);have Ao:=hid ((CB.out.trans (Dp AR nq).drew).trans (hb6.mono hs4));clear Al hb6;go_wp2_with fail;have CJ:(ints (pad (i+1) (mul (T.drop (i+1)) L.w R))).length=T.length:=by rw[A7,BZ,Af XM.out];simp;omega
    refine(MM Any _ _ _ (Fy.out.sl.mono (fun _ _=>trivial)) (by omega)).mono ?_;rintro e w7 ⟨g7,c7,rfl,Bz,Bd⟩;rw[CJ]at Bz ⊢;have E9:=hid (Ao.out.trans (Bd.mono YX.out));have Lb:=hid (Bz.mono (B':=w.heap.size+1) YX.out);obtain⟨s7,f7⟩:=Lb.out.cell (j:=i) (a:=0) (by rw[Gg,pad,GN (by simp)];simp);obtain⟨hF,hG⟩:=Lb.out.MW i (p+t-L.o);have XL:=Lb.out.lt;have Qc:=hid (E9.out.grown hG (by have:=E9.out.size;simp at this;omega) (by intro k hk;cases hk;omega));have Jt:=hid hF;clear Bz Bd hF hG CJ;go_wp2_with fail;go_ret;have hres:pad i (mul (T.drop i) (a.drop i) (b.drop i))=(pad (i+1) (mul (T.drop (i+1)) L.w R)).set i (p+t-L.o):=by
     rw[drop_cons HT.out.2.2,EZ (show i<a.length by omega),EZ (show i<b.length by omega),(Ak.1 H6.out.1).2,(Ak.1 H6.out.2).2,I6,CU hge,←HRR.out,show pad (i+1) (mul (T.drop (i+1)) L.w R)=pad i (0::(mul (T.drop (i+1)) L.w R)) by rw[←Pq];rfl];simp[pad]
    rw[hres];rw[show((p:Int)+(t:Int)-(L.o:Int))=((p+t-L.o:Nat):Int) by omega];exact⟨_,rfl,by have:=Jt.out.mono (B':=w.heap.size) (by omega);exact this,Dx Qc.out⟩
   ·have hgi:¬(L.o:Int)≤(p:Int)+(t:Int):=by omega
    have AJc:decide ((p:Int)+(t:Int)≥(L.o:Int))=false:=by simp;omega
    have XM:=Mv;go_wp2_with fail;go_quiet (fail);go_wp2_with fail;have YX:=hid (show w.heap.size+1≤(w4.drewN nq).heap.size from Ab oL (((AA.refl (fun _=>True) w4).drewN nq).size));have Fy:=hid (Ii.out.drewN nq);have Ao:=hid (CB.out.trans (Dp AR nq));have CJ:(ints (pad (i+1) (R))).length=T.length:=by rw[A7,BZ,Af XM.out];simp;omega
    refine(MM Any _ _ _ (Fy.out.sl.mono (fun _ _=>trivial)) (by omega)).mono ?_;rintro e w7 ⟨g7,c7,rfl,Bz,Bd⟩;rw[CJ]at Bz ⊢;have E9:=hid (Ao.out.trans (Bd.mono YX.out));have Lb:=hid (Bz.mono (B':=w.heap.size+1) YX.out);obtain⟨s7,f7⟩:=Lb.out.cell (j:=i) (a:=0) (by rw[Gg,pad,GN (by simp)];simp);obtain⟨hF,hG⟩:=Lb.out.MW i (p+t);have XL:=Lb.out.lt;have Qc:=hid (E9.out.grown hG (by have:=E9.out.size;simp at this;omega) (by intro k hk;cases hk;omega));have Jt:=hid hF;clear Bz Bd hF hG CJ;go_wp2_with fail;go_ret;have hres:pad i (mul (T.drop i) (a.drop i) (b.drop i))=(pad (i+1) (R)).set i (p+t):=by
     rw[drop_cons HT.out.2.2,EZ (show i<a.length by omega),EZ (show i<b.length by omega),(Ak.1 H6.out.1).2,(Ak.1 H6.out.2).2,I6,BU hge,←HRR.out,show pad (i+1) (R)=pad i (0::(R)) by rw[←Pq];rfl];simp[pad]
    rw[hres];exact⟨_,rfl,by have:=Jt.out.mono (B':=w.heap.size) (by omega);exact this,Dx Qc.out⟩
end Go.Proofs.YtlmlamcoeegkbaaGreat.ah
