import Derived.Test.YtgjadpmbnejaoaaGreatZc
import Derived.Lib.AppendZerosOnto
/-
  Lemmas for the law FnAutomorphisms, in short spelling.
-/
set_option linter.unusedVariables false
set_option linter.unusedSimpArgs false
set_option maxRecDepth 100000
set_option maxHeartbeats 40000000
namespace Go.Proofs.YtgjadpmbnejaoaaGreat
namespace Kh
open RowKit AJ Val
abbrev Any:Nat->Prop:=λ_=>True
def Vo (p:Prop)(w:World)(e:Ending)(w':World):Prop:=∃r:Bool,e= .returned (.bool r)/\(r=true↔p)/\w=w'
theorem LD (x:Int)(w:World):Calls Tryz.prog 156 #[.int .i64 x] w λe w'=>e= .returned (.bool (Bw x))/\w=w':=by
 by_cases B:x=2
 .subst B;go_enter Tryz.func156,Tryz.ntmps156;go_wp2_with fail;go_ret;exact⟨rfl,rfl⟩
 .by_cases F:x=3
  .subst F;go_enter Tryz.func156,Tryz.ntmps156;go_wp2_with fail;go_ret;exact⟨rfl,rfl⟩
  .by_cases C:x=5
   .subst C;go_enter Tryz.func156,Tryz.ntmps156;go_wp2_with fail;go_ret;exact⟨rfl,rfl⟩
   .by_cases D:x=7
    .subst D;go_enter Tryz.func156,Tryz.ntmps156;go_wp2_with fail;go_ret;exact⟨rfl,rfl⟩
    .have e2:(x==2)=false:=by simpa using B
     have J:(x==3)=false:=by simpa using F
     have K:(x==5)=false:=by simpa using C
     have L:(x==7)=false:=by simpa using D
     have I:=AB (show Bw x=false by simp[Bw,B,F,C,D]);clear B F C D;go_enter Tryz.func156,Tryz.ntmps156;go_wp2_with fail;go_ret;exact⟨by rw[I.AA];rfl,rfl⟩
theorem lm (x B hi:Int)(C:B<=x)(D:x<=hi)(w:World):Calls Tryz.prog 83 #[.int .i64 x,.int .i64 B,.int .i64 hi] w λe w'=>e= .returned (.bool true)/\w=w':=by
 have F:x>=B:=C;go_enter Tryz.func83,Tryz.ntmps83;go_wp2_with fail;go_ret;exact⟨rfl,rfl⟩
theorem lu (x B hi:Int)(h:¬(B<=x/\x<=hi))(w:World):Calls Tryz.prog 83 #[.int .i64 x,.int .i64 B,.int .i64 hi] w λe w'=>e= .returned (.bool false)/\w=w':=by
 by_cases C:B<=x
 .have D:¬x<=hi:=λD=>h ⟨C,D⟩;have I:decide (x<=hi)=false:=ED D;have F:decide (B<=x)=true:=ET C;clear h;go_enter Tryz.func83,Tryz.ntmps83;go_wp2_with fail;go_ret;exact⟨rfl,rfl⟩
 .have F:decide (B<=x)=false:=ED C;clear h;go_enter Tryz.func83,Tryz.ntmps83;go_wp2_with fail;go_ret;exact⟨rfl,rfl⟩
def Zero (l:List Int):Prop:=∀x∈l,x=0
theorem Qe (S:Nat->Prop)(v:Value)(l:List Int)(w:World)(Q:AP S w v l):
  Calls Tryz.prog 102 #[v] w (Vo (Zero l) w):=by
 obtain⟨a,c,rfl,V,I,_,B⟩:=Q;unfold maxLen at I;have R:=AB I;have X:(l.length:Int)<=9223372036854775807:=by omega
 have L:=AB B;clear I B;go_enter Tryz.func102,Tryz.ntmps102;go_wp2_with fail;go_loop [7] (λi=>∃k:Nat,k<=l.length/\i= .int .i64 k/\Hid (∀j,j<k->∀x,l[j]?=some x->x=0)) (λi=>l.length-(intOf i).toNat);case atStart=>exact⟨0,AX _,rfl,AB (λj h=>absurd h (CS _))⟩
 case round=>
  obtain⟨k,Z,rfl,K⟩:=hrel;by_cases O:k<l.length
  .obtain⟨x,hg⟩:∃x,l[k]?=some x:=⟨_,AU O⟩;obtain⟨b,o,rfl,_,U,u,Y,rfl⟩:=L.AA k x hg;have J:=AB hg;clear hg;by_cases C:x=0
   .subst C;go_wp2_with fail;go_round;case rel=>exact⟨k+1,by omega,by go_num,AB (λj D y F=>by
     rcases DF.1 D with h|h
     .exact K.AA j h y F
     .subst h;rw[J.AA]at F;exact(IL F).symm)⟩
    case measure=>simp[intOf];omega
   .have W:(x !=0)=true:=by simpa using C
    have N:=AB C;clear C;go_wp2_with fail;go_ret;exact⟨false,rfl,⟨λh=>absurd h (by simp),λh=>absurd (h x (Af J.AA)) N.AA⟩,rfl⟩
  .obtain rfl:k=l.length:=by omega
   go_wp2_with fail;go_ret;exact⟨true,rfl,⟨λ_ x B=>by obtain⟨j,D,rfl⟩:=Ld B;exact K.AA j D _ (AU D),λ_=>rfl⟩,rfl⟩
theorem TH (w:World)(b o:Nat)(P:BZ)(v:Value)(l:List Int)(X:BH Any w b o P)(s:AP Any w v l)(U:∀x∈P.os,Bw x=true):
  Calls Tryz.prog 41 #[.pointer (some ⟨b,o,none⟩),v] w (Vo (Be P.os 0 l) w):=by
 obtain⟨_,a3,vO,vP,vC,a4,r,Z,V⟩:=X;obtain⟨aO,cO,rfl,a7,S,_,W⟩:=V.os;obtain⟨ao,c,rfl,hc,O,_,F⟩:=s;have a5:(l.length:Int)<=9223372036854775807:=by unfold maxLen at O;omega
 have d:=AB F;have Y:=AB W;have HM:=AB (And.intro S O);have g:=AB U;clear F W S O U V r Z;by_cases J:l.length=P.os.length
 .have a:((l.length:Int) !=(P.os.length:Int))=false:=by simp;omega
  have D:=AB J;clear J;go_enter Tryz.func41,Tryz.ntmps41;go_wp2_with fail;go_loop [17] (λi=>∃k:Nat,k<=l.length/\i= .int .i64 k/\Hid (∀j,j<k->∀x o,l[j]?=some x->P.os[j]?=some o->0<=x/\x<o)) (λi=>l.length-(intOf i).toNat);case atStart=>exact⟨0,AX _,rfl,AB (λj h=>absurd h (CS _))⟩
  case round=>
   obtain⟨k,hk,rfl,R⟩:=hrel;by_cases N:k<l.length
   .obtain⟨x,hg⟩:∃x,l[k]?=some x:=⟨_,AU N⟩;obtain⟨q,B⟩:∃q,P.os[k]?=some q:=⟨_,AU (by rw[<-D.AA];exact N)⟩;obtain⟨bX,oX,rfl,_,a8,u,a0,rfl⟩:=d.AA k x hg;obtain⟨bO,oO,rfl,_,a1,u,a9,rfl⟩:=Y.AA k q B;have a2:k<P.os.length:=by rw[<-D.AA];exact N
    have a6:=KR (g.AA q (Af B));have I:=AB (And.intro hg B);clear hg B;by_cases K:0<=x/\x<=q-1
    .have C:=AB K;clear K;go_wp2_with (go_at_call 83;refine(lm x 0 (q-1) C.AA.1 C.AA.2 _).mono ?_;rintro e w' ⟨rfl,rfl⟩);go_round;case rel=>exact⟨k+1,by omega,by go_num,AB (λj z y p Q L=>by
      rcases DF.1 z with h|h
      .exact R.AA j h y p Q L
      .subst h;rw[I.AA.1]at Q;rw[I.AA.2]at L;cases Q;cases L;have:=C.AA;omega)⟩
     case measure=>simp[intOf];omega
    .have C:=AB K;clear K;go_wp2_with (go_at_call 83;refine(lu x 0 (q-1) C.AA _).mono ?_;rintro e w' ⟨rfl,rfl⟩);go_ret;exact⟨false,rfl,⟨λh=>absurd h (by simp),λh=>by have:=h.2 k x q I.AA.1 I.AA.2;exact absurd ⟨this.1,by omega⟩ C.AA⟩,rfl⟩
   .obtain rfl:k=l.length:=by omega
    go_wp2_with fail;go_ret;exact⟨true,rfl,⟨λ_=>⟨D.AA,λj x q F B=>by have:=R.AA j (Ak.1 F).1 x q F B;exact⟨this.1,this.2,λh=>absurd h (CS _)⟩⟩,λ_=>rfl⟩,rfl⟩
 .have a:((l.length:Int) !=(P.os.length:Int))=true:=by simp;omega
  have D:=AB J;clear J;go_enter Tryz.func41,Tryz.ntmps41;go_wp2_with fail;go_ret;exact⟨false,rfl,⟨λh=>absurd h (by simp),λh=>absurd h.1 D.AA⟩,rfl⟩
theorem lw {S:Nat->Prop}{w:World}{b o n c:Nat}{l:List Int}(h:AP S w (.slice (some ⟨b,o,none⟩) n c) l)(k:Nat)(C:k<=n):AP S w (.slice (some ⟨b,o,none⟩) k c) (l.take k):=by
 obtain⟨I,F,e,J,D,K,B⟩:=h;obtain⟨rfl,rfl,rfl⟩:some ⟨b,o,none⟩=I/\n=l.length/\c=F:=by simpa using e
 refine⟨_,c,by rw[Ec,Nat.min_eq_left C],by rw[Ec];omega,D,λe=>absurd e (by simp),λi x hi=>?_⟩;rw[Kb]at hi;split at hi
 .exact B i x hi
 .cases hi
theorem fu (w:World)(b o i:Nat)(P:BZ)(v:Value)(l:List Int)(L:BH Any w b o P)(F:AP Any w v l)(O:∀x∈P.os,Bw x=true)(hi:i<P.os.length)(hn:P.os.length<=6):
  Calls Tryz.prog 157 #[.pointer (some ⟨b,o,none⟩),.int .i64 (i:Int),v] w (Vo (Be P.os (i+1) l) w):=by
 have Q:=AB (TH w b o P v l L F O);by_cases D:Be P.os 0 l
 .have R:=D.1;obtain⟨ao,c,rfl,Z,N,_,B⟩:=F;obtain⟨a,W,rfl,_,a0,u,V,rfl⟩:=B i l[i] (AU (by omega));have F:AP Any w (.slice (some ⟨a,W,none⟩) l.length c) l:=⟨_,c,rfl,Z,N,λe=>absurd e (by simp),B⟩;have g:=AB (Qe Any _ _ w (lw F (i+1) (by omega)));have J:=AB D;have z:=AB N;have Y:=AB (show Zero (l.take (i+1))↔Be P.os (i+1) l from by
   constructor
   .intro U;refine⟨R,λj x q B I=>⟨(D.2 j x q B I).1,(D.2 j x q B I).2.1,λK=>U x ?_⟩⟩;exact Af (i:=j) (by rw[Kb,BQ K];exact B)
   .intro p x B;obtain⟨j,K,rfl⟩:=Ld B;have S:j<i+1:=by rw[Ec]at K;omega
    have X:j<l.length:=by rw[Ec]at K;omega
    rw[List.getElem_take];exact(p.2 j _ _ (AU X) (AU (by omega))).2.2 S)
  have s:i+1<=l.length:=by omega
  have a1:i+1<=c:=by omega
  have y:l.length<=6:=by omega
  clear B F V D O L N R;go_enter Tryz.func157,Tryz.ntmps157;go_wp2_with fail;refine Q.AA.mono ?_;rintro e w' ⟨r,rfl,C,rfl⟩;obtain rfl:r=true:=C.2 J.AA;clear C;go_wp2_with fail;refine g.AA.mono ?_;rintro e w' ⟨r,rfl,C,rfl⟩;have d:=AB C;clear C;go_wp2_with fail;go_ret;exact⟨r,rfl,d.AA.trans Y.AA,rfl⟩
 .have J:=AB D;clear D L F O;go_enter Tryz.func157,Tryz.ntmps157;go_wp2_with fail;refine Q.AA.mono ?_;rintro e w' ⟨r,rfl,C,rfl⟩;obtain rfl:r=false:=by cases r;rfl;exact absurd (C.1 rfl) J.AA
  clear C;go_wp2_with fail;go_ret;exact⟨false,rfl,⟨λh=>absurd h (by simp),λh=>absurd ⟨h.1,λj x q B I=>⟨(h.2 j x q B I).1,(h.2 j x q B I).2.1,λh=>absurd h (CS _)⟩⟩ J.AA⟩,rfl⟩
end Kh
namespace IP
open RowKit AJ Val Kh
def Kv (p:Prop)(w:World)(e:Ending)(w':World):Prop:=∃r:Bool,e= .returned (.bool r)/\(r=true↔p)/\Below w.heap.size w w'
theorem EI {p:Prop}{w w':World}(h:¬p)(C:Below w.heap.size w w'):Kv p w (.returned (.bool false)) w':=⟨false,rfl,⟨λh=>absurd h (by simp),λB=>absurd B h⟩,C⟩
theorem Nc {p:Prop}{w w':World}(h:p)(B:Below w.heap.size w w'):Kv p w (.returned (.bool true)) w':=⟨true,rfl,⟨λ_=>h,λ_=>rfl⟩,B⟩
theorem MG (w:World)(vO vP vC:Value)(P:BZ)(L:Av Any w vO vP vC P):
  Calls Tryz.prog 93 #[.agg #[vO,vP,vC]] w (Kv (Valid P) w):=by
 have W:=L;obtain⟨aO,cO,rfl,f2,a8,c6,U⟩:=L.os;obtain⟨aP,cP,rfl,f0,a6,d8,R⟩:=L.ps;obtain⟨aC,cC,rfl,e4,a9,c9,V⟩:=L.cs;have f6:=AB (And.intro a8 (And.intro a6 a9));have m1:(P.os.length:Int)<=9223372036854775807:=by unfold maxLen at a8;omega
 have m2:(P.ps.length:Int)<=9223372036854775807:=by unfold maxLen at a6;omega
 have m3:(P.cs.length:Int)<=9223372036854775807:=by unfold maxLen at a9;omega
 have J:=AB ((BB w.heap.size w).alloc AV (.cells #[.slice aO P.os.length cO,.slice aP P.ps.length cP,.slice aC P.cs.length cC] 28));clear a8 a6 a9 c6 d8 c9;by_cases g:P.os.length<=6
 .have c8:decide ((P.os.length:Int)>6)=false:=by simp;omega
  by_cases S:P.ps.length=P.os.length
  .have d4:((P.ps.length:Int) !=(P.os.length:Int))=false:=by simp;omega
   by_cases a0:P.cs.length=P.os.length
   .have c7:((P.cs.length:Int) !=(P.os.length:Int))=false:=by simp;omega
    have a3:=AB S;have a1:=AB a0;have HO:=AB U;have HP:=AB R;have HC:=AB V;have c4:=AB (show BH Any (w.alloc (.cells #[.slice aO P.os.length cO,.slice aP P.ps.length cP,.slice aC P.cs.length cC] 28)) w.heap.size 0 P from by
     have hb:=BB (w.heap.size+1) (w.alloc (.cells #[.slice aO P.os.length cO,.slice aP P.ps.length cP,.slice aC P.cs.length cC] 28));obtain⟨e0,e1,e2⟩:=CY hb;exact⟨trivial,by simp,_,_,_,e0,e1,e2,W.keep (Cq hb _)⟩)
    have b7:=AB (Cq (BB (w.heap.size+1) (w.alloc (.cells #[.slice aO P.os.length cO,.slice aP P.ps.length cP,.slice aC P.cs.length cC] 28))) Any);clear S a0 U R V L W;go_enter Tryz.func93,Tryz.ntmps93;go_wp2_with fail;go_loop [4,32] (λq i=>∃k:Nat,k<=P.os.length/\i= .int .i64 (k:Int)/\∃z:Int,q= .int .i64 z/\1<=z/\z<=729/\Hid (z=Cj (P.os.take k)/\∀x∈P.os.take k,Bw x=true)) (λ_ i=>P.os.length-(intOf i).toNat);case atStart=>exact⟨0,AX _,rfl,1,rfl,by omega,by omega,AB ⟨rfl,λx b=>by simp at b⟩⟩
    case round=>
     obtain⟨k,hk,rfl,z,rfl,d3,b4,I⟩:=hrel;by_cases D:k<P.os.length
     .obtain⟨x,b⟩:∃x,P.os[k]?=some x:=⟨_,AU D⟩;obtain⟨bO,oO,rfl,_,e3,u,e5,rfl⟩:=HO.AA k x b;have s:=AB b;clear b;by_cases Q:Bw x=true
      .have d0:=KR Q;have b1:1<=z*x:=by have:1*1<=z*x:=Int.mul_le_mul d3 (by omega) (by omega) (by omega);simpa using this
       have b2:z*x<=5103:=by have:z*x<=729*7:=Int.mul_le_mul b4 d0.2 (by omega) (by omega);simpa using this
       have F:=AB Q;clear Q;by_cases b8:z*x<=729
       .have hg:decide (z*x>729)=false:=by simp;omega
        have HT:=AB (show z*x=Cj (P.os.take (k+1))/\∀y∈P.os.take (k+1),Bw y=true from by
         refine⟨by rw[Qb s.AA,I.AA.1],λy K=>?_⟩;rw[EL,s.AA]at K;rcases DY.1 K with h|h
         .exact I.AA.2 y h
         .simp at h;rw[h];exact F.AA)
        go_wp2_with (go_at_call 156;refine(LD x _).mono ?_;rintro e w' ⟨rfl,rfl⟩;rw[F.AA]);go_round;case rel=>exact⟨k+1,by omega,by go_num,z*x,rfl,b1,b8,HT⟩
        case measure=>simp[intOf];omega
       .have hg:decide (z*x>729)=true:=by simp;omega
        have B:=AB (show¬Valid P from λh=>b8 (by
         have h1:=gH h.pr (k+1);rw[Qb s.AA,<-I.AA.1]at h1;have:=h.le;omega))
        go_wp2_with (go_at_call 156;refine(LD x _).mono ?_;rintro e w' ⟨rfl,rfl⟩;rw[F.AA]);go_ret;exact EI B.AA J.AA
      .have F:=AB (show Bw x=false by simpa using Q);have B:=AB (show¬Valid P from λh=>Q (h.pr x (Af s.AA)));clear Q;go_wp2_with (go_at_call 156;refine(LD x _).mono ?_;rintro e w' ⟨rfl,rfl⟩;rw[F.AA]);go_ret;exact EI B.AA J.AA
     .obtain rfl:k=P.os.length:=by omega
      have F:=AB (show(∀x∈P.os,Bw x=true)/\Cj P.os<=729 from by
       have h:=I.AA;rw[FO]at h;exact⟨h.2,by rw[<-h.1];exact b4⟩)
      have Z:=AB (λ(i:Nat) (v:Value) (l:List Int) (hv:AP Any _ v l) (hi:i<P.os.length)=>fu _ w.heap.size 0 i P v l c4.AA hv F.AA.1 hi g);clear I D hk;go_wp2_with fail;go_loop [50] (λi=>∃k:Nat,k<=P.os.length/\i= .int .i64 (k:Int)/\Hid (∀j,j<k->(∀p,P.ps[j]?=some p->Be P.os (j+1) p)/\∀c,P.cs[j]?=some c->c.length=P.os.length-1-j/\∀y∈c,Be P.os (j+1) y)) (λi=>P.os.length-(intOf i).toNat);case atStart=>exact⟨0,AX _,rfl,AB (λj h=>absurd h (CS _))⟩
      case round=>
       obtain⟨i,hi,rfl,I⟩:=hrel;by_cases D:i<P.os.length
       .obtain⟨p,O⟩:∃p,P.ps[i]?=some p:=⟨_,AU (by rw[a3.AA];exact D)⟩;obtain⟨c,N⟩:∃c,P.cs[i]?=some c:=⟨_,AU (by rw[a1.AA];exact D)⟩;obtain⟨bP,oP,rfl,_,f4,uP,f5,c0⟩:=HP.AA i p O;obtain⟨bC,oC,rfl,_,d9,uC,f3,d1⟩:=HC.AA i c N;obtain⟨a2,c2,rfl,e6,a7,_,c1⟩:=d1;have m4:(c.length:Int)<=9223372036854775807:=by unfold maxLen at a7;omega
        have e8:=AB a7;have c3:=AB c1;have b0:=AB (c0.keep b7.AA);have b9:=AB O;have b3:=AB N;have e9:i<P.ps.length:=by rw[a3.AA];exact D
        have f1:i<P.cs.length:=by rw[a1.AA];exact D
        have hd:decide ((i:Int)<(P.os.length:Int))=true:=by simp;omega
        clear O N c0 a7 c1;by_cases X:Be P.os (i+1) p
        .have a:=AB X;clear X;by_cases a4:c.length=P.os.length-1-i
         .have d6:((c.length:Int) !=(P.os.length:Int)-1-(i:Int))=false:=by simp;omega
          have d5:=AB a4;clear a4;go_wp2_with (go_at_call 157;refine(Z.AA i _ p b0.AA D).mono ?_;rintro e w' ⟨r,rfl,C,rfl⟩;obtain rfl:r=true:=C.2 a.AA;clear C);go_loop [80] (λkv=>∃k:Nat,k<=c.length/\kv= .int .i64 (k:Int)/\Hid (∀j y,j<k->c[j]?=some y->Be P.os (i+1) y)) (λkv=>c.length-(intOf kv).toNat);case atStart=>exact⟨0,AX _,rfl,AB (λj y h=>absurd h (CS _))⟩
          case round=>
           obtain⟨k,hk,rfl,hS⟩:=hrel;by_cases d2:k<c.length
           .obtain⟨y,K⟩:∃y,c[k]?=some y:=⟨_,AU d2⟩;obtain⟨b2,o2,rfl,_,f7,uy,e7,b5⟩:=c3.AA k y K;have b6:=AB (b5.keep b7.AA);have HY:=AB K;clear K b5;by_cases Y:Be P.os (i+1) y
            .have a5:=AB Y;clear Y;go_wp2_with (go_at_call 157;refine(Z.AA i _ y b6.AA D).mono ?_;rintro e w' ⟨r,rfl,C,rfl⟩;obtain rfl:r=true:=C.2 a5.AA;clear C);go_round;case rel=>exact⟨k+1,by omega,by go_num,AB (λj z hj hz=>by
              rcases DF.1 hj with h|h
              .exact hS.AA j z h hz
              .subst h;rw[HY.AA]at hz;cases hz;exact a5.AA)⟩
             case measure=>simp[intOf];omega
            .have a5:=AB Y;have B:=AB (show¬Valid P from λh=>Y ((h.cv i c b3.AA).2 y (Af HY.AA)));clear Y;go_wp2_with (go_at_call 157;refine(Z.AA i _ y b6.AA D).mono ?_;rintro e w' ⟨r,rfl,C,rfl⟩;obtain rfl:r=false:=(by cases r;rfl;exact absurd (C.1 rfl) a5.AA);clear C);go_ret;exact EI B.AA J.AA
           .obtain rfl:k=c.length:=by omega
            have d7:=AB (show∀j,j<i+1->(∀p,P.ps[j]?=some p->Be P.os (j+1) p)/\∀c,P.cs[j]?=some c->c.length=P.os.length-1-j/\∀y∈c,Be P.os (j+1) y from λj hj=>by
             rcases DF.1 hj with h|h
             .exact I.AA j h
             .subst h;refine⟨λq hq=>?_,λd hd=>?_⟩
              .rw[b9.AA]at hq;cases hq;exact a.AA
              .rw[b3.AA]at hd;cases hd;refine⟨d5.AA,λy K=>?_⟩;obtain⟨t,ht,rfl⟩:=Ld K;exact hS.AA t _ ht (AU ht))
            go_wp2_with fail;go_round;case rel=>exact⟨i+1,by omega,by go_num,d7⟩
            case measure=>simp[intOf];omega
         .have d6:((c.length:Int) !=(P.os.length:Int)-1-(i:Int))=true:=by simp;omega
          have B:=AB (show¬Valid P from λh=>a4 (h.cv i c b3.AA).1);clear a4;go_wp2_with (go_at_call 157;refine(Z.AA i _ p b0.AA D).mono ?_;rintro e w' ⟨r,rfl,C,rfl⟩;obtain rfl:r=true:=C.2 a.AA;clear C);go_ret;exact EI B.AA J.AA
        .have a:=AB X;have B:=AB (show¬Valid P from λh=>X (h.pv i p b9.AA));clear X;go_wp2_with (go_at_call 157;refine(Z.AA i _ p b0.AA D).mono ?_;rintro e w' ⟨r,rfl,C,rfl⟩;obtain rfl:r=false:=(by cases r;rfl;exact absurd (C.1 rfl) a.AA);clear C);go_ret;exact EI B.AA J.AA
       .obtain rfl:i=P.os.length:=by omega
        have c5:=AB (show Valid P from⟨g,a3.AA,a1.AA,F.AA.1,F.AA.2,λj p O=>(I.AA j (by have:=(Ak.1 O).1;rw[a3.AA]at this;exact this)).1 p O,λj c N=>(I.AA j (by have:=(Ak.1 N).1;rw[a1.AA]at this;exact this)).2 c N⟩);go_wp2_with fail;go_ret;exact Nc c5.AA J.AA
   .have c7:((P.cs.length:Int) !=(P.os.length:Int))=true:=by simp;omega
    have B:=AB (show¬Valid P from λh=>a0 h.cl);clear a0 S U R V L W;go_enter Tryz.func93,Tryz.ntmps93;go_wp2_with fail;go_ret;exact EI B.AA J.AA
  .have d4:((P.ps.length:Int) !=(P.os.length:Int))=true:=by simp;omega
   have B:=AB (show¬Valid P from λh=>S h.pl);clear S U R V L W;go_enter Tryz.func93,Tryz.ntmps93;go_wp2_with fail;go_ret;exact EI B.AA J.AA
 .have c8:decide ((P.os.length:Int)>6)=true:=by simp;omega
  have B:=AB (show¬Valid P from λh=>g h.n6);clear g U R V L W;go_enter Tryz.func93,Tryz.ntmps93;go_wp2_with fail;go_ret;exact EI B.AA J.AA
end IP
namespace KE
open RowKit AJ Val Kh IP
theorem LD (x:Int)(w:World):Calls Tryz.prog 146 #[.int .i64 x] w λe w'=>e= .returned (.bool (Bw x))/\w=w':=by
 by_cases B:x=2
 .subst B;go_enter Tryz.func146,Tryz.ntmps146;go_wp2_with fail;go_ret;exact⟨rfl,rfl⟩
 .by_cases F:x=3
  .subst F;go_enter Tryz.func146,Tryz.ntmps146;go_wp2_with fail;go_ret;exact⟨rfl,rfl⟩
  .by_cases C:x=5
   .subst C;go_enter Tryz.func146,Tryz.ntmps146;go_wp2_with fail;go_ret;exact⟨rfl,rfl⟩
   .by_cases D:x=7
    .subst D;go_enter Tryz.func146,Tryz.ntmps146;go_wp2_with fail;go_ret;exact⟨rfl,rfl⟩
    .have e2:(x==2)=false:=by simpa using B
     have J:(x==3)=false:=by simpa using F
     have K:(x==5)=false:=by simpa using C
     have L:(x==7)=false:=by simpa using D
     have I:=AB (show Bw x=false by simp[Bw,B,F,C,D]);clear B F C D;go_enter Tryz.func146,Tryz.ntmps146;go_wp2_with fail;go_ret;exact⟨by rw[I.AA];rfl,rfl⟩
theorem Og (x B hi:Int)(C:B<=x)(D:x<=hi)(w:World):Calls Tryz.prog 197 #[.int .i64 x,.int .i64 B,.int .i64 hi] w λe w'=>e= .returned (.bool true)/\w'=w:=by
 have F:x>=B:=C;go_enter Tryz.func197,Tryz.ntmps197;go_wp2_with fail;go_ret;exact⟨rfl,rfl⟩
theorem VR (x B hi:Int)(h:¬(B<=x/\x<=hi))(w:World):Calls Tryz.prog 197 #[.int .i64 x,.int .i64 B,.int .i64 hi] w λe w'=>e= .returned (.bool false)/\w'=w:=by
 by_cases C:B<=x
 .have D:¬x<=hi:=λD=>h ⟨C,D⟩;have I:decide (x<=hi)=false:=ED D;have F:decide (B<=x)=true:=ET C;clear h;go_enter Tryz.func197,Tryz.ntmps197;go_wp2_with fail;go_ret;exact⟨rfl,rfl⟩
 .have F:decide (B<=x)=false:=ED C;clear h;go_enter Tryz.func197,Tryz.ntmps197;go_wp2_with fail;go_ret;exact⟨rfl,rfl⟩
def QW (p:Prop)(w:World)(e:Ending)(w':World):Prop:=∃r:Bool,e= .returned (.bool r)/\(r=true↔p)/\∃n,w'=w.drewN n
theorem Tt {p:Prop}{w:World}{n:Nat}(h:¬p):QW p w (.returned (.bool false)) (w.drewN n):=⟨false,rfl,⟨λh=>absurd h (by simp),λB=>absurd B h⟩,n,rfl⟩
theorem mD {p:Prop}{w:World}{n:Nat}(h:p):QW p w (.returned (.bool true)) (w.drewN n):=⟨true,rfl,⟨λ_=>h,λ_=>rfl⟩,n,rfl⟩
theorem NY (w:World)(r v:Value)(os l:List Int)(R:Int)(z:Nat)(g:∀j:Nat,((j:Int)<=R↔j<z))(ho:AP Any w r os)(hv:AP Any w v l)(s:∀x∈os,Bw x=true):
  Calls Tryz.prog 147 #[r,v,.int .i64 R] w (QW (Be os z l) w):=by
 obtain⟨aO,cO,rfl,b3,b,_,hO⟩:=ho;obtain⟨ao,c,rfl,hc,V,_,Q⟩:=hv;have b1:(l.length:Int)<=9223372036854775807:=by unfold maxLen at V;omega
 have HX:=AB Q;have HO:=AB hO;have HM:=AB (And.intro b V);have a3:=AB s;have d:=AB g;clear Q hO b V s g;by_cases S:l.length=os.length
 .have a2:((l.length:Int) !=(os.length:Int))=false:=by simp;omega
  have W:=AB S;clear S;go_enter Tryz.func147,Tryz.ntmps147;go_wp2_with fail;go_loopw [7] (λi wr=>∃k:Nat,k<=l.length/\i= .int .i64 (k:Int)/\Hid (∀j,j<k->∀x o,l[j]?=some x->os[j]?=some o->0<=x/\x<o/\(j<z->x=0))/\Hid (∃n,wr=w.drewN n)) (λi _=>l.length-(intOf i).toNat);case atStart=>exact⟨0,AX _,rfl,AB (λj h=>absurd h (CS _)),AB ⟨0,rfl⟩⟩
  case round=>
   obtain⟨k,hk,rfl,X,hW⟩:=hrel;obtain⟨m,a⟩:=hW.AA;have D:=AB a;clear a;by_cases U:k<l.length
   .obtain⟨x,hg⟩:∃x,l[k]?=some x:=⟨_,AU U⟩;obtain⟨q,K⟩:∃q,os[k]?=some q:=⟨_,AU (by rw[<-W.AA];exact U)⟩;obtain⟨bX,oX,rfl,_,b4,u,a0,rfl⟩:=HX.AA k x hg;obtain⟨bO,oO,rfl,_,a8,u,a5,rfl⟩:=HO.AA k q K;have a9:wr.cell? ⟨bX,oX+k,none⟩=some (.int .i64 x):=by rw[D.AA];exact a0
    have a7:wr.cell? ⟨bO,oO+k,none⟩=some (.int .i64 q):=by rw[D.AA];exact a5
    have b0:k<os.length:=by rw[<-W.AA];exact U
    have b2:=KR (a3.AA q (Af K));have C:=AB (And.intro hg K);have w1:IntKind.i64.wrap (q-1)=q-1:=Ac _ (by omega);have w4:(k:Int)<(l.length:Int):=by omega
    have w5:(0:Int)<=(k:Int):=by omega
    have w6:(k:Int)<(os.length:Int):=by omega
    clear hg K;by_cases O:0<=x/\x<=q-1
    .have B:=AB O;clear O;by_cases L:(k:Int)<=R
     .have hd:decide ((k:Int)<=R)=true:=ET L;have Y:=AB ((d.AA k).1 L);clear L;by_cases J:x=0
      .have a1:(x !=0)=false:=by simpa using J
       have a4:=AB J;clear J;go_wp2_with fail;go_quiet ((go_at_call 197;exact Calls.quiet_of_same (Og x 0 (q-1) B.AA.1 B.AA.2 _)));go_wp2_with fail;go_roundw;case rel=>exact⟨k+1,by omega,by go_num,AB (λj Z y p F I=>by
        rcases DF.1 Z with h|h
        .exact X.AA j h y p F I
        .subst h;rw[C.AA.1]at F;rw[C.AA.2]at I;cases F;cases I;have:=B.AA;exact⟨this.1,by omega,λ_=>a4.AA⟩),AB ⟨m+nq,by rw[D.AA,Kg]⟩⟩
       case measure=>simp[intOf];omega
      .have a1:(x !=0)=true:=by simpa using J
       have N:=AB (show¬Be os z l from λh=>J ((h.2 k x q C.AA.1 C.AA.2).2.2 Y.AA));clear J;go_wp2_with fail;go_quiet ((go_at_call 197;exact Calls.quiet_of_same (Og x 0 (q-1) B.AA.1 B.AA.2 _)));go_wp2_with fail;go_ret;rw[D.AA,Kg];exact Tt N.AA
     .have hd:decide ((k:Int)<=R)=false:=ED L;have Y:=AB (λh=>L ((d.AA k).2 h));clear L;go_wp2_with fail;go_quiet ((go_at_call 197;exact Calls.quiet_of_same (Og x 0 (q-1) B.AA.1 B.AA.2 _)));go_wp2_with fail;go_roundw;case rel=>exact⟨k+1,by omega,by go_num,AB (λj Z y p F I=>by
       rcases DF.1 Z with h|h
       .exact X.AA j h y p F I
       .subst h;rw[C.AA.1]at F;rw[C.AA.2]at I;cases F;cases I;have:=B.AA;exact⟨this.1,by omega,λh=>absurd h Y.AA⟩),AB ⟨m+nq,by rw[D.AA,Kg]⟩⟩
      case measure=>simp[intOf];omega
    .have B:=AB O;have N:=AB (show¬Be os z l from λh=>by have:=h.2 k x q C.AA.1 C.AA.2;exact O ⟨this.1,by omega⟩);clear O;go_wp2_with fail;go_quiet ((go_at_call 197;exact Calls.quiet_of_same (VR x 0 (q-1) B.AA _)));go_wp2_with fail;go_ret;rw[D.AA,Kg];exact Tt N.AA
   .obtain rfl:k=l.length:=by omega
    have a6:=AB (show Be os z l from⟨W.AA,λj x q Q K=>X.AA j (Ak.1 Q).1 x q Q K⟩);go_wp2_with fail;go_ret;rw[D.AA];exact mD a6.AA
 .have a2:((l.length:Int) !=(os.length:Int))=true:=by simp;omega
  have N:=AB (show¬Be os z l from λh=>S h.1);clear S;go_enter Tryz.func147,Tryz.ntmps147;go_wp2_with fail;go_ret;exact Tt (n:=0) N.AA
def ul (os:List Int)(w:World)(e:Ending)(w':World):Prop:=∃r:Int,e= .returned (.int .i64 r)/\(r<=729↔Cj os<=729)/\(r<=729->r=Cj os)/\w=w'
theorem Jp (w:World)(N:Value)(os:List Int)(Z:AP Any w N os)(O:∀x∈os,Bw x=true):
  Calls Tryz.prog 88 #[N] w (ul os w):=by
 obtain⟨r,d,rfl,p,D,_,R⟩:=Z;have j:(os.length:Int)<=9223372036854775807:=by unfold maxLen at D;omega
 have U:=AB R;have l:=AB D;have Y:=AB O;clear R D O;go_enter Tryz.func88,Tryz.ntmps88;go_wp2_with fail;go_loop [3,4] (λq i=>∃k:Nat,k<=os.length/\i= .int .i64 (k:Int)/\∃z:Int,q= .int .i64 z/\1<=z/\z<=5103/\Hid ((z<=729->z=Cj (os.take k))/\(729<z->729<Cj (os.take k)))) (λ_ i=>os.length-(intOf i).toNat);case atStart=>exact⟨0,AX _,rfl,1,rfl,by omega,by omega,AB ⟨λ_=>rfl,λh=>by omega⟩⟩
 case round=>
  obtain⟨k,g,rfl,z,rfl,L,X,I⟩:=hrel;by_cases V:k<os.length
  .obtain⟨x,B⟩:∃x,os[k]?=some x:=⟨_,AU V⟩;obtain⟨v,s,rfl,_,b,u,y,rfl⟩:=U.AA k x B;have S:=KR (Y.AA x (Af B));have Q:=AB B;clear B;by_cases J:z<=729
   .have a:1<=z*x:=by have:1*1<=z*x:=Int.mul_le_mul L (by omega) (by omega) (by omega);simpa using this
    have W:z*x<=5103:=by have:z*x<=729*7:=Int.mul_le_mul J S.2 (by omega) (by omega);simpa using this
    have F:=AB (show(z*x<=729->z*x=Cj (os.take (k+1)))/\(729<z*x->729<Cj (os.take (k+1))) from by
     rw[Qb Q.AA,<-I.AA.1 J];exact⟨λ_=>rfl,λh=>h⟩)
    go_wp2_with fail;go_round;case rel=>exact⟨k+1,by omega,by go_num,z*x,rfl,a,W,F⟩
    case measure=>simp[intOf];omega
   .have F:=AB (show(z<=729->z=Cj (os.take (k+1)))/\(729<z->729<Cj (os.take (k+1))) from by
     refine⟨λh=>absurd h J,λh=>?_⟩;rw[Qb Q.AA];have C:=I.AA.2 h;have K:Cj (os.take k)*1<=Cj (os.take k)*x:=Int.mul_le_mul (Int.le_refl _) (by omega) (by omega) (by omega);rw[Int.mul_one]at K;omega)
    go_wp2_with fail;go_round;case rel=>exact⟨k+1,by omega,by go_num,z,rfl,L,X,F⟩
    case measure=>simp[intOf];omega
  .obtain rfl:k=os.length:=by omega
   go_wp2_with fail;go_ret;have h:=I.AA;rw[FO]at h;refine⟨z,rfl,⟨λC=>by rw[<-h.1 C];exact C,λC=>?_⟩,h.1,rfl⟩;apply Int.le_of_not_gt;intro K;have:=h.2 K;omega
end KE
namespace QC
open RowKit AJ Val Kh IP KE
theorem U2 {w:World}{C v:Value}{os l:List Int}{B:Int}{z:Nat}(h:Be os z l)(I:Calls Tryz.prog 147 #[C,v,.int .i64 B] w (QW (Be os z l) w)):
  Calls Tryz.prog 147 #[C,v,.int .i64 B] w λe w'=>e= .returned (.bool true)/\∃n,w'=w.drewN n:=
 I.mono λe w' ⟨r,J,F,D⟩=>⟨by rw[J,F.2 h],D⟩
theorem ZU {w:World}{C v:Value}{os l:List Int}{B:Int}{z:Nat}(h:¬Be os z l)(I:Calls Tryz.prog 147 #[C,v,.int .i64 B] w (QW (Be os z l) w)):
  Calls Tryz.prog 147 #[C,v,.int .i64 B] w λe w'=>e= .returned (.bool false)/\∃n,w'=w.drewN n:=
 I.mono λe w' ⟨r,J,F,D⟩=>⟨by cases r;exact J;exact absurd (F.1 rfl) h,D⟩
theorem QE (i:Nat):∀j:Nat,((j:Int)<=(i:Int)↔j<i+1):=λj=>by omega
theorem MG (w:World)(vO vP vC:Value)(P:BZ)(J:Av Any w vO vP vC P):
  Calls Tryz.prog 87 #[.agg #[vO,vP,vC]] w (Kv (Valid P) w):=by
 have Y:=J;obtain⟨aO,cO,rfl,f7,b4,d0,W⟩:=J.os;obtain⟨aP,cP,rfl,f5,a9,e6,U⟩:=J.ps;obtain⟨aC,cC,rfl,f0,b5,d3,X⟩:=J.cs;have f8:=AB (And.intro b4 (And.intro a9 b5));have m1:(P.os.length:Int)<=9223372036854775807:=by unfold maxLen at b4;omega
 have m2:(P.ps.length:Int)<=9223372036854775807:=by unfold maxLen at a9;omega
 have m3:(P.cs.length:Int)<=9223372036854775807:=by unfold maxLen at b5;omega
 have HB:=AB ((BB w.heap.size w).alloc AV (.cells #[.slice aO P.os.length cO,.slice aP P.ps.length cP,.slice aC P.cs.length cC] 28));clear b4 a9 b5 d0 e6 d3;by_cases h6:P.os.length<=6
 .have d2:decide ((P.os.length:Int)>6)=false:=by simp;omega
  by_cases V:P.ps.length=P.os.length
  .have d7:((P.ps.length:Int) !=(P.os.length:Int))=false:=by simp;omega
   by_cases a0:P.cs.length=P.os.length
   .have d1:((P.cs.length:Int) !=(P.os.length:Int))=false:=by simp;omega
    have a4:=AB V;have a1:=AB a0;have HO:=AB W;have HP:=AB U;have HC:=AB X;have HW:=AB Y;clear V a0 W U X J Y;go_enter Tryz.func87,Tryz.ntmps87;go_wp2_with fail;go_loop [4] (λi=>∃k:Nat,k<=P.os.length/\i= .int .i64 (k:Int)/\Hid (∀j,j<k->∀x,P.os[j]?=some x->Bw x=true)) (λi=>P.os.length-(intOf i).toNat);case atStart=>exact⟨0,AX _,rfl,AB (λj h=>absurd h (CS _))⟩
    case round=>
     obtain⟨k,hk,rfl,N⟩:=hrel;by_cases K:k<P.os.length
     .obtain⟨x,hx⟩:∃x,P.os[k]?=some x:=⟨_,AU K⟩;obtain⟨bO,oO,rfl,_,e9,u,f1,rfl⟩:=HO.AA k x hx;have HX:=AB hx;clear hx;by_cases v:Bw x=true
      .have C:=AB v;clear v;go_wp2_with (go_at_call 146;refine(KE.LD x _).mono ?_;rintro e w' ⟨rfl,rfl⟩;rw[C.AA]);go_round;case rel=>exact⟨k+1,by omega,by go_num,AB (λj I y F=>by
        rcases DF.1 I with h|h
        .exact N.AA j h y F
        .subst h;rw[HX.AA]at F;cases F;exact C.AA)⟩
       case measure=>simp[intOf];omega
      .have C:=AB (show Bw x=false by simpa using v);have B:=AB (show¬Valid P from λh=>v (h.pr x (Af HX.AA)));clear v;go_wp2_with (go_at_call 146;refine(KE.LD x _).mono ?_;rintro e w' ⟨rfl,rfl⟩;rw[C.AA]);go_ret;exact EI B.AA HB.AA
     .obtain rfl:k=P.os.length:=by omega
      have C:=AB (show∀x∈P.os,Bw x=true from λx hx=>by obtain⟨j,I,rfl⟩:=Ld hx;exact N.AA j I _ (AU I));clear N K hk;go_wp2_with fail;refine(Jp _ _ P.os (HW.AA.os.keep (AL.alloc _)) C.AA).mono ?_;rintro e w' ⟨r,rfl,a3,_,rfl⟩;by_cases R:Cj P.os<=729
      .have d8:decide (r>729)=false:=by have:=a3.2 R;simp;omega
       have e7:=AB R;clear R a3;go_wp2_with fail;go_loopw [5] (λi wr=>∃k:Nat,k<=P.os.length/\i= .int .i64 (k:Int)/\Hid (∀j,j<k->(∀p,P.ps[j]?=some p->Be P.os (j+1) p)/\∀c,P.cs[j]?=some c->c.length=P.os.length-1-j/\∀y∈c,Be P.os (j+1) y)/\Below (w.heap.size+1) (w.alloc (.cells #[.slice aO P.os.length cO,.slice aP P.ps.length cP,.slice aC P.cs.length cC] 28)) wr) (λi _=>P.os.length-(intOf i).toNat);case atStart=>exact⟨0,AX _,rfl,AB (λj h=>absurd h (CS _)),BB _ _⟩
       case round=>
        obtain⟨i,hi,rfl,N,D⟩:=hrel;obtain⟨e0,e1,e2⟩:=CY D;have s:=AB D;have HK:=AB (Cq D Any);have b3:=AB (Cy D);clear D;by_cases K:i<P.os.length
        .obtain⟨p,Q⟩:∃p,P.ps[i]?=some p:=⟨_,AU (by rw[a4.AA];exact K)⟩;obtain⟨c,O⟩:∃c,P.cs[i]?=some c:=⟨_,AU (by rw[a1.AA];exact K)⟩;obtain⟨bP,oP,rfl,_,d9,uP,c3,c6⟩:=HP.AA i p Q;obtain⟨b,S,rfl,_,a8,uC,b1,d4⟩:=HC.AA i c O;obtain⟨a2,c2,rfl,f2,b0,_,c7⟩:=d4;have g1:wr.cell? ⟨bP,oP+i,none⟩=some uP:=by rw[HK.AA.cell trivial d9];exact c3
         have g2:wr.cell? ⟨b,S+i,none⟩=some (.slice a2 c.length c2):=by rw[HK.AA.cell trivial a8];exact b1
         have m4:(c.length:Int)<=9223372036854775807:=by unfold maxLen at b0;omega
         have f3:=AB b0;have c8:=AB c7;have a5:=AB (c6.keep HK.AA);have L:=AB (HW.AA.os.keep HK.AA);have c5:=AB Q;have b7:=AB O;have f4:i<P.ps.length:=by rw[a4.AA];exact K
         have f6:i<P.cs.length:=by rw[a1.AA];exact K
         have wa:IntKind.i64.wrap ((P.os.length:Int)-1)=(P.os.length:Int)-1:=Ac _ (by omega);have wb:IntKind.i64.wrap ((P.os.length:Int)-1-(i:Int))=(P.os.length:Int)-1-(i:Int):=Ac _ (by omega);have w4:(i:Int)<(P.ps.length:Int):=by omega
         have w5:(0:Int)<=(i:Int):=by omega
         have w6:(i:Int)<(P.cs.length:Int):=by omega
         have hd:decide ((i:Int)<(P.os.length:Int))=true:=by simp;omega
         have c1:=AB b1;clear Q O c6 b0 c7 c3 b1;by_cases Z:Be P.os (i+1) p
         .have l:=AB Z;clear Z;by_cases a6:c.length=P.os.length-1-i
          .have e4:((c.length:Int) !=(P.os.length:Int)-1-(i:Int))=false:=by simp;omega
           have e3:=AB a6;clear a6;go_wp2_with fail;go_quiet ((go_at_call 147;exact Calls.quiet_of (U2 l.AA (NY _ _ _ _ _ (i:Int) (i+1) (QE i) (L.AA.keep (AL.drewN _)) (a5.AA.keep (AL.drewN _)) C.AA))));go_wp2_with fail;obtain⟨w5,b6⟩:∃w5,w5=wr.drewN nq:=⟨_,rfl⟩;have c4:=AB (show Below (w.heap.size+1) (w.alloc (.cells #[.slice aO P.os.length cO,.slice (some ⟨bP,oP,none⟩) P.ps.length cP,.slice (some ⟨b,S,none⟩) P.cs.length cC] 28)) w5 by rw[b6];exact Cs s.AA nq);rw[<-b6];clear b6 e0 e1 e2 g1 g2;go_loopw [6] (λkv wi=>∃k:Nat,k<=c.length/\kv= .int .i64 (k:Int)/\Hid (∀j y,j<k->c[j]?=some y->Be P.os (i+1) y)/\Below (w.heap.size+1) (w.alloc (.cells #[.slice aO P.os.length cO,.slice (some ⟨bP,oP,none⟩) P.ps.length cP,.slice (some ⟨b,S,none⟩) P.cs.length cC] 28)) wi) (λkv _=>c.length-(intOf kv).toNat);case atStart=>exact⟨0,AX _,rfl,AB (λj y h=>absurd h (CS _)),c4.AA⟩
           case round=>
            clear c4 a5 L s;obtain⟨k,hk,rfl,hS,D⟩:=hrel;obtain⟨e0,e1,e2⟩:=CY D;have s:=AB D;have g:=AB (Cq D Any);have d6:=AB (Cy D);clear D;by_cases d5:k<c.length
            .obtain⟨y,F⟩:∃y,c[k]?=some y:=⟨_,AU d5⟩;obtain⟨b2,o2,rfl,_,e8,uy,b8,b9⟩:=c8.AA k y F;have g2:wr.cell? ⟨b,S+i,none⟩=some (.slice (some ⟨b2,o2,none⟩) c.length c2):=by rw[g.AA.cell trivial a8];exact c1.AA
             have g3:wr.cell? ⟨b2,o2+k,none⟩=some uy:=by rw[g.AA.cell trivial e8];exact b8
             have c0:=AB (b9.keep g.AA);have L:=AB (HW.AA.os.keep g.AA);have HY:=AB F;have v4:(k:Int)<(c.length:Int):=by omega
             have v5:(0:Int)<=(k:Int):=by omega
             clear F b9 b8;by_cases a:Be P.os (i+1) y
             .have a7:=AB a;clear a;go_wp2_with fail;go_quiet ((go_at_call 147;exact Calls.quiet_of (U2 a7.AA (NY _ _ _ _ _ (i:Int) (i+1) (QE i) (L.AA.keep (AL.drewN _)) (c0.AA.keep (AL.drewN _)) C.AA))));go_wp2_with fail;go_roundw;case rel=>exact⟨k+1,by omega,by go_num,AB (λj z I hz=>by
               rcases DF.1 I with h|h
               .exact hS.AA j z h hz
               .subst h;rw[HY.AA]at hz;cases hz;exact a7.AA),Cs s.AA nq⟩
              case measure=>simp[intOf];omega
             .have a7:=AB a;have B:=AB (show¬Valid P from λh=>a ((h.cv i c b7.AA).2 y (Af HY.AA)));clear a;go_wp2_with fail;go_quiet ((go_at_call 147;exact Calls.quiet_of (ZU a7.AA (NY _ _ _ _ _ (i:Int) (i+1) (QE i) (L.AA.keep (AL.drewN _)) (c0.AA.keep (AL.drewN _)) C.AA))));go_wp2_with fail;go_ret;exact EI B.AA (Cs d6.AA nq)
            .obtain rfl:k=c.length:=by omega
             have g2:wr.cell? ⟨b,S+i,none⟩=some (.slice a2 c.length c2):=by rw[g.AA.cell trivial a8];exact c1.AA
             have e5:=AB (show∀j,j<i+1->(∀p,P.ps[j]?=some p->Be P.os (j+1) p)/\∀c,P.cs[j]?=some c->c.length=P.os.length-1-j/\∀y∈c,Be P.os (j+1) y from λj I=>by
              rcases DF.1 I with h|h
              .exact N.AA j h
              .subst h;refine⟨λq hq=>?_,λd hd=>?_⟩
               .rw[c5.AA]at hq;cases hq;exact l.AA
               .rw[b7.AA]at hd;cases hd;refine⟨e3.AA,λy F=>?_⟩;obtain⟨t,ht,rfl⟩:=Ld F;exact hS.AA t _ ht (AU ht))
             go_wp2_with fail;go_roundw;case rel=>exact⟨i+1,by omega,by go_num,e5,s.AA⟩
             case measure=>simp[intOf];omega
          .have e4:((c.length:Int) !=(P.os.length:Int)-1-(i:Int))=true:=by simp;omega
           have B:=AB (show¬Valid P from λh=>a6 (h.cv i c b7.AA).1);clear a6;go_wp2_with fail;go_quiet ((go_at_call 147;exact Calls.quiet_of (U2 l.AA (NY _ _ _ _ _ (i:Int) (i+1) (QE i) (L.AA.keep (AL.drewN _)) (a5.AA.keep (AL.drewN _)) C.AA))));go_wp2_with fail;go_ret;exact EI B.AA (Cs b3.AA nq)
         .have l:=AB Z;have B:=AB (show¬Valid P from λh=>Z (h.pv i p c5.AA));clear Z;go_wp2_with fail;go_quiet ((go_at_call 147;exact Calls.quiet_of (ZU l.AA (NY _ _ _ _ _ (i:Int) (i+1) (QE i) (L.AA.keep (AL.drewN _)) (a5.AA.keep (AL.drewN _)) C.AA))));go_wp2_with fail;go_ret;exact EI B.AA (Cs b3.AA nq)
        .obtain rfl:i=P.os.length:=by omega
         have c9:=AB (show Valid P from⟨h6,a4.AA,a1.AA,C.AA,e7.AA,λj p Q=>(N.AA j (by have:=(Ak.1 Q).1;rw[a4.AA]at this;exact this)).1 p Q,λj c O=>(N.AA j (by have:=(Ak.1 O).1;rw[a1.AA]at this;exact this)).2 c O⟩);go_wp2_with fail;go_ret;exact Nc c9.AA b3.AA
      .have d8:decide (r>729)=true:=by
        have:¬r<=729:=λh=>R (a3.1 h);simp;omega
       have B:=AB (show¬Valid P from λh=>R h.le);clear R a3;go_wp2_with fail;go_ret;exact EI B.AA HB.AA
   .have d1:((P.cs.length:Int) !=(P.os.length:Int))=true:=by simp;omega
    have B:=AB (show¬Valid P from λh=>a0 h.cl);clear a0 V W U X J Y;go_enter Tryz.func87,Tryz.ntmps87;go_wp2_with fail;go_ret;exact EI B.AA HB.AA
  .have d7:((P.ps.length:Int) !=(P.os.length:Int))=true:=by simp;omega
   have B:=AB (show¬Valid P from λh=>V h.pl);clear V W U X J Y;go_enter Tryz.func87,Tryz.ntmps87;go_wp2_with fail;go_ret;exact EI B.AA HB.AA
 .have d2:decide ((P.os.length:Int)>6)=true:=by simp;omega
  have B:=AB (show¬Valid P from λh=>h6 h.n6);clear h6 W U X J Y;go_enter Tryz.func87,Tryz.ntmps87;go_wp2_with fail;go_ret;exact EI B.AA HB.AA
end QC
namespace Vp
open RowKit AJ Val Bv Bl Ch Cr Bj Jm NL Ov TY
theorem Rf {B n:Nat}{w:World}{v:Value}{L:List ByteArray}(h:w.ownsRow B 9 1 v n (L.map Value.string)){i:Nat}{t:ByteArray}(hi:L[i]?=some t):
  ∃g c,v= .slice (some ⟨g,0,none⟩) n c/\w.cell? ⟨g,i,none⟩=some (.string t)/\g<w.heap.size:=by
 rcases id h.2 with⟨C,J⟩|⟨g,cap,K,C,I,hg,_⟩
 .have F:=h.1;have:=(Ak.1 hi).1;simp at F;omega
 .subst C;exact⟨g,cap,rfl,by
   have D:=h.cells (g:=g) rfl i (.string t) (by simp[hi]);rwa[show((⟨g,0,none⟩:Addr).add i)=⟨g,i,none⟩ by rw[Addr.add_lit,CK]]at D,(Bt.1 hg).1⟩
theorem UL (s:ByteArray)(b:UInt8):∀k,∀p∈(spl s b k).1,p.size<=s.size
 |0,p,h=>by simp[spl]at h
 |k+1,p,h=>by
  rw[spl]at h;split at h
  .rcases DY.1 h with h|h
   .exact UL s b k p h
   .rw[ES.1 h];simp[ByteArray.size_extract];omega
  .exact UL s b k p h
theorem iX (s:ByteArray)(b:UInt8):∀p∈parts s b,p.size<=s.size:=λp h=>by
 rcases DY.1 h with h|h
 .exact UL s b _ p h
 .rw[ES.1 h];simp[ByteArray.size_extract]
theorem XG (s:ByteArray)(b:UInt8):1<=(parts s b).length/\(parts s b).length<=s.size+1:=by
 have:=TZ s b s.size;unfold parts;simp;omega
def Parts (w:World)(e:Ending)(w':World)(s:ByteArray):Prop:=∃(v:Value) (L:List ByteArray) (n:Nat),e= .returned v/\L.length=n/\1<=n/\n<=s.size+1/\(∀p∈L,p.size<=s.size)/\w'.ownsRow w.heap.size 9 1 v n (L.map Value.string)/\Below w.heap.size w w'
theorem Ug (s:ByteArray)(b:UInt8)(z:Int)(B:z=(b.toNat:Int))(D:s.size<=1000)(w:World):Calls Tryz.prog 260 #[.string s,.int .u8 z] w λe w'=>Parts w e w' s:=by
 subst B;refine(Split.jf s b w (by omega)).mono ?_;rintro e w' ⟨v,rfl,h,C⟩;exact⟨v,parts s b,_,rfl,rfl,(XG s b).1,(XG s b).2,iX s b,h,C⟩
def Lg (w:World)(e:Ending)(w':World):Prop:=∃(n:Nat) (l:List Int) (a:Option Addr) (c:Nat) (b:Bool),e= .returned (.tuple #[.slice a n c,.bool b])/\l.length=n/\AP Any w' (.slice a n c) l/\n<=6/\(∀x∈l,Bw x=true)/\Below w.heap.size w w'
theorem Yn {w w':World}{b:Bool}(h:Below w.heap.size w w'):Lg w (.returned (.tuple #[.slice none 0 0,.bool b])) w':=
 ⟨0,[],none,0,b,rfl,rfl,⟨none,0,rfl,Al _,by simp[maxLen],λ_=>rfl,λi x h=>by simp at h⟩,by omega,λx h=>by simp at h,h⟩
theorem Tc (s:ByteArray)(hs:s.size<=1000)(w:World):Calls Tryz.prog 261 #[.string s] w (Lg w):=by
 obtain⟨i0,a7,b9,a9,c0⟩:=Bd Dh;have d:=AB (Fu.nil (P:=λx=>Bw x=true) (m:=6) w AV);cases ht:(s.toList==[49])with
 |true=>
  have c2:=AB (show Lg w (.returned (.tuple #[.slice (some ⟨w.heap.size,0,none⟩) 0 0,.bool true])) (w.alloc (.cells #[] 2)) from
   ⟨0,[],_,0,true,rfl,rfl,Gw (B:=w.heap.size) (DL (e:=2) (size:=1) w #[] 0 AV (AX _) rfl) rfl,by omega,λx h=>by simp at h,AY.alloc AV _⟩)
  go_enter Tryz.func261,Tryz.ntmps261;go_wp2_with fail;exact Au (v:=.tuple #[.slice (some ⟨w.heap.size,0,none⟩) 0 0,.bool true]) (by simp[results,Tryz.results261,go_sem]) rfl c2.AA
 |false=>
  have z:=AB (λW=>Ug s 32 32 rfl hs W);go_enter Tryz.func261,Tryz.ntmps261;go_wp2_with fail;refine(z.AA _).mono ?_;rintro e w2 ⟨v,L,n,rfl,y,c6,c9,b7,C,Z⟩;have j:=AB (Gp (B':=w.heap.size) C (by simp));have b2:=AB y;have q:=AB (((BB w.heap.size w).alloc AV (.cells #[] 2)).trans (Z.mono (by simp)));have a3:=AB (show Fu (λx=>Bw x=true) w.heap.size 6 w2 (.slice (some ⟨w.heap.size,0,none⟩) 0 0) 0 from by
   obtain⟨l,F,I,D,R⟩:=d.AA;exact⟨l,F,Aw I (S:=Any) (AO Z) (λ_ _=>trivial),D,R⟩)
  obtain⟨u,cv,rfl⟩:=II C;have c5:n<=1001:=by omega
  clear C y Z d z b7;go_wp2_with fail;go_loopw [4,6] (λov Y wr=>∃(i:Nat) (a:Option Addr) (c:Nat),i<=n/\i<=6/\Y= .int .i64 (i:Int)/\ov= .slice a i c/\Hid (Fu (λx=>Bw x=true) w.heap.size 6 wr (.slice a i c) i)/\Hid (wr.ownsRow w.heap.size 9 1 (.slice u n cv) n (L.map Value.string))/\Hid (Below w.heap.size w wr)) (λ_ Y _=>n-(intOf Y).toNat);case atStart=>exact⟨0,_,_,AX _,by omega,rfl,rfl,a3,j,q⟩
  case round=>
   clear a3 j q;obtain⟨i,a,c,hi,c4,rfl,rfl,J,C,K⟩:=hrel;by_cases a8:i<n
   .have c3:(i:Int)<(n:Int):=by omega
    have c7:(0:Int)<=(i:Int):=by omega
    obtain⟨t,hx⟩:∃t,L[i]?=some t:=⟨_,AU (by rw[b2.AA];exact a8)⟩;obtain⟨g,c',he,a2,d0⟩:=Rf C.AA hx;obtain⟨rfl,rfl⟩:u=some ⟨g,0,none⟩/\cv=c':=by simpa using he
    have c8:=a2;have b5:=AB (λW=>jg t W);clear hx he a2;go_wp2_with fail;refine(b5.AA _).mono ?_;rintro e O ⟨x,rfl,rfl⟩;have a6:=AB (λW=>KE.LD x W);go_wp2_with fail;refine(a6.AA _).mono ?_;rintro e w4 ⟨rfl,rfl⟩;cases a0:Bw x with
    |false=>
     have N:=AB (Yn (b:=false) K.AA);clear J C;go_wp2_with fail;exact Au (v:=.tuple #[.slice none 0 0,.bool false]) (by simp[results,Tryz.results261,go_sem]) rfl N.AA
    |true=>
     by_cases h6:6<=i
     .have b8:(6:Int)<=(i:Int):=by omega
      have N:=AB (Yn (b:=false) K.AA);clear J C;go_wp2_with fail;exact Au (v:=.tuple #[.slice none 0 0,.bool false]) (by simp[results,Tryz.results261,go_sem]) rfl N.AA
     .have b8:¬(6:Int)<=(i:Int):=by omega
      obtain⟨l,F,I,D,R⟩:=J.AA;have Q:=Aw I (S:=Any) ((Keep.refl _ O).alloc (.cells #[.int .i64 x] 2)) (λ_ _=>trivial);have p:=K.AA.size;have V:=AB (And.intro F (And.intro D a0));clear F I D J a0;go_wp2_with (at_builtin;(refine ER _ rfl _ _ 24 rfl w.heap.size 2 i0 (.int .i64 0) 1 8 Tryz.underlying24 a7 b9 a9 c0 rfl (by decide) _ _ _ rfl Q ⟨O.heap.size,0,none⟩ 1 1 [.int .i64 x] rfl rfl (Cw (cs:= #[.int .i64 x]) (t:=2) (fr:=(0,0)) (Aj O _)) (by simp[Value.oneCell']) (by decide) (by unfold maxLen;omega) (by omega) (by simp;omega) _ rfl ?_));intro g2 a5 w6 a4 X c1 b0;have b6:=AB ((K.AA.alloc p (.cells #[.int .i64 x] 2)).grown X (by simp;omega) (λg hg=>(Aq Q g hg).1));have U:=Aw C.AA (S:=Any) ((Keep.refl _ O).alloc (.cells #[.int .i64 x] 2)) (λ_ _=>trivial);have b4:=AB (JB U X (Gq U Q (by decide)));clear U;have b3:=AB (Fu.push (P:=λx=>Bw x=true) (m:=6) V.AA.1 V.AA.2.1 V.AA.2.2 (by omega) a4);clear Q a4 X c1 b0 C p K;go_wp2_with fail;go_roundw;case rel=>exact⟨i+1,_,a5,by omega,by omega,by go_num,rfl,b3,b4,b6⟩
      case measure=>simp[intOf];omega
   .obtain rfl:n=i:=by omega
    have d1:¬(n:Int)<(n:Int):=by omega
    obtain⟨l,F,I,D,R⟩:=J.AA;have HS:=AB (Gw I F);have b1:=AB (KE.Jp wr _ l HS.AA D);have N:=AB (λb=>show Lg w (.returned (.tuple #[.slice a n c,.bool b])) wr from⟨n,l,a,c,b,rfl,F,HS.AA,R,D,K.AA⟩);clear F I D J C;go_wp2_with fail;refine b1.AA.mono ?_;rintro e O ⟨r,rfl,-, -, rfl⟩;go_wp2_with fail;exact Au (v:=.tuple #[.slice a n c,.bool (decide (r<=729))]) (by simp[results,Tryz.results261,go_sem]) rfl (N.AA _)
end Vp
namespace JN
open RowKit AJ Bv Bl Ch Cr Bj
theorem V9 (z:Value)(k:Nat):(Builtin.zeroCells #[z] k).toList=List.replicate k z:=by
 apply GN;intro j;by_cases B:j<k
 .simp[Builtin.zeroCells,B,Nat.mod_one]
 .simp[Builtin.zeroCells,B]
theorem jk (w:World)(base:Nat)(ty:TypeId)(S:IntKind)(g n cap:Nat)(B:List Value)(I:w.ownsRow base 2 1 (.slice (some ⟨g,0,none⟩) n cap) n B)(k:Nat)(a5:n+k<=1000000)(a1:base<=w.heap.size):
  ∃R w',(Builtin.append_ #[24,3] ty #[.slice (some ⟨g,0,none⟩) n cap,.int S k]).run Tryz.prog w= .ok R w'/\w'.ownsRow base 2 1 R (n+k) (B++List.replicate k (.int .i64 0))/\w.grownBy w' (some g)/\∃W p,R= .slice (some ⟨W,0,none⟩) (n+k) p:=by
 obtain⟨X,hi,U,J,K⟩:=Bd Dh;have Q:=Tryz.underlying24;have N:=Tryz.underlying3;have C:B.length=n:=by have:=I.1;omega
 rcases I.2 with⟨h,_⟩|⟨W,a4,F,h,a2,hg,s,a,a3,i⟩
 .cases h
 .simp only[Du,EQ,Hr,and_true,true_and]at h;obtain⟨rfl,rfl⟩:=h;have Z:IntKind.i64.wrap (k:Int)=k:=by rw[IntKind.wrap_i64];omega
  have d:¬((k:Int)<0):=by omega
  have r:¬(281474976710656<(k:Int)*8):=by omega
  have Y:IntKind.i64.wrap 0=0:=by decide
  by_cases V:n+k<=cap
  .by_cases D:k=0
   .subst D;refine⟨.slice (some ⟨g,0,none⟩) n cap,w,?_,by simpa using I,⟨rfl,rfl,rfl,Al _,λ_ _ _=>rfl⟩,g,cap,rfl⟩;simp[Builtin.append_,run_underlying Q,run_underlying N,sizeOf,typeInfo,hi,J,K,asInt,asIntOf,Y,s,storeCells]
   .have O:=run_storeCells_at Tryz.prog g n 2 (List.replicate k (.int .i64 0)) 0 F w hg (by simp;omega) (λu hu=>by rw[List.eq_of_mem_replicate hu];rfl);simp only[Iw]at O;obtain⟨cs,L⟩:∃cs:Array Value,cs=(F.toList.take n++List.replicate k (Value.int .i64 0)++F.toList.drop (n+(List.replicate k (Value.int .i64 0)).length)).toArray:=⟨_,rfl⟩;rw[<-L]at O;refine⟨.slice (some ⟨g,0,none⟩) (n+k) cap,w.setRow g cs,by simp[Builtin.append_,run_underlying Q,run_underlying N,sizeOf,typeInfo,zeroValue,hi,U,J,K,asInt,asIntOf,Z,d,r,V,D,Addr.add_lit,Value.cells,V9,O],⟨by simp[C],.inr ⟨g,cap,cs,rfl,a2,setRow_heap w g F _ _ _ hg,V,a,?_,?_⟩⟩,⟨rfl,rfl,rfl,by simp,λk D y=>setRow_other w g k _ (λe=>y (by simp[e]))⟩,g,cap,rfl⟩
    .rw[L];simp;omega
    .rw[L];have b:F.toList.take n=B:=by simpa using i
     rw[b];simp only[Dy];rw[<-Dy,List.take_append_of_le_length (by simp[C])];rw[Jh (by simp[C])]
  .have l:0<k:=by omega
   have x:∀j u,B[j]?=some u->w.drew.cell? ((⟨g,0,none⟩:Addr).add j)=some u:=I.cells (g:=g) rfl;have z:=run_firstCells_some (P:=Tryz.prog) w.drew X.size n ⟨g,0,none⟩ n cap B (by rw[J];omega) x;have v:=Lib.run_append_grow_zeros (P:=Tryz.prog) w 24 3 ty 2 X (.int .i64 0) S .i64 Q N hi U (some ⟨g,0,none⟩) n cap B z k l (by rw[J];omega) (by omega) (by omega) (by rw[K];omega) (by rw[K];exact growslice_fits (by omega) (by omega));have q:=grownCap_ge w (n+k) cap 2;have a0:grownCap w (n+k) cap 2<=maxLen:=grownCap_le_maxLen w (n+k) cap 2 (by unfold maxLen;omega);refine⟨_,_,v,⟨by simp[C],.inr ⟨w.heap.size,_,_,rfl,a1,Aj w.drew _,q,a0,?_,?_⟩⟩,⟨rfl,rfl,rfl,by simp,λk D _=>Dv w.drew _ k D⟩,_,_,rfl⟩
   .simp[Value.cells,C,size_zeroCells];omega
   .simp only[Array.toList_append,Dy];rw[<-Dy,List.take_append_of_le_length (by simp[C,Value.cells,size_zeroCells])];rw[Jh (by simp[C,Value.cells,size_zeroCells]),show(Value.int .i64 0).cells= #[.int .i64 0] from rfl,V9]
theorem WJ {I:Array Oper}{rest:List Oper}{o:Oper}{a:Act}{w:World}{Q:Exit->Act->World->Prop}(N:o.guard=none)(s x:Operand)
  (Y:o.op= .call { callee:=.builtin .append,args:= #[s,x],argTypes:= #[24,3] }) (base g n cap:Nat) (D:List Value) (k:Nat) (F:IntKind) (J:a.eval s= .slice (some ⟨g,0,none⟩) n cap) (L:w.ownsRow base 2 1 (.slice (some ⟨g,0,none⟩) n cap) n D)
  (S:a.eval x= .int F (k:Int)) (V:n+k<=1000000) (X:base<=w.heap.size)
  (h:∀C B w',w'.ownsRow base 2 1 (.slice (some ⟨C,0,none⟩) (n+k) B) (n+k) (D++List.replicate k (.int .i64 0))->w.grownBy w' (some g)->wpList Tryz.prog I Q rest (a.put o.dst (.slice (some ⟨C,0,none⟩) (n+k) B)) w'):wpList Tryz.prog I Q (o::rest) a w:=by
 refine wpList_plain N λK R=>?_;obtain⟨Z,w',O,U,W,C,B,rfl⟩:=jk w base o.type F g n cap D L k V X;unfold Oper.wp execOp;simp only[Y,resolve,invoke,builtin,Sem.run_bind,Sem.run_pure,Mc,Mf,FC,Jb,J,S,O];exact R _ _ (h C B w' U W)
theorem iA {B:Array Oper}{rest:List Oper}{o:Oper}{a:Act}{w:World}{Q:Exit->Act->World->Prop}(C:o.guard=none)(s x:Operand)
  (L:o.op= .call { callee:=.builtin .append,args:= #[s,x],argTypes:= #[24,24] }) (g n cap:Nat) (N:a.eval s= .slice (some ⟨g,0,none⟩) n cap) (J:n<=cap)
  (I:a.eval x= .slice none 0 0) (h:wpList Tryz.prog B Q rest (a.put o.dst (.slice (some ⟨g,0,none⟩) n cap)) w):wpList Tryz.prog B Q (o::rest) a w:=by
 refine wpList_plain C λK F=>?_;obtain⟨V,hi,U,O,S⟩:=Bd Dh;have R:=Tryz.underlying24;have D:(Builtin.append_ #[24,24] o.type #[.slice (some ⟨g,0,none⟩) n cap,.slice none 0 0]).run Tryz.prog w= .ok (.slice (some ⟨g,0,none⟩) n cap) w:=by
  simp[Builtin.append_,run_underlying R,sizeOf,typeInfo,hi,O,Builtin.lenOf,Builtin.firstCells,J,storeCells]
 unfold Oper.wp execOp;simp only[L,resolve,invoke,builtin,Sem.run_bind,Sem.run_pure,Mc,Mf,FC,Jb,N,I,D];exact F _ _ h
theorem R1.TA {B n:Nat}{w:World}{v:Value}{C:List Value}{l:List Int}(h:w.ownsRow B 2 1 v n C)(D:C=vals l):R1 B w n v:=by
 subst D;exact⟨l,by have:=h.1;simpa using this,h⟩
def ShR (m:Nat)(w:World)(e:Ending)(w':World):Prop:=∃g c,e= .returned (.slice (some ⟨g,0,none⟩) m c)/\R1 w.heap.size w' m (.slice (some ⟨g,0,none⟩) m c)/\Below w.heap.size w w'
theorem jl (b m:Nat)(hb:b<=100)(hm:m<=100)(v:Value)(l:List Int)(w:World)(hv:AP Any w v l)(hl:l.length<=100):
  Calls Tryz.prog 184 #[.int .i64 (b:Int),v,.int .i64 (m:Int)] w (ShR (b+l.length+m) w):=by
 obtain⟨i0,hi,y,u,x⟩:=Bd Dh;obtain⟨U,c,rfl,s,N,j,Y⟩:=hv;have HM:=AB N;have W:AP Any w (.slice U l.length c) l:=⟨U,c,rfl,s,N,j,Y⟩;clear N;have r:=AB W;have a0:=Kt b hb w;have a:Own w.heap.size (w.alloc (.cells (madeCells #[.int .i64 0] b) 2)) (.slice (some ⟨w.heap.size,0,none⟩) b b) (List.replicate b 0):=Own.made (B:=w.heap.size) w b AV (by unfold maxLen;omega);have Q:(w.alloc (.cells (madeCells #[.int .i64 0] b) 2)).ownsRow w.heap.size 2 1 (.slice (some ⟨w.heap.size,0,none⟩) b b) b (vals (List.replicate b 0)):=by
  have h:=a;unfold Own at h;rw[Bp]at h;exact h
 have q:=AB (show Below w.heap.size w (w.alloc (.cells (madeCells #[.int .i64 0] b) 2)) from AY.alloc AV _);clear a W Y;cases U with
 |none=>
  obtain rfl:c=0:=j rfl;obtain rfl:l=[]:=Di (by omega);have S:=AB Q;go_enter Tryz.func184,Tryz.ntmps184;go_wp2_with (first|(at_builtin;refine iA rfl _ _ rfl w.heap.size b b rfl AV rfl ?_)|(at_builtin;refine WJ rfl _ _ rfl w.heap.size w.heap.size b b _ m .i64 rfl S.AA rfl (by omega) (by simp) ?_));intro J D w' F I;have R:=AB (show ShR (b+([]:List Int).length+m) w (.returned (.slice (some ⟨J,0,none⟩) (b+m) D)) w' from⟨J,D,rfl,R1.TA (l:=List.replicate (b+m) 0) F (by simp[vals]),q.AA.grown I (by simp) (by intro k C;injection C with C;omega)⟩);clear F I;go_wp2_with fail;go_ret;exact R.AA
 |some ad=>
  have C1:=AB (AP.src (w':=w.alloc (.cells (madeCells #[.int .i64 0] b) 2)) r.AA (AL.alloc _));have C2:=AB (LH l);have C3:=AB (show b+l.length<=maxLen from by unfold maxLen;omega);have C4:=AB (show(b+l.length)*8<=140737488355328 from by omega);have z:=AB (show(vals l).length=l.length*1 by simp[vals]);go_enter Tryz.func184,Tryz.ntmps184;go_wp2_with (at_builtin;refine DR _ rfl _ _ 24 rfl w.heap.size 2 i0 (.int .i64 0) 1 8 Tryz.underlying24 hi y u x rfl (by decide) _ _ _ rfl Q ad l.length c (vals l) rfl z.AA C1.AA C2.AA C3.AA C4.AA (by simp) ?_);intro p w1 K Z V;have i:p≠.slice none 0 0:=V;obtain⟨L,O,rfl⟩:∃L O,p= .slice (some ⟨L,0,none⟩) (b+l.length) O:=by
   rcases K.2 with⟨h,_⟩|⟨g,cap,a1,h,_⟩
   .exact absurd h i
   .exact⟨g,cap,h⟩
  have S:=AB K;have d:=AB (q.AA.grown Z (by simp) (by intro k C;simp[Value.ownBlock]at C;omega));have a2:=(Aq K L rfl).1;have X:=AB d.AA.size;clear K Z V i Q;go_wp2_with (at_builtin;refine WJ rfl _ _ rfl w.heap.size L (b+l.length) O _ m .i64 rfl S.AA rfl (by omega) X.AA ?_);intro J D w' F I;have R:=AB (show ShR (b+l.length+m) w (.returned (.slice (some ⟨J,0,none⟩) (b+l.length+m) D)) w' from⟨J,D,rfl,R1.TA (l:=List.replicate b 0++l++List.replicate m 0) F (by simp[vals]),d.AA.grown I X.AA (by intro k C;injection C with C;omega)⟩);clear F I;go_wp2_with fail;go_ret;exact R.AA
end JN
end Go.Proofs.YtgjadpmbnejaoaaGreat
