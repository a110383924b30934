import Derived.Test.YtaadbccidfdniaaGreatZ0
import Derived.Test.YtaadbccidfdniaaGreatZa
import Derived.Test.YtaadbccidfdniaaGreatZl
import Derived.Lib.Hide
import Derived.Test.YtaadbccidfdniaaGreatZb
import Derived.Deep.RegionLaw
/-
  Lemmas for the law FnCopies, in short spelling.
-/
open Go.Lib (hid)
set_option linter.unusedVariables false
set_option linter.unusedSimpArgs false
set_option maxRecDepth 100000
set_option maxHeartbeats 40000000
namespace Go.Proofs.YtaadbccidfdniaaGreat.Cm
open Go.RowKit Go.Proofs.YtaadbccidfdniaaGreat AB CU
abbrev Any:Nat→Prop:=fun _=>True
def Gd (T:Tw):List Nat:=T.map Lv.o
theorem qB {T:Tw}{i:Nat}{L:Lv}(h:T[i]?=some L):(Gd T)[i]?=some L.o:=by simp[Gd,h]
theorem Xp (T:Tw):(Gd T).length=T.length:=by simp[Gd]
theorem VN (T:Tw):(AQ T).os=ints (Gd T):=by simp[AQ,ints,Gd]
structure Os (T:Tw):Prop where
 len:T.length≤6
 pos:∀L∈T,1≤L.o
 le:sz T≤729
theorem AJ4 {T:Tw}(h:∀L∈T,1≤L.o):1≤sz T:=by
 induction T with
 |nil=>simp[sz]
 |cons L T ih=>exact Nat.mul_pos (h L (by simp)) (ih fun M hM=>h M (by simp[hM]))
theorem Os.get {T:Tw}(h:Os T){i:Nat}{L:Lv}(hL:T[i]?=some L):1≤L.o:=h.pos L (Ak hL)
theorem Os.ABd {T:Tw}(h:Os T)(i:Nat):1≤sz (T.drop i):=AJ4 fun L hL=>h.pos L (KA hL)
theorem Os.of {T:Tw}(hT:Wf T)(hs:Small T)(hz:sz T≤729):Os T:=⟨hs.1,fun L hL=>by
 induction T with
 |nil=>simp at hL
 |cons M T ih=>
  rcases F8.1 hL with rfl|h
  ·have:=hT.1;omega
  ·exact ih hT.2.2.2.2 ⟨by have:=hs.1;simp at this;omega,fun N hN=>hs.2 N (by simp[hN])⟩ (by have:=AAS (M::T) hT 1;simp at this;omega) h,hz⟩
theorem qa (i a:Nat)(y:List Nat):(pad (i+1) y).set i a=pad i (a::y):=by
 unfold pad;rw[List.set_append_left _ _ (by simp),Pp];simp[List.set_append]
theorem wrap_i64 {x:Int}(h1:0≤x)(h2:x≤1000000):wrap64 x=x:=by unfold wrap64;omega
def QB (n:Nat)(w:World)(e:Ending)(w':World):Prop:=e= .returned (.int .i64 (n:Int))∧Below w.heap.size w w'
theorem LJ (T:Tw)(hs:Os T)(w:World)(vO vP vC:Value)(hO:AL Any w vO (ints (Gd T))):
  Calls Tryz.prog 51 #[.agg #[vO,vP,vC]] w (QB (sz T) w):=by
 have hs6:=hs.len;obtain⟨aO,cO,rfl,hc⟩:=hO.open;rw[Xp]at hc hO ⊢;have HO:=hid hO;have HS:=hid hs;clear hO hc hs;go_enter Tryz.func51,Tryz.ntmps51;go_wp2_with fail;go_loopw [3,4] (fun q i wr=>∃k:Nat,k≤T.length∧i= .int .i64 (k:Int)∧∃z:Int,q= .int .i64 z∧0≤z∧z≤729∧Hid (z*(sz (T.drop k):Int)=(sz T:Int))∧Below (w.heap.size+1) (w.alloc (.cells #[.slice aO T.length cO,vP,vC] 28)) wr) (fun _ i _=>T.length-(intOf i).toNat);case atStart=>exact⟨0,AU _,rfl,1,rfl,by omega,by omega,hid (by simp),A7 _ _⟩
 case round=>
  obtain⟨k,hk,rfl,z,rfl,hz1,hz2,hR,hb⟩:=hrel;have HB:=hid hb;obtain⟨e0,e1,e2⟩:=Cq hb;clear hb;by_cases hlt:k<T.length
  ·obtain⟨L,hL⟩:∃L,T[k]?=some L:=⟨_,AO hlt⟩;obtain⟨bO,oO,rfl,_,CQ,BS⟩:=(HO.out.keep (AA.of_below (Dq HB.out))).at (qB hL);have hd:decide ((k:Int)<(T.length:Int))=true:=by simp;omega
   have hE:z*(L.o:Int)*(sz (T.drop (k+1)):Int)=(sz T:Int):=by
    rw[←hR.out,S9 hL];push_cast;rw[Int.mul_assoc]
   have b1:0≤z*(L.o:Int):=Int.mul_nonneg hz1 (by omega);have b2:z*(L.o:Int)≤729:=by
    have h1:=HS.out.ABd (k+1);have h2:z*(L.o:Int)*1≤z*(L.o:Int)*(sz (T.drop (k+1)):Int):=Int.mul_le_mul_of_nonneg_left (by omega) b1;have h3:=HS.out.le;omega
   have HE:=hid hE;clear hE hL;go_wp2_with fail;go_roundw;case rel=>exact⟨k+1,by omega,by go_num,_,rfl,b1,b2,HE,HB.out⟩
   case measure=>simp[intOf];omega
  ·obtain rfl:k=T.length:=by omega
   have hd:decide ((T.length:Int)<(T.length:Int))=false:=by simp
   have hzz:z=(sz T:Int):=by have:=hR.out;rw[Vf]at this;simpa using this
   subst hzz;go_wp2_with fail;go_ret;exact⟨rfl,Dq HB.out⟩
theorem eB (T:Tw)(hs:Os T)(w:World)(vO vP vC vx:Value)(x:List Nat)(hO:AL Any w vO (ints (Gd T)))(hx:AL Any w vx (ints x))(hE:El T x)(hlt:num T x<sz T):
  Calls Tryz.prog 139 #[.agg #[vO,vP,vC],vx] w (QB (num T x) w):=by
 have hs6:=hs.len;obtain⟨aO,cO,rfl,hc⟩:=hO.open;obtain⟨aX,cX,rfl,hcx⟩:=hx.open;have hxl:=AZ hE;rw[Xp]at hc hO ⊢;rw[hxl]at hcx hx ⊢;have HO:=hid hO;have HX:=hid hx;have HS:=hid hs;have HE:=hid hE;have SE:=hid hlt;clear hO hc hs hx hcx hE hlt;go_enter Tryz.func139,Tryz.ntmps139;go_wp2_with fail;go_loopw [5,6] (fun q i wr=>∃k:Nat,k≤T.length∧i= .int .i64 (k:Int)∧∃z:Int,q= .int .i64 z∧0≤z∧Hid (z*(sz (T.drop k):Int)+(num (T.drop k) (x.drop k):Int)=(num T x:Int))∧Below (w.heap.size+1) (w.alloc (.cells #[.slice aO T.length cO,vP,vC] 28)) wr) (fun _ i _=>T.length-(intOf i).toNat);case atStart=>exact⟨0,AU _,rfl,0,rfl,by omega,hid (by simp),A7 _ _⟩
 case round=>
  obtain⟨k,hk,rfl,z,rfl,hz1,hR,hb⟩:=hrel;have HB:=hid hb;obtain⟨e0,e1,e2⟩:=Cq hb;clear hb;by_cases hlt:k<T.length
  ·obtain⟨L,hL⟩:∃L,T[k]?=some L:=⟨_,AO hlt⟩;obtain⟨a,ha⟩:∃a,x[k]?=some a:=⟨_,AO (by omega)⟩;obtain⟨bO,oO,rfl,_,CQ,BS⟩:=(HO.out.keep (AA.of_below (Dq HB.out))).at (qB hL);obtain⟨bX,oX,rfl,_,hbX,Fh⟩:=(HX.out.keep (AA.of_below (Dq HB.out))).at ha;have hd:decide ((k:Int)<(T.length:Int))=true:=by simp;omega
   have hE:(z*(L.o:Int)+(a:Int))*(sz (T.drop (k+1)):Int)+(num (T.drop (k+1)) (x.drop (k+1)):Int)=(num T x:Int):=by
    rw[←hR.out,S9 hL,ABP hL ha];push_cast;rw[Int.add_mul,Int.mul_assoc];omega
   have b1:0≤z*(L.o:Int):=Int.mul_nonneg hz1 (by omega);have b2:z*(L.o:Int)+(a:Int)≤729:=by
    have h1:=HS.out.ABd (k+1);have h2:(z*(L.o:Int)+(a:Int))*1≤(z*(L.o:Int)+(a:Int))*(sz (T.drop (k+1)):Int):=Int.mul_le_mul_of_nonneg_left (by omega) (by omega);have h3:=HS.out.le;have h4:=SE.out;omega
   have HE:=hid hE;clear hE hL ha;go_wp2_with fail;go_quiet (fail);go_wp2_with fail;go_roundw;case rel=>exact⟨k+1,by omega,by go_num,_,rfl,by omega,HE,Dk HB.out nq⟩
   case measure=>simp[intOf];omega
  ·obtain rfl:k=T.length:=by omega
   have hd:decide ((T.length:Int)<(T.length:Int))=false:=by simp
   have hzz:z=(num T x:Int):=by have:=hR.out;rw[Vf,AB5]at this;simpa using this
   subst hzz;go_wp2_with fail;go_ret;exact⟨rfl,Dq HB.out⟩
theorem gH (T:Tw)(hs:T.length≤6)(w:World)(vO vP vC:Value)(hO:AL Any w vO (ints (Gd T))):
  Calls Tryz.prog 52 #[.agg #[vO,vP,vC]] w (Ej (ints (AB.one T)) w):=by
 have hmk:=Dr.Kl T.length hs;obtain⟨aO,cO,rfl,hc⟩:=hO.open;rw[Xp]at hc hO ⊢;have HN:=hid (Own.made (B:=w.heap.size) (w.alloc (.cells #[.slice aO T.length cO,vP,vC] 28)) T.length (by simp) (by unfold maxLen;omega));clear hO hc;go_enter Tryz.func52,Tryz.ntmps52;go_wp2_with fail;go_ret;have h:=HN.out;rw[OX]at h;have hl:(ints (AB.one T)).length=T.length:=by simp[ints,AB.one]
 refine⟨w.heap.size+1,T.length,by rw[hl];rfl,?_,(AX.alloc AR _).alloc (by simp) _⟩;rw[hl];have hz:(w.alloc (.cells #[.slice aO T.length cO,vP,vC] 28)).heap.size=w.heap.size+1:=by simp
 rw[hz]at h;exact h
theorem MZ (T:Tw)(hs:Os T)(hp:∀L∈T,L.o≤1000)(q:Nat)(hq:q≤1000000)(w:World)(vO vP vC:Value)(hO:AL Any w vO (ints (Gd T))):
  Calls Tryz.prog 140 #[.agg #[vO,vP,vC],.int .i64 (q:Int)] w (Ej (ints (at_ T q)) w):=by
 have hs6:=hs.len;have HA:=hid (fun W h=>gH T hs6 W vO vP vC h);obtain⟨aO,cO,rfl,hc⟩:=hO.open;rw[Xp]at hc hO ⊢;rw[Xp]at HA;have HO:=hid hO;have HS:=hid hs;have HQ:=hid hq;clear hO hc hs hq;go_enter Tryz.func140,Tryz.ntmps140;go_wp2_with fail;have HB0:=hid (A7 (w.heap.size+1) (w.alloc (.cells #[.slice aO T.length cO,vP,vC] 28)));refine(HA.out _ (HO.out.keep (AA.of_below (Dq HB0.out)))).mono ?_;rintro e w1 ⟨g,c,rfl,ho,hb⟩;have hl:(ints (AB.one T)).length=T.length:=by simp[ints,AB.one]
 rw[hl]at ho ⊢;have DD:=hid (ho.mono (B':=w.heap.size+1) (by simp));have HB1:=hid (HB0.out.trans (hb.mono (by simp)));have hlt1:=DD.out.lt;clear ho hb hl;go_wp2_with fail;go_loopw [1,6] (fun qv iv wr=>∃k:Nat,k≤T.length∧iv= .int .i64 ((k:Int)-1)∧∃z:Nat,qv= .int .i64 (z:Int)∧Hid (z=q/sz (T.drop k)∧z≤1000000)∧∃x:List Nat,Own (w.heap.size+1) wr (.slice (some ⟨g,0,none⟩) T.length c) (ints x)∧Hid (x=pad k (at_ (T.drop k) q))∧Below (w.heap.size+1) (w.alloc (.cells #[.slice aO T.length cO,vP,vC] 28)) wr) (fun _ iv _=>(intOf iv+1).toNat);case atStart=>exact⟨T.length,Av _,rfl,q,rfl,hid ⟨by rw[Vf];simp,HQ.out⟩,AB.one T,DD.out,hid (by simp[at_,pad,AB.one]),HB1.out⟩
 case round=>
  obtain⟨k,hk,rfl,z,rfl,hz,x,hox,hx,hb⟩:=hrel;have HB:=hid hb;have QZ:=hid hox;obtain⟨e0,e1,e2⟩:=Cq hb;clear hb hox;by_cases h0:k=0
  ·subst h0;have hd:decide (((0:Nat):Int)-1≥0)=false:=by decide
   go_wp2_with fail;go_ret;have SF:x=at_ T q:=by have:=hx.out;simpa[pad]using this
   subst SF;have hl:(ints (at_ T q)).length=T.length:=by rw[BL,VK]
   refine⟨g,c,by rw[hl];rfl,?_,Dq HB.out⟩;rw[hl];exact QZ.out.mono (by omega)
  ·obtain⟨i,rfl⟩:∃i,k=i+1:=⟨k-1,by omega⟩;obtain⟨L,hL⟩:∃L,T[i]?=some L:=⟨_,AO (by omega)⟩;have hii:(((i+1:Nat):Int)-1)=(i:Int):=by omega
   rw[hii];obtain⟨bO,oO,rfl,_,CQ,WN⟩:=HO.out.at (qB hL);have BS:wr.cell? ⟨bO,oO+i,none⟩=some (.int .i64 (L.o:Int)):=by rw[(Dq HB.out).cell CQ];exact WN
   have hgw:=QZ.out.lt;have hbw:bO<wr.heap.size:=Ai CQ (Dq HB.out).size;have hng:bO≠g:=by omega
   have hnw:w.heap.size≠g:=by omega
   have ho1:=HS.out.get hL;have ho2:=hp L (Ak hL);have hxl:x.length=T.length:=by rw[hx.out,Bg,VK,Cx];omega
   obtain⟨xi,hxi⟩:∃a,x[i]?=some a:=⟨_,AO (by omega)⟩;obtain⟨s1,f1⟩:=QZ.out.cell (j:=i) (a:=(xi:Int)) (by rw[Fx,hxi];rfl);have k1:∀u,(wr.setCell ⟨g,i,none⟩ u).cell? ⟨bO,oO+i,none⟩=some (.int .i64 (L.o:Int)):=fun u=>(((AA.refl (· ≠g) wr).setCell (by simp) u).cell hng hbw).trans BS;have k2:∀u,(wr.setCell ⟨g,i,none⟩ u).cell? ⟨w.heap.size,0,none⟩=some (.slice (some ⟨bO,oO,none⟩) T.length cO):=fun u=>(((AA.refl (· ≠g) wr).setCell (by simp) u).cell hnw (by omega)).trans e0;have hb1:(0:Int)≤(z:Int)%(L.o:Int):=Int.emod_nonneg _ (by omega);have hne:((L.o:Int)==0)=false:=by simp;omega
   have EN:=hid hL;have KQ:=hid (show wrap64 ((z:Int)/(L.o:Int))=(z:Int)/(L.o:Int) from by
    have h1:(0:Int)≤(z:Int)/(L.o:Int):=Int.ediv_nonneg (by omega) (by omega);have h2:(z:Int)/(L.o:Int)≤(z:Int):=Int.ediv_le_self _ (by omega);have h3:=hz.out.2;exact wrap_i64 h1 (by omega))
   have HK2:=hid ho2;clear hL h0 hii WN ho2;go_wp2_with fail;go_roundw;case rel=>
    refine⟨i,by omega,rfl,z/L.o,by rw[KQ.out];simp,hid ⟨?_,?_⟩,pad i (at_ (T.drop i) q),?_,hid rfl,HB.out.setCell (by simp;omega) _⟩
    ·rw[hz.out.1,ABQ EN.out]
    ·exact Ad (Nat.div_le_self _ _) hz.out.2
    ·have h:=QZ.out.Nh i (z%L.o);have e:x.set i (z%L.o)=pad i (at_ (T.drop i) q):=by
      rw[hx.out,AB6 EN.out,hz.out.1,qa]
     rw[e]at h;simpa using h.1
   case measure=>simp[intOf]<;>omega
end Go.Proofs.YtaadbccidfdniaaGreat.Cm
namespace Go.Proofs.YtaadbccidfdniaaGreat.Hg
open Go.RowKit Go.Proofs.YtaadbccidfdniaaGreat AB Cu JU Dr Kc
def Pr (T:Tw):Prop:=∀L∈T,L.o=2∨L.o=3∨L.o=5∨L.o=7
theorem AK4 {a p:Nat}(hp:p=2∨p=3∨p=5∨p=7)(ha:a<p)(h0:a≠0):∃c,1≤c∧c<p∧a*c%p=1:=by
 rcases hp with rfl|rfl|rfl|rfl
 ·obtain rfl:a=1:=by omega
  exact⟨1,by omega,by omega,rfl⟩
 ·obtain rfl|rfl:a=1∨a=2:=by omega
  ·exact⟨1,by omega,by omega,rfl⟩
  ·exact⟨2,by omega,by omega,rfl⟩
 ·obtain rfl|rfl|rfl|rfl:a=1∨a=2∨a=3∨a=4:=by omega
  ·exact⟨1,by omega,by omega,rfl⟩
  ·exact⟨3,by omega,by omega,rfl⟩
  ·exact⟨2,by omega,by omega,rfl⟩
  ·exact⟨4,by omega,by omega,rfl⟩
 ·obtain rfl|rfl|rfl|rfl|rfl|rfl:a=1∨a=2∨a=3∨a=4∨a=5∨a=6:=by omega
  ·exact⟨1,by omega,by omega,rfl⟩
  ·exact⟨4,by omega,by omega,rfl⟩
  ·exact⟨5,by omega,by omega,rfl⟩
  ·exact⟨2,by omega,by omega,rfl⟩
  ·exact⟨3,by omega,by omega,rfl⟩
  ·exact⟨6,by omega,by omega,rfl⟩
theorem ACK (a p:Nat)(hp:0<p)(lI:p≤7)(ha:a<p)(w:World):Calls Tryz.prog 178 #[.int .i64 (a:Int),.int .i64 (p:Int)] w fun e w'=>e= .returned (.int .i64 (a:Int))∧w=w':=by
 have h1:(a:Int).tmod (p:Int)=(a:Int):=by rw[YS (by omega)];exact Int.emod_eq_of_lt (by omega) (by omega)
 have h2:((p:Int)==0)=false:=by simp;omega
 have h3:decide ((a:Int)<0)=false:=by simp
 have h4:IntKind.i64.wrap (a:Int)=(a:Int):=AY _ (by omega);go_enter Tryz.func178,Tryz.ntmps178;go_wp2_with fail;go_ret;exact⟨by simp[*],rfl⟩
theorem AJ5 (a p:Nat)(hp:p=2∨p=3∨p=5∨p=7)(ha:a<p)(h0:a≠0)(w:World):Calls Tryz.prog 163 #[.int .i64 (a:Int),.int .i64 (p:Int)] w fun e w'=>(∃c:Nat,e= .returned (.int .i64 (c:Int))∧c<p∧a*c%p=1)∧w=w':=by
 have aZ:=hid (AK4 hp ha h0);have lI:p≤7:=by omega
 have hp0:0<p:=by omega
 clear hp;go_enter Tryz.func163,Tryz.ntmps163;go_wp2_with fail;go_loop [5] (fun v=>∃k:Nat,1≤k∧k≤p∧v= .int .i64 (k:Int)∧Hid (∀c,1≤c→c<k→a*c%p≠1)) (fun v=>p-(intOf v).toNat);case atStart=>exact⟨1,by omega,by omega,rfl,hid (fun c h1 h2=>by omega)⟩
 case round=>
  obtain⟨k,hk1,hk,rfl,hR⟩:=hrel;by_cases hlt:k<p
  ·have hd:decide ((k:Int)<(p:Int))=true:=by simp;omega
   have hz:((p:Int)==0)=false:=by simp;omega
   have hak:a*k≤49:=Nat.mul_le_mul (show a≤7 by omega) (show k≤7 by omega);obtain⟨m,hm⟩:∃m,m=a*k:=⟨_,rfl⟩;obtain⟨r,hr⟩:∃r,r=m%p:=⟨_,rfl⟩;have hrp:r<p:=by rw[hr];exact Nat.mod_lt _ hp0
   have hw1:IntKind.i64.wrap ((a:Int)*(k:Int))=(m:Int):=by rw[←Int.natCast_mul,←hm];exact AY _ (by omega)
   have hw2:(m:Int).tmod (p:Int)=(r:Int):=by rw[YS (by omega),hr];exact(Int.natCast_emod _ _).symm
   have hw3:IntKind.i64.wrap (r:Int)=(r:Int):=AY _ (by omega);have HM:=hid hm;have HRR:=hid hr;clear hm hr hak;by_cases h1:r=1
   ·have hb:((r:Int)==1)=true:=by rw[h1];rfl
    have HK:=hid (show a*k%p=1 by rw[←HM.out,←HRR.out,h1]);clear h1;go_wp2_with (go_at_call 178;refine(ACK a p hp0 lI ha _).mono ?_;rintro e w' ⟨rfl,rfl⟩);go_ret;exact⟨⟨k,rfl,hlt,HK.out⟩,rfl⟩
   ·have hb:((r:Int)==1)=false:=by simp;omega
    have HK:=hid (show a*k%p≠1 by rw[←HM.out,←HRR.out];exact h1);clear h1;go_wp2_with (go_at_call 178;refine(ACK a p hp0 lI ha _).mono ?_;rintro e w' ⟨rfl,rfl⟩);go_round;case rel=>exact⟨k+1,by omega,by omega,by go_num,hid (fun c h1 h2=>by
     rcases EB.1 h2 with h|h
     ·exact hR.out c h1 h
     ·subst h;exact HK.out)⟩
    case measure=>simp[intOf];omega
  ·exfalso;obtain⟨c,h1,h2,h3⟩:=aZ.out;exact hR.out c h1 (by omega) h3
theorem AIj (w:World)(v:Value)(x:List Nat)(hx:AL Any w v (ints x))(d a:Nat)(h0:∀j,j<d→x[j]?=some 0)(ha:x[d]?=some a)(hne:a≠0)(hl:x.length≤1000000):
  Calls Tryz.prog 188 #[v] w fun e w'=>e= .returned (.int .i64 (d:Int))∧w=w':=by
 obtain⟨aX,cX,rfl,hcx⟩:=hx.open;have HX:=hid hx;have H0:=hid h0;have HA:=hid ha;have hdl:d<x.length:=(Ag.1 ha).1;clear hx h0 ha;go_enter Tryz.func188,Tryz.ntmps188;go_wp2_with fail;go_loop [3] (fun v=>∃k:Nat,k≤d∧v= .int .i64 (k:Int)) (fun v=>d+1-(intOf v).toNat);case atStart=>exact⟨0,by omega,rfl⟩
 case round=>
  obtain⟨k,hk,rfl⟩:=hrel;by_cases hlt:k<d
  ·obtain⟨bX,oX,rfl,_,_,Fh⟩:=HX.out.at (H0.out k hlt);go_wp2_with fail;go_round;case rel=>exact⟨k+1,by omega,by go_num⟩
   case measure=>simp[intOf];omega
  ·obtain rfl:k=d:=by omega
   obtain⟨bX,oX,rfl,_,_,Fh⟩:=HX.out.at HA.out;have hn:((a:Int) !=0)=true:=by simp;omega
   go_wp2_with fail;go_ret;exact⟨rfl,rfl⟩
theorem AA0 (w:World)(v:Value)(x:List Nat)(hx:AL Any w v (ints x))(d a:Nat)(h0:∀j,j<d→x[j]?=some 0)(ha:x[d]?=some a)(hne:a≠0)(hl:x.length≤1000000):
  Calls Tryz.prog 177 #[v] w fun e w'=>e= .returned (.int .i64 (d:Int))∧w=w':=by
 have HC:=hid (AIj w v x hx d a h0 ha hne hl);clear hx h0 ha hne;go_enter Tryz.func177,Tryz.ntmps177;go_wp2_with (go_at_call 188;refine HC.out.mono ?_;rintro e w' ⟨rfl,rfl⟩);go_ret;exact⟨rfl,rfl⟩
end Go.Proofs.YtaadbccidfdniaaGreat.Hg
namespace Go.Proofs.YtaadbccidfdniaaGreat.Pz
open Go.RowKit Go.Proofs.YtaadbccidfdniaaGreat AB Cu JU Dr Kc Nk Hg
theorem AHy {L:Lv}{T:Tw}(h:Wf (L::T))(hg:AB.Good (L::T)){x:List Nat}(hx:El T x):Ap (L::T) (0::x)=0::Ap T x:=by
 have ho:=h.1;have h5:=h.2.2.2.2;have hv:=FJ h5 hg.1 hx;refine(fq h hg (x:=0::x) (y:=0::Ap T x) ⟨by omega,hx⟩ ⟨by omega,hv.1⟩ ?_).symm;rw[JN,BD (by omega),it,hv.2.1];rfl
theorem AK5 {L:Lv}{T:Tw}(h:Wf (L::T))(hg:AB.Good T)(k:Nat):it (img T L.c) k (AB.one T)=AB.one T:=by
 have h5:=h.2.2.2.2;have G:=BO h5 hg;have h1:img T L.c (AB.one T)=AB.one T:=by
  have:∀(cs:List (List Nat)) n,BX (mul T) (AB.one T) cs (List.replicate n 0)=AB.one T:=by
   intro cs
   induction cs with
   |nil=>intro n;cases n<;>rfl
   |cons c cs ih=>intro n;cases n with
    |zero=>rfl
    |succ n=>exact ih n
  exact this L.c _
 induction k with
 |zero=>rfl
 |succ k ih=>rw[it,h1,ih]
theorem AIk {L:Lv}{T:Tw}(h:Wf (L::T))(hg:AB.Good (L::T)){a:Nat}(ha0:a≠0){x:List Nat}(hx:El (L::T) (a::x)):
  Ap (L::T) (a::x)=mul (L::T) (mul (L::T) (0::Ap T x) ((L.o-a)::AB.one T)) (0::Ap T L.w)∧El (L::T) ((L.o-a)::AB.one T)∧El (L::T) (0::Ap T x)∧El (L::T) (0::Ap T L.w):=by
 have ho:=h.1;have h5:=h.2.2.2.2;have hw:=h.2.1;have ha:=hx.1;have C9:=hx.2;have G:=BO h5 hg.1;have GG:=BO h hg;have hv:=FJ h5 hg.1 C9;have hvw:=FJ h5 hg.1 hw;have e1:El (L::T) ((L.o-a)::AB.one T):=⟨by omega,D5 h5⟩;have e2:El (L::T) (0::Ap T x):=⟨by omega,hv.1⟩;have e3:El (L::T) (0::Ap T L.w):=⟨by omega,hvw.1⟩;have e4:El (L::T) (a::AB.one T):=⟨ha,D5 h5⟩;have e5:El (L::T) (0::x):=⟨by omega,C9⟩;refine⟨(fq h hg hx (GG.cl (GG.cl e2 e1) e3) ?_).symm,e1,e2,e3⟩;have f1:a::x=mul (L::T) (a::AB.one T) (0::x):=by
  rw[JN,BD (by omega),it,G.eL C9];rfl
 have f2:mul (L::T) (0::x) (0::Ap T x)=AB.one (L::T):=by
  rw[JN,BD (by omega),it,hv.2.1];rfl
 have f3:mul (L::T) (a::AB.one T) ((L.o-a)::AB.one T)=0::L.w:=by
  rw[JN,Bo (by omega),AK5 h hg.1,G.eL G.me,G.eR hw,show a+(L.o-a)-L.o=0 by omega]
 have f4:mul (L::T) (0::L.w) (0::Ap T L.w)=AB.one (L::T):=by
  rw[JN,BD (by omega),it,hvw.2.1];rfl
 rw[f1,←GG.Am (GG.cl e4 e5) (GG.cl e2 e1) e3,GG.Am e4 e5 (GG.cl e2 e1),←GG.Am e5 e2 e1,f2,GG.eL e1,f3,f4]
theorem AJ6 {T:Tw}(h:Wf T)(hg:AB.Good T){x:List Nat}(hx:El T x):El T (Ap T x):=(FJ h hg hx).1
theorem Below.step {B:Nat}{w a b:World}(h:Below B w a)(hB:B≤w.heap.size)(hb:Below a.heap.size a b):Below B w b:=h.trans (hb.mono (Ad hB h.size))
def fI (T:Tw)(i:Nat):Prop:=∀(w:World) (vO vP vC vx:Value) (x:List Nat),BC Any w vO vP vC (AQ T)→AL Any w vx (ints x)→x.length=T.length→El (T.drop i) (x.drop i)→
 Calls Tryz.prog 179 #[.agg #[vO,vP,vC],.int .i64 (i:Int),vx] w (Kk (ints (pad i (Ap (T.drop i) (x.drop i)))) w)
theorem AIl (T:Tw)(hs:Small T):fI T T.length:=by
 intro w vO vP vC vx x hP hx hl hE;have hs6:=hs.1;have hmk:=Kl T.length hs6;obtain⟨aO,cO,aP,cP,aC,cC,rfl,rfl,rfl,Eo,hP1,FC⟩:=hP.open;have HN:=hid (Own.made (B:=w.heap.size) (w.alloc (.cells #[.slice aO T.length cO,.slice aP T.length cP,.slice aC T.length cC] 28)) T.length (by simp) (by unfold maxLen;omega));have HV:=hid (show pad T.length (Ap (T.drop T.length) (x.drop T.length))=List.replicate T.length 0 from by
  rw[Nb];have:El [] (Ap [] (x.drop T.length)):=(FJ (T:=[]) trivial trivial (x:=x.drop T.length) (by rw[←hl,Nb];trivial)).1;cases h:Ap [] (x.drop T.length)with
  |nil=>simp[pad]
  |cons a b=>rw[h]at this;exact this.elim)
 clear hP hx hE;go_enter Tryz.func179,Tryz.ntmps179;go_wp2_with fail;go_ret;have h:=HN.out;rw[OX]at h;rw[HV.out];refine⟨_,rfl,?_,(AX.alloc AR _).alloc (by simp) _⟩;have hz:(w.alloc (.cells #[.slice aO T.length cO,.slice aP T.length cP,.slice aC T.length cC] 28)).heap.size=w.heap.size+1:=by simp
 rw[hz]at h;exact h
theorem AJ7 (T:Tw)(hT:Wf T)(hs:Small T)(i:Nat)(L:Lv)(hL:T[i]?=some L)(hgi:AB.Good (T.drop i))(hF:fI T (i+1)):fI T i:=by
 intro w vO vP vC vx x hP hx hl hE;have hi:i<T.length:=(Ag.1 hL).1;have hs6:=hs.1;have hmk:=Kl T.length hs6;obtain⟨aO,cO,aP,cP,aC,cC,rfl,rfl,rfl,Eo,hP1,FC⟩:=hP.open;obtain⟨aX,cX,rfl,hX1⟩:=hx.open;rw[hl]at hX1 hx ⊢;obtain⟨bO,oO,rfl,_,CQ,BS⟩:=hP.ord hL;obtain⟨bP,oP,uP,rfl,_,FE,hcP,Et⟩:=hP.pow hL;obtain⟨a,ha⟩:∃a,x[i]?=some a:=⟨_,AO (by omega)⟩;obtain⟨bX,oX,rfl,_,hbX,Fh⟩:=hx.at ha;have hd:=Fw hL;have hWd:=FK hT i;rw[hd]at hWd hgi;have hxd:x.drop i=a::x.drop (i+1):=by rw[EX (show i<x.length by omega),(Ag.1 ha).2]
 rw[hd,hxd]at hE;have Cr:L.o≤7:=hs.2 L (Ak hL);have hao:a<L.o:=hE.1;have hlx:(ints x).length=T.length:=by rw[BL];exact hl
 have ADZ:a=0→pad i (Ap (T.drop i) (x.drop i))=pad (i+1) (Ap (T.drop (i+1)) (x.drop (i+1))):=fun h0=>by
  rw[hd,hxd,h0,AHy hWd hgi hE.2,←Qz];rfl
 have I5:∀y:List Nat,pad (i+1) y=pad i (0::y):=fun y=>by rw[←Qz];rfl
 have HP:=hid hP;have HX:=hid hx;have HFR:=hid hF;have HAT:=hid (MZ T hT hs i (DT hi));have GD:=hid Et;have HC:=hid (And.intro BS (And.intro hcP Fh));have Wx:=hid ADZ;have HE:=hid hE;have HW:=hid (And.intro hWd hgi);have HD:=hid hd;have HXD:=hid hxd;have Ci:=hid I5;have Y8:=hid (fun h0=>AIk hWd hgi (a:=a) h0 hE);have En:=hid (FJ hWd.2.2.2.2 hgi.1 hE.2).1;have hHA:=hid ha;clear hP hx hF Et BS hcP Fh ADZ hE hWd hgi hd hxd I5 ha hT hs hL;obtain⟨wb,hwb⟩:∃wb,wb=w.alloc (.cells #[.slice (some ⟨bO,oO,none⟩) T.length cO,.slice (some ⟨bP,oP,none⟩) T.length cP,.slice aC T.length cC] 28):=⟨_,rfl⟩;go_enter Tryz.func179,Tryz.ntmps179;go_upto_region 4 with fail;rw[←hwb];have HB0:=hid (show Below (w.heap.size+1) (w.alloc (.cells #[.slice (some ⟨bO,oO,none⟩) T.length cO,.slice (some ⟨bP,oP,none⟩) T.length cP,.slice aC T.length cC] 28)) wb by rw[hwb];exact A7 _ _);clear hwb;have w6:(i:Int)<(T.length:Int):=by omega
 have w7:(0:Int)≤(i:Int):=by omega
 have w3:IntKind.i64.wrap ((i:Int)+1)=(i:Int)+1:=AY _ (by omega);go_wp2_with fail;refine(NY Any _ _ _ (HX.out.keep (Dc HB0.out Any)) (by omega)).mono ?_;rintro e w1 ⟨g1,c1,rfl,ho1,hb1⟩;rw[hlx]at ho1 ⊢;have hwb:w.heap.size+1≤wb.heap.size:=by have:=HB0.out.size;simp at this;omega
 have HB1:=hid (HB0.out.trans (hb1.mono hwb));have hlt1:=ho1.lt;obtain⟨s1,f1⟩:=ho1.cell (j:=i) (a:=(a:Int)) (by rw[Fx,hHA.out];rfl);obtain⟨hS,hG⟩:=ho1.Nh i 0;have DD:=hid hS;have HB2:=hid (HB1.out.grown hG (by have:=HB1.out.size;simp at this;omega) (by intro k hk;cases hk;omega));obtain⟨e0,e1,e2⟩:=Cq HB1.out;have hne:¬w.heap.size=g1:=by omega
 have hne':¬g1=w.heap.size:=by omega
 clear ho1 hb1 hS hG;go_upto_region 6 with fail;have sI:(x.set i 0).drop (i+1)=x.drop (i+1):=by simp[List.drop_set]
 go_wp2_with fail;refine(HFR.out _ _ _ _ _ (x.set i 0) (HP.out.keep (Dc HB2.out Any)) (DD.out.sl.mono (fun _ _=>trivial)) (by simp[hl]) (by rw[sI];exact HE.out.2)).mono ?_;rintro e w3 ⟨v3,rfl,ho3,hb3⟩;rw[sI]at ho3;have hs1:w.heap.size+1≤w1.heap.size:=by have:=HB1.out.size;simp at this;omega
 have HB3:=hid (HB2.out.trans (hb3.mono (by simp;omega)));have Rm:=hid (ho3.mono (B':=w.heap.size) (by simp;omega));have hk3:=Dc HB3.out Any;have AEi:w3.cell? ⟨bX,oX+i,none⟩=some (.int .i64 (a:Int)):=by rw[hk3.cell trivial hbX];exact HC.out.2.2
 have hs3:w.heap.size+1≤w3.heap.size:=by have:=HB3.out.size;simp at this;omega
 clear ho3 hb3 e0 e1 e2 s1 f1 HB2 DD sI;obtain⟨e0,e1,e2⟩:=Cq HB3.out;by_cases h0:a=0
 ·have hz:((a:Int)==0)=true:=by rw[h0];rfl
  have HR:=hid (Wx.out h0);have OH:=hid (Dq HB3.out);clear hk3;go_wp2_with fail;go_ret;rw[HR.out];exact⟨_,rfl,Rm.out,OH.out⟩
 ·have hz:((a:Int)==0)=false:=by simp;omega
  obtain⟨hv1,hv2,hv3,hv4⟩:=Y8.out h0;have je:w3.cell? ⟨bO,oO+i,none⟩=some (.int .i64 (L.o:Int)):=by rw[hk3.cell trivial CQ];exact HC.out.1
  have AM4:w3.cell? ⟨bP,oP+i,none⟩=some uP:=by rw[hk3.cell trivial FE];exact HC.out.2.1
  have AEj:bO<w3.heap.size:=by omega
  have AM5:bX<w3.heap.size:=by omega
  have APv:bP<w3.heap.size:=by omega
  have Uq:w.heap.size<w3.heap.size:=by omega
  have w1':IntKind.i64.wrap ((L.o:Int)-(a:Int))=((L.o-a:Nat):Int):=by rw[AY _ (by omega)];omega
  obtain⟨w4,hw4⟩:∃w4,w4=w3.alloc (.cells (madeCells #[.int .i64 0] T.length) 2):=⟨_,rfl⟩;have hN:Own w.heap.size w4 (.slice (some ⟨w3.heap.size,0,none⟩) T.length T.length) (ints (List.replicate T.length 0)):=by
   rw[hw4,←OX];exact Own.made (B:=w.heap.size) w3 T.length (by omega) (by unfold maxLen;omega)
  have HV:=hid (And.intro hv1 (And.intro hv2 (And.intro hv3 hv4)));clear hv1 hv2 hv3 hv4;go_upto_region 10 with fail;rw[←hw4];have Bl:=hid (show Below (w.heap.size+1) _ w4 by rw[hw4];exact HB3.out.alloc hs3 _);have k4:AA (fun _=>True) w3 w4:=by rw[hw4];exact AJ.alloc _
  have hs4:w3.heap.size<w4.heap.size:=by rw[hw4];simp
  have AM6:=(k4.cell (b:=bO) (o:=oO+i) trivial AEj).trans je;have AM7:=(k4.cell (b:=bX) (o:=oX+i) trivial AM5).trans AEi;have d0:=(k4.cell (b:=w.heap.size) (o:=0) trivial Uq).trans e0;obtain⟨s4,f4⟩:=hN.cell (j:=i) (a:=0) (by rw[Fx];simp[hi]);obtain⟨hS,hG⟩:=hN.Nh i (L.o-a);have BF:=hid hS;have Zk:=hid hG;have AEk:=hid k4;have hA4:¬w.heap.size=w3.heap.size:=by omega
  have hX4:¬bX=w3.heap.size:=by omega
  have hO4:¬bO=w3.heap.size:=by omega
  clear hw4 hN hS hG k4 hk3 e0 e1 e2 je AEi AM4;go_cut [10] (fun tv W=>tv= .slice (some ⟨w3.heap.size,0,none⟩) T.length T.length∧Hid (W=(w4.setCell ⟨w3.heap.size,i,none⟩ (.int .i64 ((L.o-a:Nat):Int))).drew));case first=>
   go_region_law (fail);all_goals (go_wp2_with fail;go_meet)
   all_goals exact⟨rfl,hid rfl⟩
  case rest=>
   obtain⟨rfl,Ug⟩:=hcut;have Ce:=Ug.out;rename World=>w5;have Qa:Below (w.heap.size+1) (w.alloc (.cells #[.slice (some ⟨bO,oO,none⟩) T.length cO,.slice (some ⟨bP,oP,none⟩) T.length cP,.slice aC T.length cC] 28)) w5:=by
    rw[Ce];exact(Bl.out.grown Zk.out (by have:=Bl.out.size;simp at this;omega) (by intro k hk;cases hk;omega)).drew
   have hT5:Own w.heap.size w5 (.slice (some ⟨w3.heap.size,0,none⟩) T.length T.length) (ints (pad i ((L.o-a)::AB.one (T.drop (i+1))))):=by
    have h:=BF.out.drew;rw[show(List.replicate T.length 0).set i (L.o-a)=pad i ((L.o-a)::AB.one (T.drop (i+1))) from by
     refine TQ (by simp[pad,AB.one];omega) fun j h1 h2=>?_;simp only[pad,AB.one,List.getElem_set,List.getElem_replicate,List.getElem_append,DK];split
     ·next e=>subst e;simp
     ·next e=>
      split
      ·rfl
      ·rw[List.getElem_cons,dif_neg (by omega),List.getElem_replicate]]at h
    rw[Ce];exact h
   have hO5:Own w.heap.size w5 v3 (ints (pad (i+1) (Ap (T.drop (i+1)) (x.drop (i+1))))):=by
    rw[Ce];refine(Rm.out.keep (S:=fun k=>k≠w3.heap.size) (((AEk.out.mono (fun _ _=>trivial)).setCell (by simp) _).drew) (fun k hk=>?_));have:=(Af Rm.out k hk).2;show k≠_;omega
   have hk5:=Dc Qa Any;obtain⟨e0,e1,e2⟩:=Cq Qa;have hs5:w.heap.size+1≤w5.heap.size:=by have:=Qa.size;simp at this;omega
   have APw:=(hk5.cell (b:=bP) (o:=oP+i) trivial FE).trans HC.out.2.1;have APx:bP<w5.heap.size:=by omega
   have APy:w.heap.size<w5.heap.size:=by omega
   have Dx:=hid (HP.out.keep hk5);have yN:=hid (GD.out.keep hk5);have Z4:=hid (hT5.sl.mono (S':=Any) (fun _ _=>trivial));have HV5:=hid (hO5.sl.mono (S':=Any) (fun _ _=>trivial));have Aa:=hid Qa;have L1:=hid (show(pad (i+1) (Ap (T.drop (i+1)) (x.drop (i+1)))).length=T.length by rw[Bg,AZ En.out];simp;omega);have L2:=hid (show(pad i ((L.o-a)::AB.one (T.drop (i+1)))).length=T.length by rw[Bg];simp[AB.one];omega);have L3:=hid (show(pad (i+1) L.w).length=T.length by rw[Bg,AZ HW.out.1.2.1];simp;omega);have F1:=hid (show El (T.drop i) ((pad (i+1) (Ap (T.drop (i+1)) (x.drop (i+1)))).drop i) by rw[Ci.out,BJ,HD.out];exact HV.out.2.2.1);have F2:=hid (show El (T.drop i) ((pad i ((L.o-a)::AB.one (T.drop (i+1)))).drop i) by rw[BJ,HD.out];exact HV.out.2.1);have F3:=hid (show El (T.drop (i+1)) ((pad (i+1) L.w).drop (i+1)) by rw[BJ];exact HW.out.1.2.1);have F4:=hid (show El (T.drop i) (mul (T.drop i) ((pad (i+1) (Ap (T.drop (i+1)) (x.drop (i+1)))).drop i) ((pad i ((L.o-a)::AB.one (T.drop (i+1)))).drop i)) by rw[HD.out]at *; exact C8 HW.out.1 F1.out F2.out);have F5:=hid (show El (T.drop i) ((pad (i+1) (Ap (T.drop (i+1)) ((pad (i+1) L.w).drop (i+1)))).drop i) by rw[BJ,Ci.out,BJ,HD.out];exact HV.out.2.2.2);clear Ce Ug Qa hT5 hO5 hk5 BF Zk AEk Bl Rm HB3 HB1 d0 s4 f4 AM6 AM7 HC;go_wp2_with fail;go_region_held3 (fun w'=>(∀b o,b<w5.heap.size→w'.cell? ⟨b,o,none⟩=w5.cell? ⟨b,o,none⟩)∧AA (fun _=>True) w5 w')
    (first|exact Au (by repeat(first|exact AJ.drew|exact AA.refl _ _|refine AA.trans ?_ (AA.of_below (by assumption)))))
    (first|(go_at_call_of 168 v3;refine(HAT.out _ _ _ _ v3 (.slice (some ⟨w3.heap.size,0,none⟩) T.length T.length) _ _ (Dx.out.keep (by repeat(first|exact AJ.drew|exact AA.refl _ _|exact AJ.alloc _|exact(AJ.alloc _).drew|refine AA.trans ?_ (AA.of_below (by assumption))))) (HV5.out.keep (by repeat(first|exact AJ.drew|exact AA.refl _ _|exact AJ.alloc _|exact(AJ.alloc _).drew|refine AA.trans ?_ (AA.of_below (by assumption))))) (Z4.out.keep (by repeat(first|exact AJ.drew|exact AA.refl _ _|exact AJ.alloc _|exact(AJ.alloc _).drew|refine AA.trans ?_ (AA.of_below (by assumption))))) L1.out L2.out F1.out F2.out).mono ?_;rintro e w6 ⟨v6,rfl,A8,hb6⟩)|(go_at_call 179;refine(HFR.out _ _ _ _ uP _ (Dx.out.keep (by repeat(first|exact AJ.drew|exact AA.refl _ _|exact AJ.alloc _|exact(AJ.alloc _).drew|refine AA.trans ?_ (AA.of_below (by assumption))))) (yN.out.keep (by repeat(first|exact AJ.drew|exact AA.refl _ _|exact AJ.alloc _|exact(AJ.alloc _).drew|refine AA.trans ?_ (AA.of_below (by assumption))))) L3.out F3.out).mono ?_;rintro e w7 ⟨v7,rfl,Cr,Cz⟩)|(go_at_call_of 168 v7;refine(HAT.out _ _ _ _ v6 v7 _ _ (Dx.out.keep (by repeat(first|exact AJ.drew|exact AA.refl _ _|exact AJ.alloc _|exact(AJ.alloc _).drew|refine AA.trans ?_ (AA.of_below (by assumption))))) ((A8.sl.mono (fun _ _=>trivial)).keep (by repeat(first|exact AJ.drew|exact AA.refl _ _|exact AJ.alloc _|exact(AJ.alloc _).drew|refine AA.trans ?_ (AA.of_below (by assumption))))) ((Cr.sl.mono (fun _ _=>trivial)).keep (by repeat(first|exact AJ.drew|exact AA.refl _ _|exact AJ.alloc _|exact(AJ.alloc _).drew|refine AA.trans ?_ (AA.of_below (by assumption))))) (by rw[Bg,AZ F4.out];simp;omega) (by rw[Bg,BJ,AZ (AJ6 HW.out.1.2.2.2.2 HW.out.2.1 HW.out.1.2.1)];simp;omega) (by rw[BJ];exact F4.out) F5.out).mono ?_;rintro e w8 ⟨v8,rfl,FI,CJ⟩))
   have hs7:w.heap.size≤w7.heap.size:=by
    have:=(show AA (fun _=>True) w5 w7 from(by repeat(first|exact AJ.drew|exact AA.refl _ _|exact AJ.alloc _|exact(AJ.alloc _).drew|refine AA.trans ?_ (AA.of_below (by assumption))))).size;omega
   have Cb:=hid (Dq (show Below (w.heap.size+1) _ w8 from(by repeat(first|exact Aa.out|exact Aa.out.drew|refine Below.step ?_ (by simp) (by assumption)))));have Lt:=hid (FI.mono hs7);have e1:(pad (i+1) (Ap (T.drop (i+1)) (x.drop (i+1)))).drop i=0::Ap (T.drop (i+1)) (x.drop (i+1)):=by rw[Ci.out,BJ]
   have e4:(pad (i+1) (Ap (T.drop (i+1)) L.w)).drop i=0::Ap (T.drop (i+1)) L.w:=by rw[Ci.out,BJ]
   have HQ:=hid (show mul (T.drop i) ((pad i (mul (T.drop i) ((pad (i+1) (Ap (T.drop (i+1)) (x.drop (i+1)))).drop i) ((pad i ((L.o-a)::AB.one (T.drop (i+1)))).drop i))).drop i) ((pad (i+1) (Ap (T.drop (i+1)) ((pad (i+1) L.w).drop (i+1)))).drop i)=Ap (T.drop i) (x.drop i) by
    rw[BJ (i+1) L.w,e4,e1,BJ,BJ,HD.out,HXD.out];exact HV.out.1.symm)
   clear A8 Cr FI hb6 Cz CJ e1 e4;go_wp2_with fail;go_ret;refine⟨_,rfl,?_,Cb.out⟩;have h:=Lt.out;rwa[HQ.out]at h
theorem Xy (T:Tw)(hT:Wf T)(hs:Small T)(hg:AB.Good T)(m:Nat):∀i,T.length-i=m→i≤T.length→fI T i:=by
 induction m with
 |zero=>
  intro i hm hi;obtain rfl:i=T.length:=by omega
  exact AIl T hs
 |succ m ih=>
  intro i hm hi;obtain⟨L,hL⟩:∃L,T[i]?=some L:=⟨_,AO (by omega)⟩;exact AJ7 T hT hs i L hL (PZ hg i) (ih (i+1) (by omega) (by omega))
theorem ABe (T:Tw)(hT:Wf T)(hs:Small T)(hg:AB.Good T)(w:World)(vO vP vC vx:Value)(x:List Nat)(hP:BC Any w vO vP vC (AQ T))(hx:AL Any w vx (ints x))(hE:El T x):
  Calls Tryz.prog 167 #[.agg #[vO,vP,vC],vx] w (Kk (ints (Ap T x)) w):=by
 have HP:=hid hP;have HX:=hid hx;have HE:=hid hE;have HF:=hid (Xy T hT hs hg T.length 0 (by omega) (AU _));clear hP hx hE;go_enter Tryz.func167,Tryz.ntmps167;go_wp2_with fail;refine(HF.out _ _ _ _ _ x (HP.out.keep (AJ.alloc _)) (HX.out.keep (AJ.alloc _)) (AZ HE.out) HE.out).mono ?_;rintro e w2 ⟨v2,rfl,ho,hb⟩;have HO:=hid (ho.mono (B':=w.heap.size) (by simp));have HB2:=hid (((A7 w.heap.size w).alloc AR _).trans (hb.mono (by simp)));clear ho hb;go_wp2_with fail;go_ret;exact⟨_,rfl,HO.out,HB2.out⟩
end Go.Proofs.YtaadbccidfdniaaGreat.Pz
namespace Go.Proofs.YtaadbccidfdniaaGreat.V4
open Go.RowKit Go.Proofs.YtaadbccidfdniaaGreat AB Cu JU Dr Kc Nk Hg Pz
theorem AIm (T:Tw)(hT:Wf T)(hs:Small T)(hg:AB.Good T)(w:World)(vO vP vC vx vy:Value)(x y:List Nat)(hP:BC Any w vO vP vC (AQ T))(hx:AL Any w vx (ints x))(hy:AL Any w vy (ints y))(C9:El T x)(EF:El T y):
  Calls Tryz.prog 164 #[.agg #[vO,vP,vC],vx,vy] w (Kk (ints (Gen.CF (mul T) (Ap T) x y)) w):=by
 have HP:=hid hP;have HX:=hid hx;have HY:=hid hy;have DN:=hid C9;have FN:=hid EF;have HM:=hid (fun W va vb a b hP ha hb hA hB=>YC T hT hs W vO vP vC va vb a b hP ha hb hA hB);have HI:=hid (fun W va a hP ha hA=>ABe T hT hs hg W vO vP vC va a hP ha hA);have O3:=hid (C8 hT EF C9);have HE2:=hid (C8 hT C9 EF);have HE3:=hid (FJ hT hg (C8 hT EF C9)).1;obtain⟨wb,hwb⟩:∃wb,wb=w.alloc (.cells #[vO,vP,vC] 28):=⟨_,rfl⟩;clear hP hx hy C9 EF;go_enter Tryz.func164,Tryz.ntmps164;go_upto_region 1 with fail;rw[←hwb];have HB0:=hid (show Below w.heap.size w wb by rw[hwb];exact AX.alloc AR _);obtain⟨e0,e1,e2⟩:=Cq (w:=w) (wr:=wb) (by rw[hwb];exact A7 _ _);have hsz:w.heap.size<wb.heap.size:=by rw[hwb];simp
 have Ur:=hid (HP.out.keep (w':=wb) (by rw[hwb];exact AJ.alloc _));have mI:=hid (HX.out.keep (w':=wb) (by rw[hwb];exact AJ.alloc _));have HYb:=hid (HY.out.keep (w':=wb) (by rw[hwb];exact AJ.alloc _));clear hwb HP HX HY;go_region_held3 (fun w'=>(∀b o,b<wb.heap.size→w'.cell? ⟨b,o,none⟩=wb.cell? ⟨b,o,none⟩)∧AA (fun _=>True) wb w')
  (first|exact Au (by repeat(first|exact AJ.drew|exact AA.refl _ _|refine AA.trans ?_ (AA.of_below (by assumption)))))
  (first|(go_at_call_of 143 v7;refine(HM.out _ v6 v7 _ _ (Ur.out.keep (by repeat(first|exact AJ.drew|exact AA.refl _ _|exact AJ.alloc _|exact(AJ.alloc _).drew|refine AA.trans ?_ (AA.of_below (by assumption))))) ((A8.sl.mono (fun _ _=>trivial)).keep (by repeat(first|exact AJ.drew|exact AA.refl _ _|exact AJ.alloc _|exact(AJ.alloc _).drew|refine AA.trans ?_ (AA.of_below (by assumption))))) ((Cr.sl.mono (fun _ _=>trivial)).keep (by repeat(first|exact AJ.drew|exact AA.refl _ _|exact AJ.alloc _|exact(AJ.alloc _).drew|refine AA.trans ?_ (AA.of_below (by assumption))))) HE3.out HE2.out).mono ?_;rintro e w8 ⟨v8,rfl,FI,CJ⟩)|(have g6:=hb6;clear g6;go_at_call 143;refine(HM.out _ vx vy x y (Ur.out.keep (by repeat(first|exact AJ.drew|exact AA.refl _ _|exact AJ.alloc _|exact(AJ.alloc _).drew|refine AA.trans ?_ (AA.of_below (by assumption))))) (mI.out.keep (by repeat(first|exact AJ.drew|exact AA.refl _ _|exact AJ.alloc _|exact(AJ.alloc _).drew|refine AA.trans ?_ (AA.of_below (by assumption))))) (HYb.out.keep (by repeat(first|exact AJ.drew|exact AA.refl _ _|exact AJ.alloc _|exact(AJ.alloc _).drew|refine AA.trans ?_ (AA.of_below (by assumption))))) DN.out FN.out).mono ?_;rintro e w7 ⟨v7,rfl,Cr,Cz⟩)|(go_at_call 167;refine(HI.out _ v5 _ (Ur.out.keep (by repeat(first|exact AJ.drew|exact AA.refl _ _|exact AJ.alloc _|exact(AJ.alloc _).drew|refine AA.trans ?_ (AA.of_below (by assumption))))) ((Aw.sl.mono (fun _ _=>trivial)).keep (by repeat(first|exact AJ.drew|exact AA.refl _ _|exact AJ.alloc _|exact(AJ.alloc _).drew|refine AA.trans ?_ (AA.of_below (by assumption))))) O3.out).mono ?_;rintro e w6 ⟨v6,rfl,A8,hb6⟩)|(go_at_call 143;refine(HM.out _ vy vx y x (Ur.out.keep (by repeat(first|exact AJ.drew|exact AA.refl _ _|exact AJ.alloc _|exact(AJ.alloc _).drew|refine AA.trans ?_ (AA.of_below (by assumption))))) (HYb.out.keep (by repeat(first|exact AJ.drew|exact AA.refl _ _|exact AJ.alloc _|exact(AJ.alloc _).drew|refine AA.trans ?_ (AA.of_below (by assumption))))) (mI.out.keep (by repeat(first|exact AJ.drew|exact AA.refl _ _|exact AJ.alloc _|exact(AJ.alloc _).drew|refine AA.trans ?_ (AA.of_below (by assumption))))) FN.out DN.out).mono ?_;rintro e w5 ⟨v5,rfl,Aw,hb5⟩))
 have hs7:w.heap.size≤w7.heap.size:=by
  have:=(show AA (fun _=>True) wb w7 from(by repeat(first|exact AJ.drew|exact AA.refl _ _|exact AJ.alloc _|exact(AJ.alloc _).drew|refine AA.trans ?_ (AA.of_below (by assumption))))).size;omega
 have Aa:=HB0;have Cb:=hid (show Below w.heap.size w w8 from(by repeat(first|exact Aa.out|exact Aa.out.drew|refine Below.step ?_ (by simp) (by assumption))));have Lt:=hid (FI.mono hs7);clear Aw A8 Cr FI hb5 hb6 Cz CJ;go_wp2_with fail;go_ret;exact⟨_,rfl,Lt.out,Cb.out⟩
theorem ny (T:Tw)(hT:Wf T)(hs:Small T)(hg:AB.Good T)(w:World)(vO vP vC vx:Value)(x:List Nat)(K:Nat)(hK:K≤1000)(hP:BC Any w vO vP vC (AQ T))(hx:AL Any w vx (ints x))(hE:El T x):
  Calls Tryz.prog 142 #[.agg #[vO,vP,vC],vx,.int .i64 (K:Int)] w (Kk (ints (npow (mul T) (AB.one T) x K)) w):=by
 have HP:=hid hP;have HX:=hid hx;have HE:=hid hE;have hd:decide ((K:Int)<0)=false:=by simp
 have HR:=hid (fun W hP hx=>ou T hT hs 0 K (AU _) hg hK W vO vP vC vx x hP hx (AZ hE) hE);clear hP hx hE;go_enter Tryz.func142,Tryz.ntmps142;go_wp2_with fail;refine(HR.out _ (HP.out.keep (AJ.alloc _)) (HX.out.keep (AJ.alloc _))).mono ?_;rintro e w2 ⟨v2,rfl,ho,hb⟩;have HO:=hid (ho.mono (B':=w.heap.size) (by simp));have HB2:=hid (((A7 w.heap.size w).alloc AR _).trans (hb.mono (by simp)));clear ho hb;go_wp2_with fail;go_ret;exact⟨_,rfl,HO.out,HB2.out⟩
theorem AAW (T:Tw)(hT:Wf T)(hs:Small T)(hg:AB.Good T)(w:World)(vO vP vC vx:Value)(x:List Nat)(K:Nat)(hK:K≤1000)(mJ:0<K)(hP:BC Any w vO vP vC (AQ T))(hx:AL Any w vx (ints x))(hE:El T x):
  Calls Tryz.prog 142 #[.agg #[vO,vP,vC],vx,.int .i64 (-(K:Int))] w (Kk (ints (npow (mul T) (AB.one T) (Ap T x) K)) w):=by
 have HP:=hid hP;have HX:=hid hx;have HE:=hid hE;have O3:=hid (FJ hT hg hE).1;have hd:decide (-(K:Int)<0)=true:=by simp;omega
 have hw:IntKind.i64.wrap (-(-(K:Int)))=(K:Int):=by rw[AY _ (by omega)];omega
 have hw2:IntKind.i64.wrap (K:Int)=(K:Int):=AY _ (by omega);have HI:=hid (fun W va a hP ha hA=>ABe T hT hs hg W vO vP vC va a hP ha hA);have HR:=hid (fun W va hP hx=>ou T hT hs 0 K (AU _) hg hK W vO vP vC va (Ap T x) hP hx (AZ O3.out) O3.out);obtain⟨wb,hwb⟩:∃wb,wb=w.alloc (.cells #[vO,vP,vC] 28):=⟨_,rfl⟩;clear hP hx hE;go_enter Tryz.func142,Tryz.ntmps142;go_upto_region 2 with fail;rw[←hwb];have Aa:=hid (show Below w.heap.size w wb by rw[hwb];exact AX.alloc AR _);obtain⟨e0,e1,e2⟩:=Cq (w:=w) (wr:=wb) (by rw[hwb];exact A7 _ _);have hsz:w.heap.size<wb.heap.size:=by rw[hwb];simp
 have Ur:=hid (HP.out.keep (w':=wb) (by rw[hwb];exact AJ.alloc _));have mI:=hid (HX.out.keep (w':=wb) (by rw[hwb];exact AJ.alloc _));clear hwb HP HX;go_region_held3 (fun w'=>(∀b o,b<wb.heap.size→w'.cell? ⟨b,o,none⟩=wb.cell? ⟨b,o,none⟩)∧AA (fun _=>True) wb w')
  (first|exact Au (by repeat(first|exact AJ.drew|exact AA.refl _ _|refine AA.trans ?_ (AA.of_below (by assumption)))))
  (first|(go_at_call 167;refine(HI.out _ vx _ (Ur.out.keep (by repeat(first|exact AJ.drew|exact AA.refl _ _|exact AJ.alloc _|exact(AJ.alloc _).drew|refine AA.trans ?_ (AA.of_below (by assumption))))) (mI.out.keep (by repeat(first|exact AJ.drew|exact AA.refl _ _|exact AJ.alloc _|exact(AJ.alloc _).drew|refine AA.trans ?_ (AA.of_below (by assumption))))) HE.out).mono ?_;rintro e w6 ⟨v6,rfl,A8,hb6⟩)|(go_at_call_of 166 (Value.int .i64 (K:Int));refine(HR.out _ v6 (Ur.out.keep (by repeat(first|exact AJ.drew|exact AA.refl _ _|exact AJ.alloc _|exact(AJ.alloc _).drew|refine AA.trans ?_ (AA.of_below (by assumption))))) ((A8.sl.mono (fun _ _=>trivial)).keep (by repeat(first|exact AJ.drew|exact AA.refl _ _|exact AJ.alloc _|exact(AJ.alloc _).drew|refine AA.trans ?_ (AA.of_below (by assumption)))))).mono ?_;rintro e w8 ⟨v8,rfl,FI,CJ⟩))
 have hs7:w.heap.size≤w6.heap.size:=by
  have:=(show AA (fun _=>True) wb w6 from(by repeat(first|exact AJ.drew|exact AA.refl _ _|exact AJ.alloc _|exact(AJ.alloc _).drew|refine AA.trans ?_ (AA.of_below (by assumption))))).size;omega
 have Cb:=hid (show Below w.heap.size w w8 from(by repeat(first|exact Aa.out|exact Aa.out.drew|refine Below.step ?_ (by simp) (by assumption))));have Lt:=hid (FI.mono hs7);clear A8 FI hb6 CJ;go_wp2_with fail;go_ret;exact⟨_,rfl,Lt.out,Cb.out⟩
end Go.Proofs.YtaadbccidfdniaaGreat.V4
namespace Go.Proofs.YtaadbccidfdniaaGreat.Oe
open Go.RowKit Go.Proofs.YtaadbccidfdniaaGreat AB Cu JU Dr Kc Nk Hg Pz V4
theorem AHS {T:Tw}(G:CV (El T) (mul T) (AB.one T)){us:List (List Nat)}{es:List Nat}{k a:Nat}{u:List Nat}(hu:us[k]?=some u)(ha:es[k]?=some a)(ES:∀u∈us,El T u):
  BX (mul T) (AB.one T) (us.take (k+1)) (es.take (k+1))=mul T (BX (mul T) (AB.one T) (us.take k) (es.take k)) (npow (mul T) (AB.one T) u a)∧El T (BX (mul T) (AB.one T) (us.take k) (es.take k)):=by
 have hE:El T (BX (mul T) (AB.one T) (us.take k) (es.take k)):=Sq (El T) (mul T) (fun _ _ p q=>G.cl p q) _ (fun c hc=>ES c (Vo hc)) _ _ G.me;refine⟨?_,hE⟩;rw[AAc (mul T) (AB.one T) us es k a u hu ha,G.rD (ES u (Ak hu)) hE]
theorem AP.Pn {S:Nat→Prop}{w:World}{v:Value}{rows:List (List Nat)}(h:AP S w v (rows.map ints)){k:Nat}{r:List Nat}(hr:rows[k]?=some r):
  ∃b o c u,v= .slice (some ⟨b,o,none⟩) rows.length c∧b<w.heap.size∧w.cell? ⟨b,o+k,none⟩=some u∧AL S w u (ints r):=by
 obtain⟨ao,c,h1,h2,h3,h0,h4⟩:=h;obtain⟨b,o,e1,_,e3,u,e4,e5⟩:=h4 k (ints r) (by simp[hr]);exact⟨b,o,c,u,by rw[h1,e1,Bh],e3,e4,e5⟩
theorem AP.form {S:Nat→Prop}{w:World}{v:Value}{rows:List (List Nat)}(h:AP S w v (rows.map ints)):∃a c,v= .slice a rows.length c:=by
 obtain⟨ao,c,h1,_⟩:=h;exact⟨ao,c,by rw[h1,Bh]⟩
theorem OY (T:Tw)(hT:Wf T)(hs:Small T)(hg:AB.Good T)(w:World)(vO vP vC vu va:Value)(us:List (List Nat))(es:List Nat)(hP:BC Any w vO vP vC (AQ T))(hu:AP Any w vu (us.map ints))(ha:AL Any w va (ints es))(hl:us.length≤es.length)(Gj:us.length≤1000)(ES:∀u∈us,El T u)(has:∀a∈es,a≤1000):
  Calls Tryz.prog 159 #[.agg #[vO,vP,vC],vu,va] w (Kk (ints (BX (mul T) (AB.one T) us es)) w):=by
 have HP:=hid hP;have HU:=hid hu;have HA:=hid ha;have Kz:=hid ES;have HAS:=hid has;have HG:=hid (BO hT hg);have HM:=hid (fun W va vb a b hP ha hb hA hB=>YC T hT hs W vO vP vC va vb a b hP ha hb hA hB);have DY:=hid (fun W va a K hK hP ha hA=>ny T hT hs hg W vO vP vC va a K hK hP ha hA);have WO:=hid (fun W hO=>Cm.gH T hs.1 W vO vP vC hO);obtain⟨aU,cU,rfl⟩:=AP.form hu;obtain⟨aA,cA,rfl,_⟩:=ha.open;have hou:(AQ T).os=ints (Cm.Gd T):=Cm.VN T;have Gh:=hid hou;clear hP hu ha ES has hou;go_enter Tryz.func159,Tryz.ntmps159;go_wp2_with fail;refine(WO.out _ (by have h:=(HP.out.keep (w':=w.alloc (.cells #[vO,vP,vC] 28)) (AJ.alloc _)).os;rwa[Gh.out]at h)).mono ?_;rintro e w1 ⟨g1,c1,rfl,ho1,hb1⟩;have HB1:=hid (show Below (w.heap.size+1) (w.alloc (.cells #[vO,vP,vC] 28)) w1 from hb1.mono (by simp));have DD:=hid (ho1.mono (B':=w.heap.size) (by simp));clear ho1 hb1;go_wp2_with fail;go_loopw [7,8] (fun ov iv wr=>∃k:Nat,k≤us.length∧iv= .int .i64 (k:Int)∧Hid (Own w.heap.size wr ov (ints (BX (mul T) (AB.one T) (us.take k) (es.take k))))∧Below (w.heap.size+1) (w.alloc (.cells #[vO,vP,vC] 28)) wr) (fun _ iv _=>us.length-(intOf iv).toNat);case atStart=>exact⟨0,AU _,rfl,hid (by rw[List.take_zero,List.take_zero];exact DD.out),HB1.out⟩
 case round=>
  obtain⟨k,hk,rfl,hO,hB⟩:=hrel;have Aa:=hid hB;have hk5:=Dc hB Any;obtain⟨e0,e1,e2⟩:=Cq hB;have hsw:w.heap.size+1≤wr.heap.size:=by have:=hB.size;simp at this;omega
  clear hB;by_cases hlt:k<us.length
  ·obtain⟨u,hu⟩:∃u,us[k]?=some u:=⟨_,AO hlt⟩;obtain⟨a,ha⟩:∃a,es[k]?=some a:=⟨_,AO (by omega)⟩;obtain⟨bU,oU,OI,vr,he,EU,Db,hrU⟩:=AP.Pn HU.out hu;obtain⟨rfl,rfl⟩:aU=some ⟨bU,oU,none⟩∧cU=OI:=by simpa using he
   obtain⟨bA,oA,rfl,_,Rn,hcA⟩:=HA.out.at ha;have Y9:=(hk5.cell (b:=bU) (o:=oU+k) trivial EU).trans Db;have APz:=(hk5.cell (b:=bA) (o:=oA+k) trivial Rn).trans hcA;have Uq:w.heap.size<wr.heap.size:=by omega
   have AEl:bU<wr.heap.size:=by omega
   have AP0:bA<wr.heap.size:=by omega
   have ha6:a≤1000:=HAS.out a (Ak ha);have hst:=AHS HG.out hu ha Kz.out;have HST:=hid hst;have EO:=hid (Kz.out u (Ak hu));have Qb:=hid (HG.out.npow EO.out a);have Dx:=hid (HP.out.keep hk5);have OC:=hid (AL.keep hrU hk5);have Ch:=hid (hO.out.sl.mono (S':=Any) (fun _ _=>trivial));have hkl:(k:Int)<(us.length:Int):=by omega
   have AM8:(k:Int)<(es.length:Int):=by omega
   have hk0:(0:Int)≤(k:Int):=by omega
   clear hst hu ha he hrU Db hcA hk5;go_wp2_with fail;go_region_held3 (fun w'=>(∀b o,b<wr.heap.size→w'.cell? ⟨b,o,none⟩=wr.cell? ⟨b,o,none⟩)∧AA (fun _=>True) wr w')
    (first|exact Au (by repeat(first|exact AJ.drew|exact AA.refl _ _|refine AA.trans ?_ (AA.of_below (by assumption)))))
    (first|(go_at_call 142;refine(DY.out _ vr u a ha6 (Dx.out.keep (by repeat(first|exact AJ.drew|exact AA.refl _ _|exact AJ.alloc _|exact(AJ.alloc _).drew|refine AA.trans ?_ (AA.of_below (by assumption))))) (OC.out.keep (by repeat(first|exact AJ.drew|exact AA.refl _ _|exact AJ.alloc _|exact(AJ.alloc _).drew|refine AA.trans ?_ (AA.of_below (by assumption))))) EO.out).mono ?_;rintro e w6 ⟨v6,rfl,A8,hb6⟩)|(go_at_call_of 143 v6;refine(HM.out _ _ v6 _ _ (Dx.out.keep (by repeat(first|exact AJ.drew|exact AA.refl _ _|exact AJ.alloc _|exact(AJ.alloc _).drew|refine AA.trans ?_ (AA.of_below (by assumption))))) (Ch.out.keep (by repeat(first|exact AJ.drew|exact AA.refl _ _|exact AJ.alloc _|exact(AJ.alloc _).drew|refine AA.trans ?_ (AA.of_below (by assumption))))) ((A8.sl.mono (fun _ _=>trivial)).keep (by repeat(first|exact AJ.drew|exact AA.refl _ _|exact AJ.alloc _|exact(AJ.alloc _).drew|refine AA.trans ?_ (AA.of_below (by assumption))))) HST.out.2 Qb.out).mono ?_;rintro e w8 ⟨v8,rfl,FI,CJ⟩))
   have hs7:w.heap.size≤w6.heap.size:=by
    have:=(show AA (fun _=>True) wr w6 from(by repeat(first|exact AJ.drew|exact AA.refl _ _|exact AJ.alloc _|exact(AJ.alloc _).drew|refine AA.trans ?_ (AA.of_below (by assumption))))).size;omega
   have Cb:=hid (show Below (w.heap.size+1) (w.alloc (.cells #[vO,vP,vC] 28)) w8 from(by repeat(first|exact Aa.out|exact Aa.out.drew|refine Below.step ?_ (by simp) (by assumption))));rw[←HST.out.1]at FI;have Lt:=hid (FI.mono hs7);clear A8 FI hb6 CJ;go_wp2_with fail;go_roundw;case rel=>exact⟨k+1,by omega,by go_num,Lt,Cb.out⟩
   case measure=>simp[intOf];omega
  ·obtain rfl:k=us.length:=by omega
   have OH:=hid (Dq Aa.out);have HE:=hid (show BX (mul T) (AB.one T) (us.take us.length) (es.take us.length)=BX (mul T) (AB.one T) us es from by
    rw[KC];have:∀(us:List (List Nat)) (es:List Nat) (x:List Nat),us.length≤es.length→BX (mul T) x us (es.take us.length)=BX (mul T) x us es:=by
     intro us
     induction us with
     |nil=>intro es x _;cases es<;>rfl
     |cons u us ih=>intro es x h;cases es with
      |nil=>simp at h
      |cons a es=>exact ih es _ (by simpa using h)
    exact this us es _ hl)
   clear hk5;go_wp2_with fail;go_ret;have h:=hO.out;rw[HE.out]at h;exact⟨_,rfl,h,OH.out⟩
theorem AHz (T:Tw)(hT:Wf T)(hs:Small T)(hg:AB.Good T)(w:World)(vO vP vC vu va:Value)(us:List (List Nat))(es:List Nat)(hP:BC Any w vO vP vC (AQ T))(hu:AP Any w vu (us.map ints))(ha:AL Any w va (ints es))(hl:us.length≤es.length)(Gj:us.length≤1000)(ES:∀u∈us,El T u)(has:∀a∈es,a≤1000):
  Calls Tryz.prog 136 #[.agg #[vO,vP,vC],vu,va] w (Kk (ints (BX (mul T) (AB.one T) us es)) w):=by
 have HP:=hid hP;have HU:=hid hu;have HA:=hid ha;have HC:=hid (fun W hP hu ha=>OY T hT hs hg W vO vP vC vu va us es hP hu ha hl Gj ES has);clear hP hu ha ES has;go_enter Tryz.func136,Tryz.ntmps136;go_wp2_with fail;refine(HC.out _ (HP.out.keep (AJ.alloc _)) (HU.out.keep (AJ.alloc _)) (HA.out.keep (AJ.alloc _))).mono ?_;rintro e w2 ⟨v2,rfl,ho,hb⟩;have HO:=hid (ho.mono (B':=w.heap.size) (by simp));have HB2:=hid (((A7 w.heap.size w).alloc AR _).trans (hb.mono (by simp)));clear ho hb;go_wp2_with fail;go_ret;exact⟨_,rfl,HO.out,HB2.out⟩
theorem X5 (w:World)(v:Value)(rows:List (List Nat))(hv:AP Any w v (rows.map ints))(hl:rows.length≤1000)(hr:∀r∈rows,r.length≤1000):
  Calls Tryz.prog 64 #[v] w (TZ 24 2 rows w):=by
 obtain⟨i0,hi,hz0,hz1,hz2⟩:=Bt Ie;obtain⟨aU,cU,rfl⟩:=AP.form hv;have HV:=hid hv;have HL:=hid hl;have HR:=hid hr;have h00:=Fb (base:=w.heap.size) (e:=24) (size:=1) w #[] 0 AR (AU _) rfl;clear hv hr;go_enter Tryz.func64,Tryz.ntmps64;go_wp2_with fail;go_loopw [3,4] (fun ov i wr=>∃k:Nat,k≤rows.length∧i= .int .i64 (k:Int)∧Hid (Own2 24 2 w.heap.size wr ov (rows.take k))∧Below w.heap.size w wr) (fun _ i _=>rows.length-(intOf i).toNat);case atStart=>exact⟨0,AU _,rfl,hid ⟨[],h00,rfl,by simp⟩,AX.alloc AR _⟩
 case round=>
  obtain⟨k,hk,rfl,ho2,hb⟩:=hrel;have HB:=hid hb;clear hb h00;by_cases hlt:k<rows.length
  ·obtain⟨r,IX⟩:∃r,rows[k]?=some r:=⟨_,AO hlt⟩;obtain⟨bU,oU,OI,vr,he,EU,Db,hrU⟩:=AP.Pn HV.out IX;obtain⟨rfl,rfl⟩:aU=some ⟨bU,oU,none⟩∧cU=OI:=by simpa using he
   have Y9:=((AA.of_below (S:=Any) HB.out).cell (b:=bU) (o:=oU+k) trivial EU).trans Db;have OJ:=hid (AL.keep hrU (AA.of_below HB.out));have hrl:=HR.out r (Ak IX);have Qc:=hid (show rows.take (k+1)=rows.take k++[r] by rw[IJ,IX];rfl);clear he Db hrU IX;go_wp2_with fail;refine(NY Any _ _ _ OJ.out (by rw[BL];omega)).mono ?_;rintro e w1 ⟨g,c,rfl,ho,hb1⟩;have HB1:=hid (HB.out.trans (hb1.mono HB.out.size));have HRR:=hid (Ej.row (ho.mono (B':=w.heap.size) HB.out.size));obtain⟨us,h1,h2,h4⟩:=ho2.out.of_below hb1;have HU:=hid (And.intro h2 h4);have htl:(rows.take k).length=k:=by simp;omega
   rw[htl]at h1;have KN:=hid htl;clear ho hb1 h2 h4 ho2 htl;go_wp2_with (at_builtin;(refine Fz _ rfl _ _ 25 rfl w.heap.size 24 i0 (.slice none 0 0) 1 24 Tryz.underlying25 hi hz0 hz1 hz2 rfl (by decide) _ _ _ rfl (h1.alloc _) ⟨w1.heap.size,0,none⟩ 1 1 [.slice (some ⟨g,0,none⟩) (ints r).length c] rfl rfl ?c1 ?c2 ?c3 ?c4 ?c5 ?_));case c1=>
    intro j u hj
    match j,hj with
    |0,hj=>simp at hj;subst hj;simp[Addr.add]
   case c2=>intro u hu;simp at hu;subst hu;rfl
   case c3=>have:=HL.out;unfold maxLen;omega
   case c4=>have:=HL.out;omega
   case c5=>have:=HB1.out.size;simp;omega
   ·intro v' w2 hown hgrow _;have HN:=hid (show Own2 24 2 w.heap.size w2 v' (rows.take (k+1)) from by
     rw[Qc.out];exact Own2.push (w:=w1.alloc _) (us:=us) (by decide) KN.out (h1.alloc _) HU.out.1 (fun i r u hr hu=>(HU.out.2 i r u hr hu).keep (S:=fun _=>True) (AJ.alloc _) (fun _ _=>trivial)) (HRR.out.keep (S:=fun _=>True) (AJ.alloc _) (fun _ _=>trivial)) hown hgrow)
    have HB2:=hid (show Below w.heap.size w w2 from(HB1.out.alloc (by have:=HB1.out.size;omega) _).grown hgrow (by simp;have:=HB1.out.size;omega) (fun g hg=>(Af h1 g hg).1));have jC:(k:Int)≤1000:=by have:=HL.out;omega
    clear hown hgrow h1 HU HRR;go_wp2_with fail;go_roundw;case rel=>exact⟨k+1,by omega,by go_num,HN,HB2.out⟩
    case measure=>simp[intOf];omega
  ·obtain rfl:k=rows.length:=by omega
   go_wp2_with fail;go_ret;have h:=ho2.out;rw[KC]at h;exact⟨_,rfl,h,HB.out⟩
end Go.Proofs.YtaadbccidfdniaaGreat.Oe
