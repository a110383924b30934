import Derived.Test.YtlmlamcoeegkbaaGreatZ0
import Derived.Test.YtlmlamcoeegkbaaGreatZa
import Derived.Test.YtlmlamcoeegkbaaGreatZo
import Derived.Lib.Hide
import Derived.Test.YtlmlamcoeegkbaaGreatZb
import Derived.Deep.RegionLaw
/-
  Lemmas for the law FnOrbits, in short spelling.
-/
open Go.Lib (hid)
set_option linter.unusedVariables false
set_option linter.unusedSimpArgs false
set_option maxRecDepth 100000
set_option maxHeartbeats 40000000
namespace Go.Proofs.YtlmlamcoeegkbaaGreat.SpecN
open Go.RowKit Go.Proofs.YtlmlamcoeegkbaaGreat Tow NumT
abbrev Any:Nat→Prop:=fun _=>True
def ords (T:Tw):List Nat:=T.map Lv.o
theorem ords_get {T:Tw}{i:Nat}{L:Lv}(h:T[i]?=some L):(ords T)[i]?=some L.o:=by simp[ords,h]
theorem ords_length (T:Tw):(ords T).length=T.length:=by simp[ords]
theorem ofTw_ords (T:Tw):(ofTw T).os=ints (ords T):=by simp[ofTw,ints,ords]
structure Os (T:Tw):Prop where
 len:T.length≤6
 pos:∀L∈T,1≤L.o
 le:sz T≤729
theorem sz_pos' {T:Tw}(h:∀L∈T,1≤L.o):1≤sz T:=by
 induction T with
 |nil=>simp[sz]
 |cons L T ih=>exact Nat.mul_pos (h L (by simp)) (ih fun M hM=>h M (by simp[hM]))
theorem Os.get {T:Tw}(h:Os T){i:Nat}{L:Lv}(hL:T[i]?=some L):1≤L.o:=h.pos L (zq5 hL)
theorem Os.pos_drop {T:Tw}(h:Os T)(i:Nat):1≤sz (T.drop i):=sz_pos' fun L hL=>h.pos L (zq72 hL)
theorem Os.of {T:Tw}(hT:Wf T)(hs:Small T)(hz:sz T≤729):Os T:=⟨hs.1,fun L hL=>by
 induction T with
 |nil=>simp at hL
 |cons M T ih=>
  rcases zq70.1 hL with rfl|h
  ·have:=hT.1;omega
  ·exact ih hT.2.2.2.2 ⟨by have:=hs.1;simp at this;omega,fun N hN=>hs.2 N (by simp[hN])⟩ (by have:=sz_drop_dvd (M::T) hT 1;simp at this;omega) h,hz⟩
theorem pad_set (i a:Nat)(y:List Nat):(pad (i+1) y).set i a=pad i (a::y):=by
 unfold pad;rw[List.set_append_left _ _ (by simp),zq101];simp[List.set_append]
theorem wrap_i64 {x:Int}(h1:0≤x)(h2:x≤1000000):wrap64 x=x:=by unfold wrap64;omega
def IntR (n:Nat)(w:World)(e:Ending)(w':World):Prop:=e= .returned (.int .i64 (n:Int))∧Below w.heap.size w w'
theorem order_any (T:Tw)(hs:Os T)(w:World)(vO vP vC:Value)(hO:SlI Any w vO (ints (ords T))):
  Calls Tryz.prog 43 #[.agg #[vO,vP,vC]] w (IntR (sz T) w):=by
 have hs6:=hs.len;obtain⟨aO,cO,rfl,hc⟩:=hO.open;rw[ords_length]at hc hO ⊢;have HO:=hid hO;have HS:=hid hs;clear hO hc hs;go_enter Tryz.func43,Tryz.ntmps43;go_wp2_with fail;go_loopw [3,4] (fun q i wr=>∃k:Nat,k≤T.length∧i= .int .i64 (k:Int)∧∃z:Int,q= .int .i64 z∧0≤z∧z≤729∧Hid (z*(sz (T.drop k):Int)=(sz T:Int))∧Below (w.heap.size+1) (w.alloc (.cells #[.slice aO T.length cO,vP,vC] 28)) wr) (fun _ i _=>T.length-(intOf i).toNat);case atStart=>exact⟨0,zq4 _,rfl,1,rfl,by omega,by omega,hid (by simp),zq3 _ _⟩
 case round=>
  obtain⟨k,hk,rfl,z,rfl,hz1,hz2,hR,hb⟩:=hrel;have HB:=hid hb;obtain⟨e0,e1,e2⟩:=box_cells hb;clear hb;by_cases hlt:k<T.length
  ·obtain⟨L,hL⟩:∃L,T[k]?=some L:=⟨_,zq0 hlt⟩;obtain⟨bO,oO,rfl,_,hbO,hcO⟩:=(HO.out.keep (Keep.of_below (below_unboxed HB.out))).at (ords_get hL);have hd:decide ((k:Int)<(T.length:Int))=true:=by simp;omega
   have hE:z*(L.o:Int)*(sz (T.drop (k+1)):Int)=(sz T:Int):=by
    rw[←hR.out,sz_step hL];push_cast;rw[Int.mul_assoc]
   have b1:0≤z*(L.o:Int):=Int.mul_nonneg hz1 (by omega);have b2:z*(L.o:Int)≤729:=by
    have h1:=HS.out.pos_drop (k+1);have h2:z*(L.o:Int)*1≤z*(L.o:Int)*(sz (T.drop (k+1)):Int):=Int.mul_le_mul_of_nonneg_left (by omega) b1;have h3:=HS.out.le;omega
   have HE:=hid hE;clear hE hL;go_wp2_with fail;go_roundw;case rel=>exact⟨k+1,by omega,by go_num,_,rfl,b1,b2,HE,HB.out⟩
   case measure=>simp[intOf];omega
  ·obtain rfl:k=T.length:=by omega
   have hd:decide ((T.length:Int)<(T.length:Int))=false:=by simp
   have hzz:z=(sz T:Int):=by have:=hR.out;rw[sz_end]at this;simpa using this
   subst hzz;go_wp2_with fail;go_ret;exact⟨rfl,below_unboxed HB.out⟩
theorem number_any (T:Tw)(hs:Os T)(w:World)(vO vP vC vx:Value)(x:List Nat)(hO:SlI Any w vO (ints (ords T)))(hx:SlI Any w vx (ints x))(hE:El T x)(hlt:num T x<sz T):
  Calls Tryz.prog 80 #[.agg #[vO,vP,vC],vx] w (IntR (num T x) w):=by
 have hs6:=hs.len;obtain⟨aO,cO,rfl,hc⟩:=hO.open;obtain⟨aX,cX,rfl,hcx⟩:=hx.open;have hxl:=El_length hE;rw[ords_length]at hc hO ⊢;rw[hxl]at hcx hx ⊢;have HO:=hid hO;have HX:=hid hx;have HS:=hid hs;have HE:=hid hE;have HLT:=hid hlt;clear hO hc hs hx hcx hE hlt;go_enter Tryz.func80,Tryz.ntmps80;go_wp2_with fail;go_loopw [5,6] (fun q i wr=>∃k:Nat,k≤T.length∧i= .int .i64 (k:Int)∧∃z:Int,q= .int .i64 z∧0≤z∧Hid (z*(sz (T.drop k):Int)+(num (T.drop k) (x.drop k):Int)=(num T x:Int))∧Below (w.heap.size+1) (w.alloc (.cells #[.slice aO T.length cO,vP,vC] 28)) wr) (fun _ i _=>T.length-(intOf i).toNat);case atStart=>exact⟨0,zq4 _,rfl,0,rfl,by omega,hid (by simp),zq3 _ _⟩
 case round=>
  obtain⟨k,hk,rfl,z,rfl,hz1,hR,hb⟩:=hrel;have HB:=hid hb;obtain⟨e0,e1,e2⟩:=box_cells hb;clear hb;by_cases hlt:k<T.length
  ·obtain⟨L,hL⟩:∃L,T[k]?=some L:=⟨_,zq0 hlt⟩;obtain⟨a,ha⟩:∃a,x[k]?=some a:=⟨_,zq0 (by omega)⟩;obtain⟨bO,oO,rfl,_,hbO,hcO⟩:=(HO.out.keep (Keep.of_below (below_unboxed HB.out))).at (ords_get hL);obtain⟨bX,oX,rfl,_,hbX,hcX⟩:=(HX.out.keep (Keep.of_below (below_unboxed HB.out))).at ha;have hd:decide ((k:Int)<(T.length:Int))=true:=by simp;omega
   have hE:(z*(L.o:Int)+(a:Int))*(sz (T.drop (k+1)):Int)+(num (T.drop (k+1)) (x.drop (k+1)):Int)=(num T x:Int):=by
    rw[←hR.out,sz_step hL,num_step hL ha];push_cast;rw[Int.add_mul,Int.mul_assoc];omega
   have b1:0≤z*(L.o:Int):=Int.mul_nonneg hz1 (by omega);have b2:z*(L.o:Int)+(a:Int)≤729:=by
    have h1:=HS.out.pos_drop (k+1);have h2:(z*(L.o:Int)+(a:Int))*1≤(z*(L.o:Int)+(a:Int))*(sz (T.drop (k+1)):Int):=Int.mul_le_mul_of_nonneg_left (by omega) (by omega);have h3:=HS.out.le;have h4:=HLT.out;omega
   have HE:=hid hE;clear hE hL ha;go_wp2_with fail;go_quiet (fail);go_wp2_with fail;go_roundw;case rel=>exact⟨k+1,by omega,by go_num,_,rfl,by omega,HE,zq61 HB.out nq⟩
   case measure=>simp[intOf];omega
  ·obtain rfl:k=T.length:=by omega
   have hd:decide ((T.length:Int)<(T.length:Int))=false:=by simp
   have hzz:z=(num T x:Int):=by have:=hR.out;rw[sz_end,num_end]at this;simpa using this
   subst hzz;go_wp2_with fail;go_ret;exact⟨rfl,below_unboxed HB.out⟩
theorem one_any (T:Tw)(hs:T.length≤6)(w:World)(vO vP vC:Value)(hO:SlI Any w vO (ints (ords T))):
  Calls Tryz.prog 82 #[.agg #[vO,vP,vC]] w (NewS (ints (Tow.one T)) w):=by
 have hmk:=SpecB.mk22 T.length hs;obtain⟨aO,cO,rfl,hc⟩:=hO.open;rw[ords_length]at hc hO ⊢;have HN:=hid (Own.made (B:=w.heap.size) (w.alloc (.cells #[.slice aO T.length cO,vP,vC] 28)) T.length (by simp) (by unfold maxLen;omega));clear hO hc;go_enter Tryz.func82,Tryz.ntmps82;go_wp2_with fail;go_ret;have h:=HN.out;rw[ints_replicate]at h;have hl:(ints (Tow.one T)).length=T.length:=by simp[ints,Tow.one]
 refine⟨w.heap.size+1,T.length,by rw[hl];rfl,?_,(zqB.alloc zqN _).alloc (by simp) _⟩;rw[hl];have hz:(w.alloc (.cells #[.slice aO T.length cO,vP,vC] 28)).heap.size=w.heap.size+1:=by simp
 rw[hz]at h;exact h
theorem at_any (T:Tw)(hs:Os T)(hp:∀L∈T,L.o≤1000)(q:Nat)(hq:q≤1000000)(w:World)(vO vP vC:Value)(hO:SlI Any w vO (ints (ords T))):
  Calls Tryz.prog 46 #[.agg #[vO,vP,vC],.int .i64 (q:Int)] w (NewS (ints (at_ T q)) w):=by
 have hs6:=hs.len;have HA:=hid (fun W h=>one_any T hs6 W vO vP vC h);obtain⟨aO,cO,rfl,hc⟩:=hO.open;rw[ords_length]at hc hO ⊢;rw[ords_length]at HA;have HO:=hid hO;have HS:=hid hs;have HQ:=hid hq;clear hO hc hs hq;go_enter Tryz.func46,Tryz.ntmps46;go_wp2_with fail;have HB0:=hid (zq3 (w.heap.size+1) (w.alloc (.cells #[.slice aO T.length cO,vP,vC] 28)));refine(HA.out _ (HO.out.keep (Keep.of_below (below_unboxed HB0.out)))).mono ?_;rintro e w1 ⟨g,c,rfl,ho,hb⟩;have hl:(ints (Tow.one T)).length=T.length:=by simp[ints,Tow.one]
 rw[hl]at ho ⊢;have HO1:=hid (ho.mono (B':=w.heap.size+1) (by simp));have HB1:=hid (HB0.out.trans (hb.mono (by simp)));have hlt1:=HO1.out.lt;clear ho hb hl;go_wp2_with fail;go_loopw [1,6] (fun qv iv wr=>∃k:Nat,k≤T.length∧iv= .int .i64 ((k:Int)-1)∧∃z:Nat,qv= .int .i64 (z:Int)∧Hid (z=q/sz (T.drop k)∧z≤1000000)∧∃x:List Nat,Own (w.heap.size+1) wr (.slice (some ⟨g,0,none⟩) T.length c) (ints x)∧Hid (x=pad k (at_ (T.drop k) q))∧Below (w.heap.size+1) (w.alloc (.cells #[.slice aO T.length cO,vP,vC] 28)) wr) (fun _ iv _=>(intOf iv+1).toNat);case atStart=>exact⟨T.length,zq1 _,rfl,q,rfl,hid ⟨by rw[sz_end];simp,HQ.out⟩,Tow.one T,HO1.out,hid (by simp[at_,pad,Tow.one]),HB1.out⟩
 case round=>
  obtain⟨k,hk,rfl,z,rfl,hz,x,hox,hx,hb⟩:=hrel;have HB:=hid hb;have HOX:=hid hox;obtain⟨e0,e1,e2⟩:=box_cells hb;clear hb hox;by_cases h0:k=0
  ·subst h0;have hd:decide (((0:Nat):Int)-1≥0)=false:=by decide
   go_wp2_with fail;go_ret;have hxx:x=at_ T q:=by have:=hx.out;simpa[pad]using this
   subst hxx;have hl:(ints (at_ T q)).length=T.length:=by rw[ints_length,at_length]
   refine⟨g,c,by rw[hl];rfl,?_,below_unboxed HB.out⟩;rw[hl];exact HOX.out.mono (by omega)
  ·obtain⟨i,rfl⟩:∃i,k=i+1:=⟨k-1,by omega⟩;obtain⟨L,hL⟩:∃L,T[i]?=some L:=⟨_,zq0 (by omega)⟩;have hii:(((i+1:Nat):Int)-1)=(i:Int):=by omega
   rw[hii];obtain⟨bO,oO,rfl,_,hbO,hcO0⟩:=HO.out.at (ords_get hL);have hcO:wr.cell? ⟨bO,oO+i,none⟩=some (.int .i64 (L.o:Int)):=by rw[(below_unboxed HB.out).cell hbO];exact hcO0
   have hgw:=HOX.out.lt;have hbw:bO<wr.heap.size:=zq7 hbO (below_unboxed HB.out).size;have hng:bO≠g:=by omega
   have hnw:w.heap.size≠g:=by omega
   have ho1:=HS.out.get hL;have ho2:=hp L (zq5 hL);have hxl:x.length=T.length:=by rw[hx.out,pad_length,at_length,zq34];omega
   obtain⟨xi,hxi⟩:∃a,x[i]?=some a:=⟨_,zq0 (by omega)⟩;obtain⟨s1,f1⟩:=HOX.out.cell (j:=i) (a:=(xi:Int)) (by rw[ints_get,hxi];rfl);have k1:∀u,(wr.setCell ⟨g,i,none⟩ u).cell? ⟨bO,oO+i,none⟩=some (.int .i64 (L.o:Int)):=fun u=>(((Keep.refl (· ≠g) wr).setCell (by simp) u).cell hng hbw).trans hcO;have k2:∀u,(wr.setCell ⟨g,i,none⟩ u).cell? ⟨w.heap.size,0,none⟩=some (.slice (some ⟨bO,oO,none⟩) T.length cO):=fun u=>(((Keep.refl (· ≠g) wr).setCell (by simp) u).cell hnw (by omega)).trans e0;have hb1:(0:Int)≤(z:Int)%(L.o:Int):=Int.emod_nonneg _ (by omega);have hne:((L.o:Int)==0)=false:=by simp;omega
   have HLL:=hid hL;have HQW:=hid (show wrap64 ((z:Int)/(L.o:Int))=(z:Int)/(L.o:Int) from by
    have h1:(0:Int)≤(z:Int)/(L.o:Int):=Int.ediv_nonneg (by omega) (by omega);have h2:(z:Int)/(L.o:Int)≤(z:Int):=Int.ediv_le_self _ (by omega);have h3:=hz.out.2;exact wrap_i64 h1 (by omega))
   have HK2:=hid ho2;clear hL h0 hii hcO0 ho2;go_wp2_with fail;go_roundw;case rel=>
    refine⟨i,by omega,rfl,z/L.o,by rw[HQW.out];simp,hid ⟨?_,?_⟩,pad i (at_ (T.drop i) q),?_,hid rfl,HB.out.setCell (by simp;omega) _⟩
    ·rw[hz.out.1,quo_step HLL.out]
    ·exact zq11 (Nat.div_le_self _ _) hz.out.2
    ·have h:=HOX.out.set_n i (z%L.o);have e:x.set i (z%L.o)=pad i (at_ (T.drop i) q):=by
      rw[hx.out,at_step HLL.out,hz.out.1,pad_set]
     rw[e]at h;simpa using h.1
   case measure=>simp[intOf]<;>omega
end Go.Proofs.YtlmlamcoeegkbaaGreat.SpecN
namespace Go.Proofs.YtlmlamcoeegkbaaGreat.SpecI
open Go.RowKit Go.Proofs.YtlmlamcoeegkbaaGreat Tow GenC SpecA SpecB SpecD
def Pr (T:Tw):Prop:=∀L∈T,L.o=2∨L.o=3∨L.o=5∨L.o=7
theorem inv_ex {a p:Nat}(hp:p=2∨p=3∨p=5∨p=7)(ha:a<p)(h0:a≠0):∃c,1≤c∧c<p∧a*c%p=1:=by
 rcases hp with rfl|rfl|rfl|rfl
 ·obtain rfl:a=1:=by omega
  exact⟨1,by omega,by omega,rfl⟩
 ·obtain rfl|rfl:a=1∨a=2:=by omega
  ·exact⟨1,by omega,by omega,rfl⟩
  ·exact⟨2,by omega,by omega,rfl⟩
 ·obtain rfl|rfl|rfl|rfl:a=1∨a=2∨a=3∨a=4:=by omega
  ·exact⟨1,by omega,by omega,rfl⟩
  ·exact⟨3,by omega,by omega,rfl⟩
  ·exact⟨2,by omega,by omega,rfl⟩
  ·exact⟨4,by omega,by omega,rfl⟩
 ·obtain rfl|rfl|rfl|rfl|rfl|rfl:a=1∨a=2∨a=3∨a=4∨a=5∨a=6:=by omega
  ·exact⟨1,by omega,by omega,rfl⟩
  ·exact⟨4,by omega,by omega,rfl⟩
  ·exact⟨5,by omega,by omega,rfl⟩
  ·exact⟨2,by omega,by omega,rfl⟩
  ·exact⟨3,by omega,by omega,rfl⟩
  ·exact⟨6,by omega,by omega,rfl⟩
theorem mod_any (a p:Nat)(hp:0<p)(hp7:p≤7)(ha:a<p)(w:World):Calls Tryz.prog 225 #[.int .i64 (a:Int),.int .i64 (p:Int)] w fun e w'=>e= .returned (.int .i64 (a:Int))∧w=w':=by
 have h1:(a:Int).tmod (p:Int)=(a:Int):=by rw[zq134 (by omega)];exact Int.emod_eq_of_lt (by omega) (by omega)
 have h2:((p:Int)==0)=false:=by simp;omega
 have h3:decide ((a:Int)<0)=false:=by simp
 have h4:IntKind.i64.wrap (a:Int)=(a:Int):=zq6 _ (by omega);go_enter Tryz.func225,Tryz.ntmps225;go_wp2_with fail;go_ret;exact⟨by simp[*],rfl⟩
theorem inv_any (a p:Nat)(hp:p=2∨p=3∨p=5∨p=7)(ha:a<p)(h0:a≠0)(w:World):Calls Tryz.prog 207 #[.int .i64 (a:Int),.int .i64 (p:Int)] w fun e w'=>(∃c:Nat,e= .returned (.int .i64 (c:Int))∧c<p∧a*c%p=1)∧w=w':=by
 have HEX:=hid (inv_ex hp ha h0);have hp7:p≤7:=by omega
 have hp0:0<p:=by omega
 clear hp;go_enter Tryz.func207,Tryz.ntmps207;go_wp2_with fail;go_loop [5] (fun v=>∃k:Nat,1≤k∧k≤p∧v= .int .i64 (k:Int)∧Hid (∀c,1≤c→c<k→a*c%p≠1)) (fun v=>p-(intOf v).toNat);case atStart=>exact⟨1,by omega,by omega,rfl,hid (fun c h1 h2=>by omega)⟩
 case round=>
  obtain⟨k,hk1,hk,rfl,hR⟩:=hrel;by_cases hlt:k<p
  ·have hd:decide ((k:Int)<(p:Int))=true:=by simp;omega
   have hz:((p:Int)==0)=false:=by simp;omega
   have hak:a*k≤49:=Nat.mul_le_mul (show a≤7 by omega) (show k≤7 by omega);obtain⟨m,hm⟩:∃m,m=a*k:=⟨_,rfl⟩;obtain⟨r,hr⟩:∃r,r=m%p:=⟨_,rfl⟩;have hrp:r<p:=by rw[hr];exact Nat.mod_lt _ hp0
   have hw1:IntKind.i64.wrap ((a:Int)*(k:Int))=(m:Int):=by rw[←Int.natCast_mul,←hm];exact zq6 _ (by omega)
   have hw2:(m:Int).tmod (p:Int)=(r:Int):=by rw[zq134 (by omega),hr];exact(Int.natCast_emod _ _).symm
   have hw3:IntKind.i64.wrap (r:Int)=(r:Int):=zq6 _ (by omega);have HM:=hid hm;have HRR:=hid hr;clear hm hr hak;by_cases h1:r=1
   ·have hb:((r:Int)==1)=true:=by rw[h1];rfl
    have HK:=hid (show a*k%p=1 by rw[←HM.out,←HRR.out,h1]);clear h1;go_wp2_with (go_at_call 225;refine(mod_any a p hp0 hp7 ha _).mono ?_;rintro e w' ⟨rfl,rfl⟩);go_ret;exact⟨⟨k,rfl,hlt,HK.out⟩,rfl⟩
   ·have hb:((r:Int)==1)=false:=by simp;omega
    have HK:=hid (show a*k%p≠1 by rw[←HM.out,←HRR.out];exact h1);clear h1;go_wp2_with (go_at_call 225;refine(mod_any a p hp0 hp7 ha _).mono ?_;rintro e w' ⟨rfl,rfl⟩);go_round;case rel=>exact⟨k+1,by omega,by omega,by go_num,hid (fun c h1 h2=>by
     rcases zq30.1 h2 with h|h
     ·exact hR.out c h1 h
     ·subst h;exact HK.out)⟩
    case measure=>simp[intOf];omega
  ·exfalso;obtain⟨c,h1,h2,h3⟩:=HEX.out;exact hR.out c h1 (by omega) h3
theorem lead_any (w:World)(v:Value)(x:List Nat)(hx:SlI Any w v (ints x))(d a:Nat)(h0:∀j,j<d→x[j]?=some 0)(ha:x[d]?=some a)(hne:a≠0)(hl:x.length≤1000000):
  Calls Tryz.prog 234 #[v] w fun e w'=>e= .returned (.int .i64 (d:Int))∧w=w':=by
 obtain⟨aX,cX,rfl,hcx⟩:=hx.open;have HX:=hid hx;have H0:=hid h0;have HA:=hid ha;have hdl:d<x.length:=(zq2.1 ha).1;clear hx h0 ha;go_enter Tryz.func234,Tryz.ntmps234;go_wp2_with fail;go_loop [3] (fun v=>∃k:Nat,k≤d∧v= .int .i64 (k:Int)) (fun v=>d+1-(intOf v).toNat);case atStart=>exact⟨0,by omega,rfl⟩
 case round=>
  obtain⟨k,hk,rfl⟩:=hrel;by_cases hlt:k<d
  ·obtain⟨bX,oX,rfl,_,_,hcX⟩:=HX.out.at (H0.out k hlt);go_wp2_with fail;go_round;case rel=>exact⟨k+1,by omega,by go_num⟩
   case measure=>simp[intOf];omega
  ·obtain rfl:k=d:=by omega
   obtain⟨bX,oX,rfl,_,_,hcX⟩:=HX.out.at HA.out;have hn:((a:Int) !=0)=true:=by simp;omega
   go_wp2_with fail;go_ret;exact⟨rfl,rfl⟩
theorem depth_any (w:World)(v:Value)(x:List Nat)(hx:SlI Any w v (ints x))(d a:Nat)(h0:∀j,j<d→x[j]?=some 0)(ha:x[d]?=some a)(hne:a≠0)(hl:x.length≤1000000):
  Calls Tryz.prog 224 #[v] w fun e w'=>e= .returned (.int .i64 (d:Int))∧w=w':=by
 have HC:=hid (lead_any w v x hx d a h0 ha hne hl);clear hx h0 ha hne;go_enter Tryz.func224,Tryz.ntmps224;go_wp2_with (go_at_call 234;refine HC.out.mono ?_;rintro e w' ⟨rfl,rfl⟩);go_ret;exact⟨rfl,rfl⟩
end Go.Proofs.YtlmlamcoeegkbaaGreat.SpecI
namespace Go.Proofs.YtlmlamcoeegkbaaGreat.SpecJ
open Go.RowKit Go.Proofs.YtlmlamcoeegkbaaGreat Tow GenC SpecA SpecB SpecD SpecE SpecI
theorem vinv_zero {L:Lv}{T:Tw}(h:Wf (L::T))(hg:Tow.Good (L::T)){x:List Nat}(hx:El T x):vinv (L::T) (0::x)=0::vinv T x:=by
 have ho:=h.1;have h5:=h.2.2.2.2;have hv:=vinv_spec h5 hg.1 hx;refine(vinv_eq h hg (x:=0::x) (y:=0::vinv T x) ⟨by omega,hx⟩ ⟨by omega,hv.1⟩ ?_).symm;rw[mul_cons,zq37 (by omega),it,hv.2.1];rfl
theorem it_one {L:Lv}{T:Tw}(h:Wf (L::T))(hg:Tow.Good T)(k:Nat):it (img T L.c) k (Tow.one T)=Tow.one T:=by
 have h5:=h.2.2.2.2;have G:=grp h5 hg;have h1:img T L.c (Tow.one T)=Tow.one T:=by
  have:∀(cs:List (List Nat)) n,prodL (mul T) (Tow.one T) cs (List.replicate n 0)=Tow.one T:=by
   intro cs
   induction cs with
   |nil=>intro n;cases n<;>rfl
   |cons c cs ih=>intro n;cases n with
    |zero=>rfl
    |succ n=>exact ih n
  exact this L.c _
 induction k with
 |zero=>rfl
 |succ k ih=>rw[it,h1,ih]
theorem vinv_pos {L:Lv}{T:Tw}(h:Wf (L::T))(hg:Tow.Good (L::T)){a:Nat}(ha0:a≠0){x:List Nat}(hx:El (L::T) (a::x)):
  vinv (L::T) (a::x)=mul (L::T) (mul (L::T) (0::vinv T x) ((L.o-a)::Tow.one T)) (0::vinv T L.w)∧El (L::T) ((L.o-a)::Tow.one T)∧El (L::T) (0::vinv T x)∧El (L::T) (0::vinv T L.w):=by
 have ho:=h.1;have h5:=h.2.2.2.2;have hw:=h.2.1;have ha:=hx.1;have hxE:=hx.2;have G:=grp h5 hg.1;have GG:=grp h hg;have hv:=vinv_spec h5 hg.1 hxE;have hvw:=vinv_spec h5 hg.1 hw;have e1:El (L::T) ((L.o-a)::Tow.one T):=⟨by omega,El_one h5⟩;have e2:El (L::T) (0::vinv T x):=⟨by omega,hv.1⟩;have e3:El (L::T) (0::vinv T L.w):=⟨by omega,hvw.1⟩;have e4:El (L::T) (a::Tow.one T):=⟨ha,El_one h5⟩;have e5:El (L::T) (0::x):=⟨by omega,hxE⟩;refine⟨(vinv_eq h hg hx (GG.cl (GG.cl e2 e1) e3) ?_).symm,e1,e2,e3⟩;have f1:a::x=mul (L::T) (a::Tow.one T) (0::x):=by
  rw[mul_cons,zq37 (by omega),it,G.eL hxE];rfl
 have f2:mul (L::T) (0::x) (0::vinv T x)=Tow.one (L::T):=by
  rw[mul_cons,zq37 (by omega),it,hv.2.1];rfl
 have f3:mul (L::T) (a::Tow.one T) ((L.o-a)::Tow.one T)=0::L.w:=by
  rw[mul_cons,zq57 (by omega),it_one h hg.1,G.eL G.me,G.eR hw,show a+(L.o-a)-L.o=0 by omega]
 have f4:mul (L::T) (0::L.w) (0::vinv T L.w)=Tow.one (L::T):=by
  rw[mul_cons,zq37 (by omega),it,hvw.2.1];rfl
 rw[f1,←GG.asc (GG.cl e4 e5) (GG.cl e2 e1) e3,GG.asc e4 e5 (GG.cl e2 e1),←GG.asc e5 e2 e1,f2,GG.eL e1,f3,f4]
theorem El_vinv {T:Tw}(h:Wf T)(hg:Tow.Good T){x:List Nat}(hx:El T x):El T (vinv T x):=(vinv_spec h hg hx).1
theorem Below.step {B:Nat}{w a b:World}(h:Below B w a)(hB:B≤w.heap.size)(hb:Below a.heap.size a b):Below B w b:=h.trans (hb.mono (zq11 hB h.size))
def FromSpec (T:Tw)(i:Nat):Prop:=∀(w:World) (vO vP vC vx:Value) (x:List Nat),ValP Any w vO vP vC (ofTw T)→SlI Any w vx (ints x)→x.length=T.length→El (T.drop i) (x.drop i)→
 Calls Tryz.prog 186 #[.agg #[vO,vP,vC],.int .i64 (i:Int),vx] w (NewI (ints (pad i (vinv (T.drop i) (x.drop i)))) w)
theorem from_end (T:Tw)(hs:Small T):FromSpec T T.length:=by
 intro w vO vP vC vx x hP hx hl hE;have hs6:=hs.1;have hmk:=mk22 T.length hs6;obtain⟨aO,cO,aP,cP,aC,cC,rfl,rfl,rfl,hO1,hP1,hC1⟩:=hP.open;have HN:=hid (Own.made (B:=w.heap.size) (w.alloc (.cells #[.slice aO T.length cO,.slice aP T.length cP,.slice aC T.length cC] 28)) T.length (by simp) (by unfold maxLen;omega));have HV:=hid (show pad T.length (vinv (T.drop T.length) (x.drop T.length))=List.replicate T.length 0 from by
  rw[zq104];have:El [] (vinv [] (x.drop T.length)):=(vinv_spec (T:=[]) trivial trivial (x:=x.drop T.length) (by rw[←hl,zq104];trivial)).1;cases h:vinv [] (x.drop T.length)with
  |nil=>simp[pad]
  |cons a b=>rw[h]at this;exact this.elim)
 clear hP hx hE;go_enter Tryz.func186,Tryz.ntmps186;go_wp2_with fail;go_ret;have h:=HN.out;rw[ints_replicate]at h;rw[HV.out];refine⟨_,rfl,?_,(zqB.alloc zqN _).alloc (by simp) _⟩;have hz:(w.alloc (.cells #[.slice aO T.length cO,.slice aP T.length cP,.slice aC T.length cC] 28)).heap.size=w.heap.size+1:=by simp
 rw[hz]at h;exact h
theorem from_of (T:Tw)(hT:Wf T)(hs:Small T)(i:Nat)(L:Lv)(hL:T[i]?=some L)(hgi:Tow.Good (T.drop i))(hF:FromSpec T (i+1)):FromSpec T i:=by
 intro w vO vP vC vx x hP hx hl hE;have hi:i<T.length:=(zq2.1 hL).1;have hs6:=hs.1;have hmk:=mk22 T.length hs6;obtain⟨aO,cO,aP,cP,aC,cC,rfl,rfl,rfl,hO1,hP1,hC1⟩:=hP.open;obtain⟨aX,cX,rfl,hX1⟩:=hx.open;rw[hl]at hX1 hx ⊢;obtain⟨bO,oO,rfl,_,hbO,hcO⟩:=hP.ord hL;obtain⟨bP,oP,uP,rfl,_,hbP,hcP,huP⟩:=hP.pow hL;obtain⟨a,ha⟩:∃a,x[i]?=some a:=⟨_,zq0 (by omega)⟩;obtain⟨bX,oX,rfl,_,hbX,hcX⟩:=hx.at ha;have hd:=drop_cons' hL;have hWd:=Wf_drop hT i;rw[hd]at hWd hgi;have hxd:x.drop i=a::x.drop (i+1):=by rw[zq32 (show i<x.length by omega),(zq2.1 ha).2]
 rw[hd,hxd]at hE;have ho7:L.o≤7:=hs.2 L (zq5 hL);have hao:a<L.o:=hE.1;have hlx:(ints x).length=T.length:=by rw[ints_length];exact hl
 have hres0:a=0→pad i (vinv (T.drop i) (x.drop i))=pad (i+1) (vinv (T.drop (i+1)) (x.drop (i+1))):=fun h0=>by
  rw[hd,hxd,h0,vinv_zero hWd hgi hE.2,←pad_add];rfl
 have hpp:∀y:List Nat,pad (i+1) y=pad i (0::y):=fun y=>by rw[←pad_add];rfl
 have HP:=hid hP;have HX:=hid hx;have HFR:=hid hF;have HAT:=hid (at_any T hT hs i (zq44 hi));have HUP:=hid huP;have HC:=hid (And.intro hcO (And.intro hcP hcX));have HR0:=hid hres0;have HE:=hid hE;have HW:=hid (And.intro hWd hgi);have HD:=hid hd;have HXD:=hid hxd;have HPP:=hid hpp;have HPOS:=hid (fun h0=>vinv_pos hWd hgi (a:=a) h0 hE);have HVE:=hid (vinv_spec hWd.2.2.2.2 hgi.1 hE.2).1;have hHA:=hid ha;clear hP hx hF huP hcO hcP hcX hres0 hE hWd hgi hd hxd hpp ha hT hs hL;obtain⟨wb,hwb⟩:∃wb,wb=w.alloc (.cells #[.slice (some ⟨bO,oO,none⟩) T.length cO,.slice (some ⟨bP,oP,none⟩) T.length cP,.slice aC T.length cC] 28):=⟨_,rfl⟩;go_enter Tryz.func186,Tryz.ntmps186;go_upto_region 4 with fail;rw[←hwb];have HB0:=hid (show Below (w.heap.size+1) (w.alloc (.cells #[.slice (some ⟨bO,oO,none⟩) T.length cO,.slice (some ⟨bP,oP,none⟩) T.length cP,.slice aC T.length cC] 28)) wb by rw[hwb];exact zq3 _ _);clear hwb;have w6:(i:Int)<(T.length:Int):=by omega
 have w7:(0:Int)≤(i:Int):=by omega
 have w3:IntKind.i64.wrap ((i:Int)+1)=(i:Int)+1:=zq6 _ (by omega);go_wp2_with fail;refine(own_any Any _ _ _ (HX.out.keep (keep_boxed HB0.out Any)) (by omega)).mono ?_;rintro e w1 ⟨g1,c1,rfl,ho1,hb1⟩;rw[hlx]at ho1 ⊢;have hwb:w.heap.size+1≤wb.heap.size:=by have:=HB0.out.size;simp at this;omega
 have HB1:=hid (HB0.out.trans (hb1.mono hwb));have hlt1:=ho1.lt;obtain⟨s1,f1⟩:=ho1.cell (j:=i) (a:=(a:Int)) (by rw[ints_get,hHA.out];rfl);obtain⟨hS,hG⟩:=ho1.set_n i 0;have HO1:=hid hS;have HB2:=hid (HB1.out.grown hG (by have:=HB1.out.size;simp at this;omega) (by intro k hk;cases hk;omega));obtain⟨e0,e1,e2⟩:=box_cells HB1.out;have hne:¬w.heap.size=g1:=by omega
 have hne':¬g1=w.heap.size:=by omega
 clear ho1 hb1 hS hG;go_upto_region 6 with fail;have hsetd:(x.set i 0).drop (i+1)=x.drop (i+1):=by simp[List.drop_set]
 go_wp2_with fail;refine(HFR.out _ _ _ _ _ (x.set i 0) (HP.out.keep (keep_boxed HB2.out Any)) (HO1.out.sl.mono (fun _ _=>trivial)) (by simp[hl]) (by rw[hsetd];exact HE.out.2)).mono ?_;rintro e w3 ⟨v3,rfl,ho3,hb3⟩;rw[hsetd]at ho3;have hs1:w.heap.size+1≤w1.heap.size:=by have:=HB1.out.size;simp at this;omega
 have HB3:=hid (HB2.out.trans (hb3.mono (by simp;omega)));have HO3:=hid (ho3.mono (B':=w.heap.size) (by simp;omega));have hk3:=keep_boxed HB3.out Any;have hcX3:w3.cell? ⟨bX,oX+i,none⟩=some (.int .i64 (a:Int)):=by rw[hk3.cell trivial hbX];exact HC.out.2.2
 have hs3:w.heap.size+1≤w3.heap.size:=by have:=HB3.out.size;simp at this;omega
 clear ho3 hb3 e0 e1 e2 s1 f1 HB2 HO1 hsetd;obtain⟨e0,e1,e2⟩:=box_cells HB3.out;by_cases h0:a=0
 ·have hz:((a:Int)==0)=true:=by rw[h0];rfl
  have HR:=hid (HR0.out h0);have HBU:=hid (below_unboxed HB3.out);clear hk3;go_wp2_with fail;go_ret;rw[HR.out];exact⟨_,rfl,HO3.out,HBU.out⟩
 ·have hz:((a:Int)==0)=false:=by simp;omega
  obtain⟨hv1,hv2,hv3,hv4⟩:=HPOS.out h0;have hcO3:w3.cell? ⟨bO,oO+i,none⟩=some (.int .i64 (L.o:Int)):=by rw[hk3.cell trivial hbO];exact HC.out.1
  have hcP3:w3.cell? ⟨bP,oP+i,none⟩=some uP:=by rw[hk3.cell trivial hbP];exact HC.out.2.1
  have hbO3:bO<w3.heap.size:=by omega
  have hbX3:bX<w3.heap.size:=by omega
  have hbP3:bP<w3.heap.size:=by omega
  have hww:w.heap.size<w3.heap.size:=by omega
  have w1':IntKind.i64.wrap ((L.o:Int)-(a:Int))=((L.o-a:Nat):Int):=by rw[zq6 _ (by omega)];omega
  obtain⟨w4,hw4⟩:∃w4,w4=w3.alloc (.cells (madeCells #[.int .i64 0] T.length) 2):=⟨_,rfl⟩;have hN:Own w.heap.size w4 (.slice (some ⟨w3.heap.size,0,none⟩) T.length T.length) (ints (List.replicate T.length 0)):=by
   rw[hw4,←ints_replicate];exact Own.made (B:=w.heap.size) w3 T.length (by omega) (by unfold maxLen;omega)
  have HV:=hid (And.intro hv1 (And.intro hv2 (And.intro hv3 hv4)));clear hv1 hv2 hv3 hv4;go_upto_region 10 with fail;rw[←hw4];have HB4:=hid (show Below (w.heap.size+1) _ w4 by rw[hw4];exact HB3.out.alloc hs3 _);have k4:Keep (fun _=>True) w3 w4:=by rw[hw4];exact zqK.alloc _
  have hs4:w3.heap.size<w4.heap.size:=by rw[hw4];simp
  have hcO4:=(k4.cell (b:=bO) (o:=oO+i) trivial hbO3).trans hcO3;have hcX4:=(k4.cell (b:=bX) (o:=oX+i) trivial hbX3).trans hcX3;have d0:=(k4.cell (b:=w.heap.size) (o:=0) trivial hww).trans e0;obtain⟨s4,f4⟩:=hN.cell (j:=i) (a:=0) (by rw[ints_get];simp[hi]);obtain⟨hS,hG⟩:=hN.set_n i (L.o-a);have HS4:=hid hS;have HG4:=hid hG;have HKE4:=hid k4;have hA4:¬w.heap.size=w3.heap.size:=by omega
  have hX4:¬bX=w3.heap.size:=by omega
  have hO4:¬bO=w3.heap.size:=by omega
  clear hw4 hN hS hG k4 hk3 e0 e1 e2 hcO3 hcX3 hcP3;go_cut [10] (fun tv W=>tv= .slice (some ⟨w3.heap.size,0,none⟩) T.length T.length∧Hid (W=(w4.setCell ⟨w3.heap.size,i,none⟩ (.int .i64 ((L.o-a:Nat):Int))).drew));case first=>
   go_region_law (fail);all_goals (go_wp2_with fail;go_meet)
   all_goals exact⟨rfl,hid rfl⟩
  case rest=>
   obtain⟨rfl,HW5⟩:=hcut;have hw5:=HW5.out;rename World=>w5;have hB5:Below (w.heap.size+1) (w.alloc (.cells #[.slice (some ⟨bO,oO,none⟩) T.length cO,.slice (some ⟨bP,oP,none⟩) T.length cP,.slice aC T.length cC] 28)) w5:=by
    rw[hw5];exact(HB4.out.grown HG4.out (by have:=HB4.out.size;simp at this;omega) (by intro k hk;cases hk;omega)).drew
   have hT5:Own w.heap.size w5 (.slice (some ⟨w3.heap.size,0,none⟩) T.length T.length) (ints (pad i ((L.o-a)::Tow.one (T.drop (i+1))))):=by
    have h:=HS4.out.drew;rw[show(List.replicate T.length 0).set i (L.o-a)=pad i ((L.o-a)::Tow.one (T.drop (i+1))) from by
     refine zq133 (by simp[pad,Tow.one];omega) fun j h1 h2=>?_;simp only[pad,Tow.one,List.getElem_set,List.getElem_replicate,List.getElem_append,zq29];split
     ·next e=>subst e;simp
     ·next e=>
      split
      ·rfl
      ·rw[List.getElem_cons,dif_neg (by omega),List.getElem_replicate]]at h
    rw[hw5];exact h
   have hO5:Own w.heap.size w5 v3 (ints (pad (i+1) (vinv (T.drop (i+1)) (x.drop (i+1))))):=by
    rw[hw5];refine(HO3.out.keep (S:=fun k=>k≠w3.heap.size) (((HKE4.out.mono (fun _ _=>trivial)).setCell (by simp) _).drew) (fun k hk=>?_));have:=(zq8 HO3.out k hk).2;show k≠_;omega
   have hk5:=keep_boxed hB5 Any;obtain⟨e0,e1,e2⟩:=box_cells hB5;have hs5:w.heap.size+1≤w5.heap.size:=by have:=hB5.size;simp at this;omega
   have hcP5:=(hk5.cell (b:=bP) (o:=oP+i) trivial hbP).trans HC.out.2.1;have hbP5:bP<w5.heap.size:=by omega
   have hww5:w.heap.size<w5.heap.size:=by omega
   have HP5:=hid (HP.out.keep hk5);have HU5:=hid (HUP.out.keep hk5);have HT5:=hid (hT5.sl.mono (S':=Any) (fun _ _=>trivial));have HV5:=hid (hO5.sl.mono (S':=Any) (fun _ _=>trivial));have HB5:=hid hB5;have L1:=hid (show(pad (i+1) (vinv (T.drop (i+1)) (x.drop (i+1)))).length=T.length by rw[pad_length,El_length HVE.out];simp;omega);have L2:=hid (show(pad i ((L.o-a)::Tow.one (T.drop (i+1)))).length=T.length by rw[pad_length];simp[Tow.one];omega);have L3:=hid (show(pad (i+1) L.w).length=T.length by rw[pad_length,El_length HW.out.1.2.1];simp;omega);have F1:=hid (show El (T.drop i) ((pad (i+1) (vinv (T.drop (i+1)) (x.drop (i+1)))).drop i) by rw[HPP.out,pad_drop,HD.out];exact HV.out.2.2.1);have F2:=hid (show El (T.drop i) ((pad i ((L.o-a)::Tow.one (T.drop (i+1)))).drop i) by rw[pad_drop,HD.out];exact HV.out.2.1);have F3:=hid (show El (T.drop (i+1)) ((pad (i+1) L.w).drop (i+1)) by rw[pad_drop];exact HW.out.1.2.1);have F4:=hid (show El (T.drop i) (mul (T.drop i) ((pad (i+1) (vinv (T.drop (i+1)) (x.drop (i+1)))).drop i) ((pad i ((L.o-a)::Tow.one (T.drop (i+1)))).drop i)) by rw[HD.out]at *; exact El_mul HW.out.1 F1.out F2.out);have F5:=hid (show El (T.drop i) ((pad (i+1) (vinv (T.drop (i+1)) ((pad (i+1) L.w).drop (i+1)))).drop i) by rw[pad_drop,HPP.out,pad_drop,HD.out];exact HV.out.2.2.2);clear hw5 HW5 hB5 hT5 hO5 hk5 HS4 HG4 HKE4 HB4 HO3 HB3 HB1 d0 s4 f4 hcO4 hcX4 HC;go_wp2_with fail;go_region_held3 (fun w'=>(∀b o,b<w5.heap.size→w'.cell? ⟨b,o,none⟩=w5.cell? ⟨b,o,none⟩)∧Keep (fun _=>True) w5 w')
    (first|exact ks_mk (by repeat(first|exact zqK.drew|exact Keep.refl _ _|refine Keep.trans ?_ (Keep.of_below (by assumption)))))
    (first|(go_at_call_of 143 v3;refine(HAT.out _ _ _ _ v3 (.slice (some ⟨w3.heap.size,0,none⟩) T.length T.length) _ _ (HP5.out.keep (by repeat(first|exact zqK.drew|exact Keep.refl _ _|exact zqK.alloc _|exact(zqK.alloc _).drew|refine Keep.trans ?_ (Keep.of_below (by assumption))))) (HV5.out.keep (by repeat(first|exact zqK.drew|exact Keep.refl _ _|exact zqK.alloc _|exact(zqK.alloc _).drew|refine Keep.trans ?_ (Keep.of_below (by assumption))))) (HT5.out.keep (by repeat(first|exact zqK.drew|exact Keep.refl _ _|exact zqK.alloc _|exact(zqK.alloc _).drew|refine Keep.trans ?_ (Keep.of_below (by assumption))))) L1.out L2.out F1.out F2.out).mono ?_;rintro e w6 ⟨v6,rfl,ho6,hb6⟩)|(go_at_call 186;refine(HFR.out _ _ _ _ uP _ (HP5.out.keep (by repeat(first|exact zqK.drew|exact Keep.refl _ _|exact zqK.alloc _|exact(zqK.alloc _).drew|refine Keep.trans ?_ (Keep.of_below (by assumption))))) (HU5.out.keep (by repeat(first|exact zqK.drew|exact Keep.refl _ _|exact zqK.alloc _|exact(zqK.alloc _).drew|refine Keep.trans ?_ (Keep.of_below (by assumption))))) L3.out F3.out).mono ?_;rintro e w7 ⟨v7,rfl,ho7,hb7⟩)|(go_at_call_of 143 v7;refine(HAT.out _ _ _ _ v6 v7 _ _ (HP5.out.keep (by repeat(first|exact zqK.drew|exact Keep.refl _ _|exact zqK.alloc _|exact(zqK.alloc _).drew|refine Keep.trans ?_ (Keep.of_below (by assumption))))) ((ho6.sl.mono (fun _ _=>trivial)).keep (by repeat(first|exact zqK.drew|exact Keep.refl _ _|exact zqK.alloc _|exact(zqK.alloc _).drew|refine Keep.trans ?_ (Keep.of_below (by assumption))))) ((ho7.sl.mono (fun _ _=>trivial)).keep (by repeat(first|exact zqK.drew|exact Keep.refl _ _|exact zqK.alloc _|exact(zqK.alloc _).drew|refine Keep.trans ?_ (Keep.of_below (by assumption))))) (by rw[pad_length,El_length F4.out];simp;omega) (by rw[pad_length,pad_drop,El_length (El_vinv HW.out.1.2.2.2.2 HW.out.2.1 HW.out.1.2.1)];simp;omega) (by rw[pad_drop];exact F4.out) F5.out).mono ?_;rintro e w8 ⟨v8,rfl,ho8,hb8⟩))
   have hs7:w.heap.size≤w7.heap.size:=by
    have:=(show Keep (fun _=>True) w5 w7 from(by repeat(first|exact zqK.drew|exact Keep.refl _ _|exact zqK.alloc _|exact(zqK.alloc _).drew|refine Keep.trans ?_ (Keep.of_below (by assumption))))).size;omega
   have HB8:=hid (below_unboxed (show Below (w.heap.size+1) _ w8 from(by repeat(first|exact HB5.out|exact HB5.out.drew|refine Below.step ?_ (by simp) (by assumption)))));have HO8:=hid (ho8.mono hs7);have e1:(pad (i+1) (vinv (T.drop (i+1)) (x.drop (i+1)))).drop i=0::vinv (T.drop (i+1)) (x.drop (i+1)):=by rw[HPP.out,pad_drop]
   have e4:(pad (i+1) (vinv (T.drop (i+1)) L.w)).drop i=0::vinv (T.drop (i+1)) L.w:=by rw[HPP.out,pad_drop]
   have HQ:=hid (show mul (T.drop i) ((pad i (mul (T.drop i) ((pad (i+1) (vinv (T.drop (i+1)) (x.drop (i+1)))).drop i) ((pad i ((L.o-a)::Tow.one (T.drop (i+1)))).drop i))).drop i) ((pad (i+1) (vinv (T.drop (i+1)) ((pad (i+1) L.w).drop (i+1)))).drop i)=vinv (T.drop i) (x.drop i) by
    rw[pad_drop (i+1) L.w,e4,e1,pad_drop,pad_drop,HD.out,HXD.out];exact HV.out.1.symm)
   clear ho6 ho7 ho8 hb6 hb7 hb8 e1 e4;go_wp2_with fail;go_ret;refine⟨_,rfl,?_,HB8.out⟩;have h:=HO8.out;rwa[HQ.out]at h
theorem from_any (T:Tw)(hT:Wf T)(hs:Small T)(hg:Tow.Good T)(m:Nat):∀i,T.length-i=m→i≤T.length→FromSpec T i:=by
 induction m with
 |zero=>
  intro i hm hi;obtain rfl:i=T.length:=by omega
  exact from_end T hs
 |succ m ih=>
  intro i hm hi;obtain⟨L,hL⟩:∃L,T[i]?=some L:=⟨_,zq0 (by omega)⟩;exact from_of T hT hs i L hL (Good_drop hg i) (ih (i+1) (by omega) (by omega))
theorem inv_any' (T:Tw)(hT:Wf T)(hs:Small T)(hg:Tow.Good T)(w:World)(vO vP vC vx:Value)(x:List Nat)(hP:ValP Any w vO vP vC (ofTw T))(hx:SlI Any w vx (ints x))(hE:El T x):
  Calls Tryz.prog 145 #[.agg #[vO,vP,vC],vx] w (NewI (ints (vinv T x)) w):=by
 have HP:=hid hP;have HX:=hid hx;have HE:=hid hE;have HF:=hid (from_any T hT hs hg T.length 0 (by omega) (zq4 _));clear hP hx hE;go_enter Tryz.func145,Tryz.ntmps145;go_wp2_with fail;refine(HF.out _ _ _ _ _ x (HP.out.keep (zqK.alloc _)) (HX.out.keep (zqK.alloc _)) (El_length HE.out) HE.out).mono ?_;rintro e w2 ⟨v2,rfl,ho,hb⟩;have HO:=hid (ho.mono (B':=w.heap.size) (by simp));have HB2:=hid (((zq3 w.heap.size w).alloc zqN _).trans (hb.mono (by simp)));clear ho hb;go_wp2_with fail;go_ret;exact⟨_,rfl,HO.out,HB2.out⟩
end Go.Proofs.YtlmlamcoeegkbaaGreat.SpecJ
namespace Go.Proofs.YtlmlamcoeegkbaaGreat.SpecK
open Go.RowKit Go.Proofs.YtlmlamcoeegkbaaGreat Tow GenC SpecA SpecB SpecD SpecE SpecI SpecJ
theorem comm_any (T:Tw)(hT:Wf T)(hs:Small T)(hg:Tow.Good T)(w:World)(vO vP vC vx vy:Value)(x y:List Nat)(hP:ValP Any w vO vP vC (ofTw T))(hx:SlI Any w vx (ints x))(hy:SlI Any w vy (ints y))(hxE:El T x)(hyE:El T y):
  Calls Tryz.prog 208 #[.agg #[vO,vP,vC],vx,vy] w (NewI (ints (Gen.com (mul T) (vinv T) x y)) w):=by
 have HP:=hid hP;have HX:=hid hx;have HY:=hid hy;have HXE:=hid hxE;have HYE:=hid hyE;have HM:=hid (fun W va vb a b hP ha hb hA hB=>mul_any T hT hs W vO vP vC va vb a b hP ha hb hA hB);have HI:=hid (fun W va a hP ha hA=>inv_any' T hT hs hg W vO vP vC va a hP ha hA);have HE1:=hid (El_mul hT hyE hxE);have HE2:=hid (El_mul hT hxE hyE);have HE3:=hid (vinv_spec hT hg (El_mul hT hyE hxE)).1;obtain⟨wb,hwb⟩:∃wb,wb=w.alloc (.cells #[vO,vP,vC] 28):=⟨_,rfl⟩;clear hP hx hy hxE hyE;go_enter Tryz.func208,Tryz.ntmps208;go_upto_region 1 with fail;rw[←hwb];have HB0:=hid (show Below w.heap.size w wb by rw[hwb];exact zqB.alloc zqN _);obtain⟨e0,e1,e2⟩:=box_cells (w:=w) (wr:=wb) (by rw[hwb];exact zq3 _ _);have hsz:w.heap.size<wb.heap.size:=by rw[hwb];simp
 have HPb:=hid (HP.out.keep (w':=wb) (by rw[hwb];exact zqK.alloc _));have HXb:=hid (HX.out.keep (w':=wb) (by rw[hwb];exact zqK.alloc _));have HYb:=hid (HY.out.keep (w':=wb) (by rw[hwb];exact zqK.alloc _));clear hwb HP HX HY;go_region_held3 (fun w'=>(∀b o,b<wb.heap.size→w'.cell? ⟨b,o,none⟩=wb.cell? ⟨b,o,none⟩)∧Keep (fun _=>True) wb w')
  (first|exact ks_mk (by repeat(first|exact zqK.drew|exact Keep.refl _ _|refine Keep.trans ?_ (Keep.of_below (by assumption)))))
  (first|(go_at_call_of 92 v7;refine(HM.out _ v6 v7 _ _ (HPb.out.keep (by repeat(first|exact zqK.drew|exact Keep.refl _ _|exact zqK.alloc _|exact(zqK.alloc _).drew|refine Keep.trans ?_ (Keep.of_below (by assumption))))) ((ho6.sl.mono (fun _ _=>trivial)).keep (by repeat(first|exact zqK.drew|exact Keep.refl _ _|exact zqK.alloc _|exact(zqK.alloc _).drew|refine Keep.trans ?_ (Keep.of_below (by assumption))))) ((ho7.sl.mono (fun _ _=>trivial)).keep (by repeat(first|exact zqK.drew|exact Keep.refl _ _|exact zqK.alloc _|exact(zqK.alloc _).drew|refine Keep.trans ?_ (Keep.of_below (by assumption))))) HE3.out HE2.out).mono ?_;rintro e w8 ⟨v8,rfl,ho8,hb8⟩)|(have g6:=hb6;clear g6;go_at_call 92;refine(HM.out _ vx vy x y (HPb.out.keep (by repeat(first|exact zqK.drew|exact Keep.refl _ _|exact zqK.alloc _|exact(zqK.alloc _).drew|refine Keep.trans ?_ (Keep.of_below (by assumption))))) (HXb.out.keep (by repeat(first|exact zqK.drew|exact Keep.refl _ _|exact zqK.alloc _|exact(zqK.alloc _).drew|refine Keep.trans ?_ (Keep.of_below (by assumption))))) (HYb.out.keep (by repeat(first|exact zqK.drew|exact Keep.refl _ _|exact zqK.alloc _|exact(zqK.alloc _).drew|refine Keep.trans ?_ (Keep.of_below (by assumption))))) HXE.out HYE.out).mono ?_;rintro e w7 ⟨v7,rfl,ho7,hb7⟩)|(go_at_call 145;refine(HI.out _ v5 _ (HPb.out.keep (by repeat(first|exact zqK.drew|exact Keep.refl _ _|exact zqK.alloc _|exact(zqK.alloc _).drew|refine Keep.trans ?_ (Keep.of_below (by assumption))))) ((ho5.sl.mono (fun _ _=>trivial)).keep (by repeat(first|exact zqK.drew|exact Keep.refl _ _|exact zqK.alloc _|exact(zqK.alloc _).drew|refine Keep.trans ?_ (Keep.of_below (by assumption))))) HE1.out).mono ?_;rintro e w6 ⟨v6,rfl,ho6,hb6⟩)|(go_at_call 92;refine(HM.out _ vy vx y x (HPb.out.keep (by repeat(first|exact zqK.drew|exact Keep.refl _ _|exact zqK.alloc _|exact(zqK.alloc _).drew|refine Keep.trans ?_ (Keep.of_below (by assumption))))) (HYb.out.keep (by repeat(first|exact zqK.drew|exact Keep.refl _ _|exact zqK.alloc _|exact(zqK.alloc _).drew|refine Keep.trans ?_ (Keep.of_below (by assumption))))) (HXb.out.keep (by repeat(first|exact zqK.drew|exact Keep.refl _ _|exact zqK.alloc _|exact(zqK.alloc _).drew|refine Keep.trans ?_ (Keep.of_below (by assumption))))) HYE.out HXE.out).mono ?_;rintro e w5 ⟨v5,rfl,ho5,hb5⟩))
 have hs7:w.heap.size≤w7.heap.size:=by
  have:=(show Keep (fun _=>True) wb w7 from(by repeat(first|exact zqK.drew|exact Keep.refl _ _|exact zqK.alloc _|exact(zqK.alloc _).drew|refine Keep.trans ?_ (Keep.of_below (by assumption))))).size;omega
 have HB5:=HB0;have HB8:=hid (show Below w.heap.size w w8 from(by repeat(first|exact HB5.out|exact HB5.out.drew|refine Below.step ?_ (by simp) (by assumption))));have HO8:=hid (ho8.mono hs7);clear ho5 ho6 ho7 ho8 hb5 hb6 hb7 hb8;go_wp2_with fail;go_ret;exact⟨_,rfl,HO8.out,HB8.out⟩
theorem pow_pos_any (T:Tw)(hT:Wf T)(hs:Small T)(hg:Tow.Good T)(w:World)(vO vP vC vx:Value)(x:List Nat)(K:Nat)(hK:K≤1000)(hP:ValP Any w vO vP vC (ofTw T))(hx:SlI Any w vx (ints x))(hE:El T x):
  Calls Tryz.prog 93 #[.agg #[vO,vP,vC],vx,.int .i64 (K:Int)] w (NewI (ints (npow (mul T) (Tow.one T) x K)) w):=by
 have HP:=hid hP;have HX:=hid hx;have HE:=hid hE;have hd:decide ((K:Int)<0)=false:=by simp
 have HR:=hid (fun W hP hx=>repeat_any T hT hs 0 K (zq4 _) hg hK W vO vP vC vx x hP hx (El_length hE) hE);clear hP hx hE;go_enter Tryz.func93,Tryz.ntmps93;go_wp2_with fail;refine(HR.out _ (HP.out.keep (zqK.alloc _)) (HX.out.keep (zqK.alloc _))).mono ?_;rintro e w2 ⟨v2,rfl,ho,hb⟩;have HO:=hid (ho.mono (B':=w.heap.size) (by simp));have HB2:=hid (((zq3 w.heap.size w).alloc zqN _).trans (hb.mono (by simp)));clear ho hb;go_wp2_with fail;go_ret;exact⟨_,rfl,HO.out,HB2.out⟩
theorem pow_neg_any (T:Tw)(hT:Wf T)(hs:Small T)(hg:Tow.Good T)(w:World)(vO vP vC vx:Value)(x:List Nat)(K:Nat)(hK:K≤1000)(hK0:0<K)(hP:ValP Any w vO vP vC (ofTw T))(hx:SlI Any w vx (ints x))(hE:El T x):
  Calls Tryz.prog 93 #[.agg #[vO,vP,vC],vx,.int .i64 (-(K:Int))] w (NewI (ints (npow (mul T) (Tow.one T) (vinv T x) K)) w):=by
 have HP:=hid hP;have HX:=hid hx;have HE:=hid hE;have HE1:=hid (vinv_spec hT hg hE).1;have hd:decide (-(K:Int)<0)=true:=by simp;omega
 have hw:IntKind.i64.wrap (-(-(K:Int)))=(K:Int):=by rw[zq6 _ (by omega)];omega
 have hw2:IntKind.i64.wrap (K:Int)=(K:Int):=zq6 _ (by omega);have HI:=hid (fun W va a hP ha hA=>inv_any' T hT hs hg W vO vP vC va a hP ha hA);have HR:=hid (fun W va hP hx=>repeat_any T hT hs 0 K (zq4 _) hg hK W vO vP vC va (vinv T x) hP hx (El_length HE1.out) HE1.out);obtain⟨wb,hwb⟩:∃wb,wb=w.alloc (.cells #[vO,vP,vC] 28):=⟨_,rfl⟩;clear hP hx hE;go_enter Tryz.func93,Tryz.ntmps93;go_upto_region 2 with fail;rw[←hwb];have HB5:=hid (show Below w.heap.size w wb by rw[hwb];exact zqB.alloc zqN _);obtain⟨e0,e1,e2⟩:=box_cells (w:=w) (wr:=wb) (by rw[hwb];exact zq3 _ _);have hsz:w.heap.size<wb.heap.size:=by rw[hwb];simp
 have HPb:=hid (HP.out.keep (w':=wb) (by rw[hwb];exact zqK.alloc _));have HXb:=hid (HX.out.keep (w':=wb) (by rw[hwb];exact zqK.alloc _));clear hwb HP HX;go_region_held3 (fun w'=>(∀b o,b<wb.heap.size→w'.cell? ⟨b,o,none⟩=wb.cell? ⟨b,o,none⟩)∧Keep (fun _=>True) wb w')
  (first|exact ks_mk (by repeat(first|exact zqK.drew|exact Keep.refl _ _|refine Keep.trans ?_ (Keep.of_below (by assumption)))))
  (first|(go_at_call 145;refine(HI.out _ vx _ (HPb.out.keep (by repeat(first|exact zqK.drew|exact Keep.refl _ _|exact zqK.alloc _|exact(zqK.alloc _).drew|refine Keep.trans ?_ (Keep.of_below (by assumption))))) (HXb.out.keep (by repeat(first|exact zqK.drew|exact Keep.refl _ _|exact zqK.alloc _|exact(zqK.alloc _).drew|refine Keep.trans ?_ (Keep.of_below (by assumption))))) HE.out).mono ?_;rintro e w6 ⟨v6,rfl,ho6,hb6⟩)|(go_at_call_of 144 (Value.int .i64 (K:Int));refine(HR.out _ v6 (HPb.out.keep (by repeat(first|exact zqK.drew|exact Keep.refl _ _|exact zqK.alloc _|exact(zqK.alloc _).drew|refine Keep.trans ?_ (Keep.of_below (by assumption))))) ((ho6.sl.mono (fun _ _=>trivial)).keep (by repeat(first|exact zqK.drew|exact Keep.refl _ _|exact zqK.alloc _|exact(zqK.alloc _).drew|refine Keep.trans ?_ (Keep.of_below (by assumption)))))).mono ?_;rintro e w8 ⟨v8,rfl,ho8,hb8⟩))
 have hs7:w.heap.size≤w6.heap.size:=by
  have:=(show Keep (fun _=>True) wb w6 from(by repeat(first|exact zqK.drew|exact Keep.refl _ _|exact zqK.alloc _|exact(zqK.alloc _).drew|refine Keep.trans ?_ (Keep.of_below (by assumption))))).size;omega
 have HB8:=hid (show Below w.heap.size w w8 from(by repeat(first|exact HB5.out|exact HB5.out.drew|refine Below.step ?_ (by simp) (by assumption))));have HO8:=hid (ho8.mono hs7);clear ho6 ho8 hb6 hb8;go_wp2_with fail;go_ret;exact⟨_,rfl,HO8.out,HB8.out⟩
end Go.Proofs.YtlmlamcoeegkbaaGreat.SpecK
namespace Go.Proofs.YtlmlamcoeegkbaaGreat.SpecL
open Go.RowKit Go.Proofs.YtlmlamcoeegkbaaGreat Tow GenC SpecA SpecB SpecD SpecE SpecI SpecJ SpecK
theorem prodL_step {T:Tw}(G:IsG (El T) (mul T) (Tow.one T)){us:List (List Nat)}{es:List Nat}{k a:Nat}{u:List Nat}(hu:us[k]?=some u)(ha:es[k]?=some a)(hus:∀u∈us,El T u):
  prodL (mul T) (Tow.one T) (us.take (k+1)) (es.take (k+1))=mul T (prodL (mul T) (Tow.one T) (us.take k) (es.take k)) (npow (mul T) (Tow.one T) u a)∧El T (prodL (mul T) (Tow.one T) (us.take k) (es.take k)):=by
 have hE:El T (prodL (mul T) (Tow.one T) (us.take k) (es.take k)):=prodL_inv (El T) (mul T) (fun _ _ p q=>G.cl p q) _ (fun c hc=>hus c (zq137 hc)) _ _ G.me;refine⟨?_,hE⟩;rw[prodL_take (mul T) (Tow.one T) us es k a u hu ha,G.it_mul (hus u (zq5 hu)) hE]
theorem Sl2.at_row {S:Nat→Prop}{w:World}{v:Value}{rows:List (List Nat)}(h:Sl2 S w v (rows.map ints)){k:Nat}{r:List Nat}(hr:rows[k]?=some r):
  ∃b o c u,v= .slice (some ⟨b,o,none⟩) rows.length c∧b<w.heap.size∧w.cell? ⟨b,o+k,none⟩=some u∧SlI S w u (ints r):=by
 obtain⟨ao,c,h1,h2,h3,h0,h4⟩:=h;obtain⟨b,o,e1,_,e3,u,e4,e5⟩:=h4 k (ints r) (by simp[hr]);exact⟨b,o,c,u,by rw[h1,e1,zq18],e3,e4,e5⟩
theorem Sl2.form {S:Nat→Prop}{w:World}{v:Value}{rows:List (List Nat)}(h:Sl2 S w v (rows.map ints)):∃a c,v= .slice a rows.length c:=by
 obtain⟨ao,c,h1,_⟩:=h;exact⟨ao,c,by rw[h1,zq18]⟩
theorem product_any (T:Tw)(hT:Wf T)(hs:Small T)(hg:Tow.Good T)(w:World)(vO vP vC vu va:Value)(us:List (List Nat))(es:List Nat)(hP:ValP Any w vO vP vC (ofTw T))(hu:Sl2 Any w vu (us.map ints))(ha:SlI Any w va (ints es))(hl:us.length≤es.length)(hl6:us.length≤1000)(hus:∀u∈us,El T u)(has:∀a∈es,a≤1000):
  Calls Tryz.prog 95 #[.agg #[vO,vP,vC],vu,va] w (NewI (ints (prodL (mul T) (Tow.one T) us es)) w):=by
 have HP:=hid hP;have HU:=hid hu;have HA:=hid ha;have HUS:=hid hus;have HAS:=hid has;have HG:=hid (grp hT hg);have HM:=hid (fun W va vb a b hP ha hb hA hB=>mul_any T hT hs W vO vP vC va vb a b hP ha hb hA hB);have HPW:=hid (fun W va a K hK hP ha hA=>pow_pos_any T hT hs hg W vO vP vC va a K hK hP ha hA);have HONE:=hid (fun W hO=>SpecN.one_any T hs.1 W vO vP vC hO);obtain⟨aU,cU,rfl⟩:=Sl2.form hu;obtain⟨aA,cA,rfl,_⟩:=ha.open;have hou:(ofTw T).os=ints (SpecN.ords T):=SpecN.ofTw_ords T;have HOO:=hid hou;clear hP hu ha hus has hou;go_enter Tryz.func95,Tryz.ntmps95;go_wp2_with fail;refine(HONE.out _ (by have h:=(HP.out.keep (w':=w.alloc (.cells #[vO,vP,vC] 28)) (zqK.alloc _)).os;rwa[HOO.out]at h)).mono ?_;rintro e w1 ⟨g1,c1,rfl,ho1,hb1⟩;have HB1:=hid (show Below (w.heap.size+1) (w.alloc (.cells #[vO,vP,vC] 28)) w1 from hb1.mono (by simp));have HO1:=hid (ho1.mono (B':=w.heap.size) (by simp));clear ho1 hb1;go_wp2_with fail;go_loopw [7,8] (fun ov iv wr=>∃k:Nat,k≤us.length∧iv= .int .i64 (k:Int)∧Hid (Own w.heap.size wr ov (ints (prodL (mul T) (Tow.one T) (us.take k) (es.take k))))∧Below (w.heap.size+1) (w.alloc (.cells #[vO,vP,vC] 28)) wr) (fun _ iv _=>us.length-(intOf iv).toNat);case atStart=>exact⟨0,zq4 _,rfl,hid (by rw[List.take_zero,List.take_zero];exact HO1.out),HB1.out⟩
 case round=>
  obtain⟨k,hk,rfl,hO,hB⟩:=hrel;have HB5:=hid hB;have hk5:=keep_boxed hB Any;obtain⟨e0,e1,e2⟩:=box_cells hB;have hsw:w.heap.size+1≤wr.heap.size:=by have:=hB.size;simp at this;omega
  clear hB;by_cases hlt:k<us.length
  ·obtain⟨u,hu⟩:∃u,us[k]?=some u:=⟨_,zq0 hlt⟩;obtain⟨a,ha⟩:∃a,es[k]?=some a:=⟨_,zq0 (by omega)⟩;obtain⟨bU,oU,cU',vr,he,hbU,hcU,hrU⟩:=Sl2.at_row HU.out hu;obtain⟨rfl,rfl⟩:aU=some ⟨bU,oU,none⟩∧cU=cU':=by simpa using he
   obtain⟨bA,oA,rfl,_,hbA,hcA⟩:=HA.out.at ha;have hcU5:=(hk5.cell (b:=bU) (o:=oU+k) trivial hbU).trans hcU;have hcA5:=(hk5.cell (b:=bA) (o:=oA+k) trivial hbA).trans hcA;have hww:w.heap.size<wr.heap.size:=by omega
   have hbU5:bU<wr.heap.size:=by omega
   have hbA5:bA<wr.heap.size:=by omega
   have ha6:a≤1000:=HAS.out a (zq5 ha);have hst:=prodL_step HG.out hu ha HUS.out;have HST:=hid hst;have HUE:=hid (HUS.out u (zq5 hu));have HPE:=hid (HG.out.npow HUE.out a);have HP5:=hid (HP.out.keep hk5);have HR5:=hid (SlI.keep hrU hk5);have HO5:=hid (hO.out.sl.mono (S':=Any) (fun _ _=>trivial));have hkl:(k:Int)<(us.length:Int):=by omega
   have hkl2:(k:Int)<(es.length:Int):=by omega
   have hk0:(0:Int)≤(k:Int):=by omega
   clear hst hu ha he hrU hcU hcA hk5;go_wp2_with fail;go_region_held3 (fun w'=>(∀b o,b<wr.heap.size→w'.cell? ⟨b,o,none⟩=wr.cell? ⟨b,o,none⟩)∧Keep (fun _=>True) wr w')
    (first|exact ks_mk (by repeat(first|exact zqK.drew|exact Keep.refl _ _|refine Keep.trans ?_ (Keep.of_below (by assumption)))))
    (first|(go_at_call 93;refine(HPW.out _ vr u a ha6 (HP5.out.keep (by repeat(first|exact zqK.drew|exact Keep.refl _ _|exact zqK.alloc _|exact(zqK.alloc _).drew|refine Keep.trans ?_ (Keep.of_below (by assumption))))) (HR5.out.keep (by repeat(first|exact zqK.drew|exact Keep.refl _ _|exact zqK.alloc _|exact(zqK.alloc _).drew|refine Keep.trans ?_ (Keep.of_below (by assumption))))) HUE.out).mono ?_;rintro e w6 ⟨v6,rfl,ho6,hb6⟩)|(go_at_call_of 92 v6;refine(HM.out _ _ v6 _ _ (HP5.out.keep (by repeat(first|exact zqK.drew|exact Keep.refl _ _|exact zqK.alloc _|exact(zqK.alloc _).drew|refine Keep.trans ?_ (Keep.of_below (by assumption))))) (HO5.out.keep (by repeat(first|exact zqK.drew|exact Keep.refl _ _|exact zqK.alloc _|exact(zqK.alloc _).drew|refine Keep.trans ?_ (Keep.of_below (by assumption))))) ((ho6.sl.mono (fun _ _=>trivial)).keep (by repeat(first|exact zqK.drew|exact Keep.refl _ _|exact zqK.alloc _|exact(zqK.alloc _).drew|refine Keep.trans ?_ (Keep.of_below (by assumption))))) HST.out.2 HPE.out).mono ?_;rintro e w8 ⟨v8,rfl,ho8,hb8⟩))
   have hs7:w.heap.size≤w6.heap.size:=by
    have:=(show Keep (fun _=>True) wr w6 from(by repeat(first|exact zqK.drew|exact Keep.refl _ _|exact zqK.alloc _|exact(zqK.alloc _).drew|refine Keep.trans ?_ (Keep.of_below (by assumption))))).size;omega
   have HB8:=hid (show Below (w.heap.size+1) (w.alloc (.cells #[vO,vP,vC] 28)) w8 from(by repeat(first|exact HB5.out|exact HB5.out.drew|refine Below.step ?_ (by simp) (by assumption))));rw[←HST.out.1]at ho8;have HO8:=hid (ho8.mono hs7);clear ho6 ho8 hb6 hb8;go_wp2_with fail;go_roundw;case rel=>exact⟨k+1,by omega,by go_num,HO8,HB8.out⟩
   case measure=>simp[intOf];omega
  ·obtain rfl:k=us.length:=by omega
   have HBU:=hid (below_unboxed HB5.out);have HE:=hid (show prodL (mul T) (Tow.one T) (us.take us.length) (es.take us.length)=prodL (mul T) (Tow.one T) us es from by
    rw[zq88];have:∀(us:List (List Nat)) (es:List Nat) (x:List Nat),us.length≤es.length→prodL (mul T) x us (es.take us.length)=prodL (mul T) x us es:=by
     intro us
     induction us with
     |nil=>intro es x _;cases es<;>rfl
     |cons u us ih=>intro es x h;cases es with
      |nil=>simp at h
      |cons a es=>exact ih es _ (by simpa using h)
    exact this us es _ hl)
   clear hk5;go_wp2_with fail;go_ret;have h:=hO.out;rw[HE.out]at h;exact⟨_,rfl,h,HBU.out⟩
theorem apply_any (T:Tw)(hT:Wf T)(hs:Small T)(hg:Tow.Good T)(w:World)(vO vP vC vu va:Value)(us:List (List Nat))(es:List Nat)(hP:ValP Any w vO vP vC (ofTw T))(hu:Sl2 Any w vu (us.map ints))(ha:SlI Any w va (ints es))(hl:us.length≤es.length)(hl6:us.length≤1000)(hus:∀u∈us,El T u)(has:∀a∈es,a≤1000):
  Calls Tryz.prog 81 #[.agg #[vO,vP,vC],vu,va] w (NewI (ints (prodL (mul T) (Tow.one T) us es)) w):=by
 have HP:=hid hP;have HU:=hid hu;have HA:=hid ha;have HC:=hid (fun W hP hu ha=>product_any T hT hs hg W vO vP vC vu va us es hP hu ha hl hl6 hus has);clear hP hu ha hus has;go_enter Tryz.func81,Tryz.ntmps81;go_wp2_with fail;refine(HC.out _ (HP.out.keep (zqK.alloc _)) (HU.out.keep (zqK.alloc _)) (HA.out.keep (zqK.alloc _))).mono ?_;rintro e w2 ⟨v2,rfl,ho,hb⟩;have HO:=hid (ho.mono (B':=w.heap.size) (by simp));have HB2:=hid (((zq3 w.heap.size w).alloc zqN _).trans (hb.mono (by simp)));clear ho hb;go_wp2_with fail;go_ret;exact⟨_,rfl,HO.out,HB2.out⟩
theorem own2_any (w:World)(v:Value)(rows:List (List Nat))(hv:Sl2 Any w v (rows.map ints))(hl:rows.length≤1000)(hr:∀r∈rows,r.length≤1000):
  Calls Tryz.prog 134 #[v] w (New2 24 2 rows w):=by
 obtain⟨i0,hi,hz0,hz1,hz2⟩:=zq41 infoR;obtain⟨aU,cU,rfl⟩:=Sl2.form hv;have HV:=hid hv;have HL:=hid hl;have HR:=hid hr;have h00:=zq47 (base:=w.heap.size) (e:=24) (size:=1) w #[] 0 zqN (zq4 _) rfl;clear hv hr;go_enter Tryz.func134,Tryz.ntmps134;go_wp2_with fail;go_loopw [3,4] (fun ov i wr=>∃k:Nat,k≤rows.length∧i= .int .i64 (k:Int)∧Hid (Own2 24 2 w.heap.size wr ov (rows.take k))∧Below w.heap.size w wr) (fun _ i _=>rows.length-(intOf i).toNat);case atStart=>exact⟨0,zq4 _,rfl,hid ⟨[],h00,rfl,by simp⟩,zqB.alloc zqN _⟩
 case round=>
  obtain⟨k,hk,rfl,ho2,hb⟩:=hrel;have HB:=hid hb;clear hb h00;by_cases hlt:k<rows.length
  ·obtain⟨r,hrk⟩:∃r,rows[k]?=some r:=⟨_,zq0 hlt⟩;obtain⟨bU,oU,cU',vr,he,hbU,hcU,hrU⟩:=Sl2.at_row HV.out hrk;obtain⟨rfl,rfl⟩:aU=some ⟨bU,oU,none⟩∧cU=cU':=by simpa using he
   have hcU5:=((Keep.of_below (S:=Any) HB.out).cell (b:=bU) (o:=oU+k) trivial hbU).trans hcU;have HRU:=hid (SlI.keep hrU (Keep.of_below HB.out));have hrl:=HR.out r (zq5 hrk);have HTK:=hid (show rows.take (k+1)=rows.take k++[r] by rw[zq69,hrk];rfl);clear he hcU hrU hrk;go_wp2_with fail;refine(own_any Any _ _ _ HRU.out (by rw[ints_length];omega)).mono ?_;rintro e w1 ⟨g,c,rfl,ho,hb1⟩;have HB1:=hid (HB.out.trans (hb1.mono HB.out.size));have HRR:=hid (NewS.row (ho.mono (B':=w.heap.size) HB.out.size));obtain⟨us,h1,h2,h4⟩:=ho2.out.of_below hb1;have HU:=hid (And.intro h2 h4);have htl:(rows.take k).length=k:=by simp;omega
   rw[htl]at h1;have HTL:=hid htl;clear ho hb1 h2 h4 ho2 htl;go_wp2_with (at_builtin;(refine zq55 _ rfl _ _ 25 rfl w.heap.size 24 i0 (.slice none 0 0) 1 24 Tryz.underlying25 hi hz0 hz1 hz2 rfl (by decide) _ _ _ rfl (h1.alloc _) ⟨w1.heap.size,0,none⟩ 1 1 [.slice (some ⟨g,0,none⟩) (ints r).length c] rfl rfl ?c1 ?c2 ?c3 ?c4 ?c5 ?_));case c1=>
    intro j u hj
    match j,hj with
    |0,hj=>simp at hj;subst hj;simp[Addr.add]
   case c2=>intro u hu;simp at hu;subst hu;rfl
   case c3=>have:=HL.out;unfold maxLen;omega
   case c4=>have:=HL.out;omega
   case c5=>have:=HB1.out.size;simp;omega
   ·intro v' w2 hown hgrow _;have HN:=hid (show Own2 24 2 w.heap.size w2 v' (rows.take (k+1)) from by
     rw[HTK.out];exact Own2.push (w:=w1.alloc _) (us:=us) (by decide) HTL.out (h1.alloc _) HU.out.1 (fun i r u hr hu=>(HU.out.2 i r u hr hu).keep (S:=fun _=>True) (zqK.alloc _) (fun _ _=>trivial)) (HRR.out.keep (S:=fun _=>True) (zqK.alloc _) (fun _ _=>trivial)) hown hgrow)
    have HB2:=hid (show Below w.heap.size w w2 from(HB1.out.alloc (by have:=HB1.out.size;omega) _).grown hgrow (by simp;have:=HB1.out.size;omega) (fun g hg=>(zq8 h1 g hg).1));have hk729:(k:Int)≤1000:=by have:=HL.out;omega
    clear hown hgrow h1 HU HRR;go_wp2_with fail;go_roundw;case rel=>exact⟨k+1,by omega,by go_num,HN,HB2.out⟩
    case measure=>simp[intOf];omega
  ·obtain rfl:k=rows.length:=by omega
   go_wp2_with fail;go_ret;have h:=ho2.out;rw[zq88]at h;exact⟨_,rfl,h,HB.out⟩
end Go.Proofs.YtlmlamcoeegkbaaGreat.SpecL
