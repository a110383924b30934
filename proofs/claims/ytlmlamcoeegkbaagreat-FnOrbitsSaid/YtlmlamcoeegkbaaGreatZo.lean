import Derived.Test.YtlmlamcoeegkbaaGreatZ0
import Derived.Test.YtlmlamcoeegkbaaGreatZg
/-
  Lemmas for the law FnOrbits, in short spelling.
-/
open Go.Lib (hid)
set_option linter.unusedVariables false
set_option linter.unusedSimpArgs false
set_option maxRecDepth 100000
set_option maxHeartbeats 40000000
namespace Go.Proofs.YtlmlamcoeegkbaaGreat.SpecE
open Go.RowKit Go.Proofs.YtlmlamcoeegkbaaGreat Tow SpecA SpecB SpecC SpecD
theorem Own_lit {B:Nat}(w:World)(cs:Array Value)(x:List Int)(hB:B≤w.heap.size)(hn:x.length≤maxLen)(h:cs.toList=vals x):Own B (w.alloc (.cells cs 2)) (.slice (some ⟨w.heap.size,0,none⟩) x.length x.length) x:=by
 have:=zq98 (base:=B) (e:=2) (size:=1) w cs x.length hB hn (by rw[←Array.length_toList,h];simp[vals]);rw[h]at this;exact this
theorem unit_any (n k:Nat)(hn:n≤6)(hk:k<n)(w:World):
  Calls Tryz.prog 94 #[.int .i64 (n:Int),.int .i64 (k:Int)] w (NewI (ints ((List.replicate n 0).set k 1)) w):=by
 have hmk:=mk22 n hn;have HO:=Own.made (B:=w.heap.size) w n zqN (by unfold maxLen;omega);obtain⟨s1,f1⟩:=HO.cell (j:=k) (a:=0) (by simp[hk]);have HFF:=hid (Own_lit (B:=w.heap.size) w ((madeCells #[.int .i64 0] n).setIfInBounds k (.int .i64 1)) (ints ((List.replicate n 0).set k 1)) zqN (by simp[ints];unfold maxLen;omega) (by
  rw[Array.toList_setIfInBounds,zq108];simp[vals,ints]))
 clear HO;go_enter Tryz.func94,Tryz.ntmps94;go_wp2_with fail;go_ret;have:=HFF.out;simp only[ints_length,List.length_set,zq29]at this;refine⟨_,rfl,this,zqB.alloc zqN _⟩
theorem repeat_any (T:Tw)(hT:Wf T)(hs:Small T)(i K:Nat)(hi:i≤T.length)(hg:Tow.Good (T.drop i))(hK:K≤1000)(w:World)(vO vP vC vx:Value)(x:List Nat)(hP:ValP Any w vO vP vC (ofTw T))(hx:SlI Any w vx (ints x))(hxl:x.length=T.length)(hxE:El (T.drop i) (x.drop i)):
  Calls Tryz.prog 144 #[.agg #[vO,vP,vC],.int .i64 (i:Int),vx,.int .i64 (K:Int)] w (NewI (ints (pad i (npow (mul (T.drop i)) (Tow.one (T.drop i)) (x.drop i) K))) w):=by
 have hs6:=hs.1;have hmk:=mk22 T.length hs6;obtain⟨aO,cO,aP,cP,aC,cC,rfl,rfl,rfl,hO1,hP1,hC1⟩:=hP.open;have HP:=hid hP;have HX:=hid hx;have HXE:=hid hxE;have HAT:=hid (at_any T hT hs i hi);have HG:=hid (grp (Wf_drop hT i) hg);have HO:=hid (Own.made (B:=w.heap.size+1) (w.alloc (.cells #[.slice aO T.length cO,.slice aP T.length cP,.slice aC T.length cC] 28)) T.length (by simp) (by unfold maxLen;omega));have HK:=hid hK;have HI:=hid hi;clear hP hx hxE hK;go_enter Tryz.func144,Tryz.ntmps144;go_wp2_with fail;go_loopw [3,9,10] (fun kv o b wr=>∃(k:Nat) (o' bv:List Nat),kv= .int .i64 (k:Int)∧k≤1000∧Own (w.heap.size+1) wr o (ints (pad i o'))∧SlI Any wr b (ints bv)∧Hid (El (T.drop i) o'∧El (T.drop i) (bv.drop i)∧bv.length=T.length∧
   mul (T.drop i) o' (npow (mul (T.drop i)) (Tow.one (T.drop i)) (bv.drop i) k)=npow (mul (T.drop i)) (Tow.one (T.drop i)) (x.drop i) K)∧
   Below (w.heap.size+1) (w.alloc (.cells #[.slice aO T.length cO,.slice aP T.length cP,.slice aC T.length cC] 28)) wr) (fun kv _ _ _=>(intOf kv).toNat)
 case atStart=>
  refine⟨K,Tow.one (T.drop i),x,rfl,HK.out,?_,HX.out.keep (((zqK.alloc _)).alloc _),hid ⟨HG.out.me,HXE.out,hxl,HG.out.eL (HG.out.npow HXE.out K)⟩,zqB.alloc (by simp) _⟩;rw[one_pad T i HI.out];have:=HO.out;rw[ints_replicate]at this;simp only[World.size_alloc]at this;exact this
 case round=>
  obtain⟨k,o',bv,rfl,hk6,ho,hb,hR,hB⟩:=hrel;have hk:=keep_boxed hB Any;obtain⟨e0,e1,e2⟩:=box_cells hB;have HPr:=hid (HP.out.keep hk);have HOr:=hid ho;have HBr:=hid hb;have HBB:=hid hB;have hsz:w.heap.size+1≤wr.heap.size:=by have:=hB.size;simp at this;omega
  clear ho hb hk hB;have hdb:(pad i o').length=T.length:=by rw[pad_length,El_length hR.out.1];simp;omega
  by_cases h0:k=0
  ·subst h0;have HE:=hid hR.out.2.2.2;rw[npow_zero]at HE;go_wp2_with fail;go_ret;have h1:=HOr.out;rw[HG.out.eR hR.out.1]at HE;rw[HE.out]at h1;exact⟨_,rfl,h1.mono (by omega),below_unboxed HBB.out⟩
  ·have h0':0<k:=by omega
   have h0i:(0:Int)<(k:Int):=by omega
   have hkd:((k:Int)/2)=((k/2:Nat):Int):=by omega
   have HKD:=hid hkd;by_cases hodd:k%2=1
   ·have h1:((k:Int)%2==1)=true:=by simp;omega
    have HE:=hid (HG.out.rep_odd hR.out.1 hR.out.2.1 hodd);have HOD:=hid hodd;clear hkd hodd h0;go_wp2_with fail;refine(HAT.out _ _ _ _ _ _ (pad i o') bv HPr.out (HOr.out.sl.mono (fun _ _=>trivial)) HBr.out hdb hR.out.2.2.1 (by rw[pad_drop];exact hR.out.1) hR.out.2.1).mono ?_;rintro e w5 ⟨v5,rfl,ho5,hb5⟩;rw[pad_drop]at ho5;have HO5:=hid (ho5.mono hsz);have HK5:=hid (Keep.of_below (S:=Any) hb5);have HB5:=hid (HBB.out.trans (hb5.mono hsz));have hsz5:w.heap.size+1≤w5.heap.size:=zq11 hsz hb5.size;have e05:w5.cell? ⟨w.heap.size,0,none⟩=some (.slice aO T.length cO):=(box_cells HB5.out).1;have e15:w5.cell? ⟨w.heap.size,1,none⟩=some (.slice aP T.length cP):=(box_cells HB5.out).2.1;have e25:w5.cell? ⟨w.heap.size,2,none⟩=some (.slice aC T.length cC):=(box_cells HB5.out).2.2;clear ho5 hb5 e0 e1 e2;go_wp2_with fail;refine(HAT.out _ _ _ _ _ _ bv bv (HPr.out.keep HK5.out) (HBr.out.keep HK5.out) (HBr.out.keep HK5.out) hR.out.2.2.1 hR.out.2.2.1 hR.out.2.1 hR.out.2.1).mono ?_;rintro e w6 ⟨v6,rfl,ho6,hb6⟩;have HO6:=hid (HO5.out.of_below hb6);have HV6:=hid (ho6.sl.mono (S':=Any) (fun _ _=>trivial));have HB6:=hid (HB5.out.trans (hb6.mono hsz5));clear ho6 hb6;go_wp2_with fail;go_roundw;case rel=>exact⟨k/2,mul (T.drop i) o' (bv.drop i),_,zq38 (Value.int .i64) (by omega),by omega,HO6.out,HV6.out,hid ⟨HG.out.cl hR.out.1 hR.out.2.1,by rw[pad_drop];exact HG.out.cl hR.out.2.1 hR.out.2.1,by rw[pad_length,El_length (HG.out.cl hR.out.2.1 hR.out.2.1)];simp;have:=HI.out;omega,by rw[pad_drop,←HE.out];exact hR.out.2.2.2⟩,HB6.out⟩
    case measure=>simp[intOf];omega
   ·have h1:((k:Int)%2==1)=false:=by simp;omega
    have HE:=hid (HG.out.rep_even (o:=o') hR.out.2.1 (show k%2=0 by omega));clear hkd hodd h0;go_wp2_with fail;refine(HAT.out _ _ _ _ _ _ bv bv (HPr.out) (HBr.out) (HBr.out) hR.out.2.2.1 hR.out.2.2.1 hR.out.2.1 hR.out.2.1).mono ?_;rintro e w6 ⟨v6,rfl,ho6,hb6⟩;have HO6:=hid (HOr.out.of_below hb6);have HV6:=hid (ho6.sl.mono (S':=Any) (fun _ _=>trivial));have HB6:=hid (HBB.out.trans (hb6.mono hsz));clear ho6 hb6;go_wp2_with fail;go_roundw;case rel=>exact⟨k/2,o',_,zq38 (Value.int .i64) (by omega),by omega,HO6.out,HV6.out,hid ⟨hR.out.1,by rw[pad_drop];exact HG.out.cl hR.out.2.1 hR.out.2.1,by rw[pad_length,El_length (HG.out.cl hR.out.2.1 hR.out.2.1)];simp;have:=HI.out;omega,by rw[pad_drop,←HE.out];exact hR.out.2.2.2⟩,HB6.out⟩
    case measure=>simp[intOf];omega
end Go.Proofs.YtlmlamcoeegkbaaGreat.SpecE
