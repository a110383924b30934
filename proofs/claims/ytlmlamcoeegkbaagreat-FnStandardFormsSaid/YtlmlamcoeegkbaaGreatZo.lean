import Derived.Test.YtlmlamcoeegkbaaGreatZ0
import Derived.Test.YtlmlamcoeegkbaaGreatZg
/-
  Lemmas for the law FnStandardForms, in short spelling.
-/
open Go.Lib (hid)
set_option linter.unusedVariables false
set_option linter.unusedSimpArgs false
set_option maxRecDepth 100000
set_option maxHeartbeats 40000000
namespace Go.Proofs.YtlmlamcoeegkbaaGreat.LD
open Go.RowKit Go.Proofs.YtlmlamcoeegkbaaGreat AJ IK DL ah JA
theorem Pt {B:Nat}(w:World)(cs:Array Value)(x:List Int)(hB:B≤w.heap.size)(hn:x.length≤maxLen)(h:cs.toList=vals x):Own B (w.alloc (.cells cs 2)) (.slice (some ⟨w.heap.size,0,none⟩) x.length x.length) x:=by
 have:=KT (base:=B) (e:=2) (size:=1) w cs x.length hB hn (by rw[←Array.length_toList,h];simp[vals]);rw[h]at this;exact this
theorem Vl (n k:Nat)(hn:n≤6)(hk:k<n)(w:World):
  Calls Tryz.prog 94 #[.int .i64 (n:Int),.int .i64 (k:Int)] w (Jf (ints ((List.replicate n 0).set k 1)) w):=by
 have hmk:=Jg n hn;have HO:=Own.made (B:=w.heap.size) w n AQ (by unfold maxLen;omega);obtain⟨s1,f1⟩:=HO.cell (j:=k) (a:=0) (by simp[hk]);have Jt:=hid (Pt (B:=w.heap.size) w ((madeCells #[.int .i64 0] n).setIfInBounds k (.int .i64 1)) (ints ((List.replicate n 0).set k 1)) AQ (by simp[ints];unfold maxLen;omega) (by
  rw[Array.toList_setIfInBounds,Ni];simp[vals,ints]))
 clear HO;go_enter Tryz.func94,Tryz.ntmps94;go_wp2_with fail;go_ret;have:=Jt.out;simp only[A7,List.length_set,Cf]at this;refine⟨_,rfl,this,AR.alloc AQ _⟩
theorem jd (T:Tw)(hT:Wf T)(hs:Small T)(i K:Nat)(hi:i≤T.length)(hg:AJ.Good (T.drop i))(hK:K≤1000)(w:World)(vO vP vC vx:Value)(x:List Nat)(hP:Aw Any w vO vP vC (AX T))(hx:AL Any w vx (ints x))(hxl:x.length=T.length)(Du:El (T.drop i) (x.drop i)):
  Calls Tryz.prog 144 #[.agg #[vO,vP,vC],.int .i64 (i:Int),vx,.int .i64 (K:Int)] w (Jf (ints (pad i (npow (mul (T.drop i)) (AJ.one (T.drop i)) (x.drop i) K))) w):=by
 have hs6:=hs.1;have hmk:=Jg T.length hs6;obtain⟨aO,cO,aP,cP,aC,cC,rfl,rfl,rfl,Er,hP1,FP⟩:=hP.open;have HP:=hid hP;have HX:=hid hx;have Cw:=hid Du;have HAT:=hid (MO T hT hs i hi);have HG:=hid (Ba (Ex hT i) hg);have HO:=hid (Own.made (B:=w.heap.size+1) (w.alloc (.cells #[.slice aO T.length cO,.slice aP T.length cP,.slice aC T.length cC] 28)) T.length (by simp) (by unfold maxLen;omega));have HK:=hid hK;have HI:=hid hi;clear hP hx Du hK;go_enter Tryz.func144,Tryz.ntmps144;go_wp2_with fail;go_loopw [3,9,10] (fun kv o b wr=>∃(k:Nat) (o' bv:List Nat),kv= .int .i64 (k:Int)∧k≤1000∧Own (w.heap.size+1) wr o (ints (pad i o'))∧AL Any wr b (ints bv)∧Hid (El (T.drop i) o'∧El (T.drop i) (bv.drop i)∧bv.length=T.length∧
   mul (T.drop i) o' (npow (mul (T.drop i)) (AJ.one (T.drop i)) (bv.drop i) k)=npow (mul (T.drop i)) (AJ.one (T.drop i)) (x.drop i) K)∧
   Below (w.heap.size+1) (w.alloc (.cells #[.slice aO T.length cO,.slice aP T.length cP,.slice aC T.length cC] 28)) wr) (fun kv _ _ _=>(intOf kv).toNat)
 case atStart=>
  refine⟨K,AJ.one (T.drop i),x,rfl,HK.out,?_,HX.out.keep (((AB.alloc _)).alloc _),hid ⟨HG.out.me,Cw.out,hxl,HG.out.eL (HG.out.npow Cw.out K)⟩,AR.alloc (by simp) _⟩;rw[Vu T i HI.out];have:=HO.out;rw[NT]at this;simp only[World.size_alloc]at this;exact this
 case round=>
  obtain⟨k,o',bv,rfl,Da,ho,hb,hR,hB⟩:=hrel;have hk:=DW hB Any;obtain⟨e0,e1,e2⟩:=Cc hB;have Bj:=hid (HP.out.keep hk);have HOr:=hid ho;have Cq:=hid hb;have EC:=hid hB;have hsz:w.heap.size+1≤wr.heap.size:=by have:=hB.size;simp at this;omega
  clear ho hb hk hB;have hdb:(pad i o').length=T.length:=by rw[BZ,Af hR.out.1];simp;omega
  by_cases h0:k=0
  ·subst h0;have HE:=hid hR.out.2.2.2;rw[Jw]at HE;go_wp2_with fail;go_ret;have h1:=HOr.out;rw[HG.out.eR hR.out.1]at HE;rw[HE.out]at h1;exact⟨_,rfl,h1.mono (by omega),Dx EC.out⟩
  ·have h0':0<k:=by omega
   have h0i:(0:Int)<(k:Int):=by omega
   have hkd:((k:Int)/2)=((k/2:Nat):Int):=by omega
   have HKD:=hid hkd;by_cases hodd:k%2=1
   ·have h1:((k:Int)%2==1)=true:=by simp;omega
    have HE:=hid (HG.out.AGU hR.out.1 hR.out.2.1 hodd);have HOD:=hid hodd;clear hkd hodd h0;go_wp2_with fail;refine(HAT.out _ _ _ _ _ _ (pad i o') bv Bj.out (HOr.out.sl.mono (fun _ _=>trivial)) Cq.out hdb hR.out.2.2.1 (by rw[BG];exact hR.out.1) hR.out.2.1).mono ?_;rintro e w5 ⟨v5,rfl,BF,hb5⟩;rw[BG]at BF;have Dc:=hid (BF.mono hsz);have YT:=hid (AA.of_below (S:=Any) hb5);have AZ:=hid (EC.out.trans (hb5.mono hsz));have hsz5:w.heap.size+1≤w5.heap.size:=Ab hsz hb5.size;have e05:w5.cell? ⟨w.heap.size,0,none⟩=some (.slice aO T.length cO):=(Cc AZ.out).1;have e15:w5.cell? ⟨w.heap.size,1,none⟩=some (.slice aP T.length cP):=(Cc AZ.out).2.1;have e25:w5.cell? ⟨w.heap.size,2,none⟩=some (.slice aC T.length cC):=(Cc AZ.out).2.2;clear BF hb5 e0 e1 e2;go_wp2_with fail;refine(HAT.out _ _ _ _ _ _ bv bv (Bj.out.keep YT.out) (Cq.out.keep YT.out) (Cq.out.keep YT.out) hR.out.2.2.1 hR.out.2.2.1 hR.out.2.1 hR.out.2.1).mono ?_;rintro e w6 ⟨v6,rfl,Al,hb6⟩;have Fy:=hid (Dc.out.of_below hb6);have QY:=hid (Al.sl.mono (S':=Any) (fun _ _=>trivial));have Ao:=hid (AZ.out.trans (hb6.mono hsz5));clear Al hb6;go_wp2_with fail;go_roundw;case rel=>exact⟨k/2,mul (T.drop i) o' (bv.drop i),_,Bp (Value.int .i64) (by omega),by omega,Fy.out,QY.out,hid ⟨HG.out.cl hR.out.1 hR.out.2.1,by rw[BG];exact HG.out.cl hR.out.2.1 hR.out.2.1,by rw[BZ,Af (HG.out.cl hR.out.2.1 hR.out.2.1)];simp;have:=HI.out;omega,by rw[BG,←HE.out];exact hR.out.2.2.2⟩,Ao.out⟩
    case measure=>simp[intOf];omega
   ·have h1:((k:Int)%2==1)=false:=by simp;omega
    have HE:=hid (HG.out.AFY (o:=o') hR.out.2.1 (show k%2=0 by omega));clear hkd hodd h0;go_wp2_with fail;refine(HAT.out _ _ _ _ _ _ bv bv (Bj.out) (Cq.out) (Cq.out) hR.out.2.2.1 hR.out.2.2.1 hR.out.2.1 hR.out.2.1).mono ?_;rintro e w6 ⟨v6,rfl,Al,hb6⟩;have Fy:=hid (HOr.out.of_below hb6);have QY:=hid (Al.sl.mono (S':=Any) (fun _ _=>trivial));have Ao:=hid (EC.out.trans (hb6.mono hsz));clear Al hb6;go_wp2_with fail;go_roundw;case rel=>exact⟨k/2,o',_,Bp (Value.int .i64) (by omega),by omega,Fy.out,QY.out,hid ⟨hR.out.1,by rw[BG];exact HG.out.cl hR.out.2.1 hR.out.2.1,by rw[BZ,Af (HG.out.cl hR.out.2.1 hR.out.2.1)];simp;have:=HI.out;omega,by rw[BG,←HE.out];exact hR.out.2.2.2⟩,Ao.out⟩
    case measure=>simp[intOf];omega
end Go.Proofs.YtlmlamcoeegkbaaGreat.LD
