import Derived.Test.YtaadbccidfdniaaGreatZ0
import Derived.Test.YtaadbccidfdniaaGreatZf
/-
  Lemmas for the law FnCopies, in short spelling.
-/
open Go.Lib (hid)
set_option linter.unusedVariables false
set_option linter.unusedSimpArgs false
set_option maxRecDepth 100000
set_option maxHeartbeats 40000000
namespace Go.Proofs.YtaadbccidfdniaaGreat.Nk
open Go.RowKit Go.Proofs.YtaadbccidfdniaaGreat AB JU Dr iw Kc
theorem Q0 {B:Nat}(w:World)(cs:Array Value)(x:List Int)(hB:B≤w.heap.size)(hn:x.length≤maxLen)(h:cs.toList=vals x):Own B (w.alloc (.cells cs 2)) (.slice (some ⟨w.heap.size,0,none⟩) x.length x.length) x:=by
 have:=Nq (base:=B) (e:=2) (size:=1) w cs x.length hB hn (by rw[←Array.length_toList,h];simp[vals]);rw[h]at this;exact this
theorem fG (n k:Nat)(hn:n≤6)(hk:k<n)(w:World):
  Calls Tryz.prog 106 #[.int .i64 (n:Int),.int .i64 (k:Int)] w (Kk (ints ((List.replicate n 0).set k 1)) w):=by
 have hmk:=Kl n hn;have HO:=Own.made (B:=w.heap.size) w n AR (by unfold maxLen;omega);obtain⟨s1,f1⟩:=HO.cell (j:=k) (a:=0) (by simp[hk]);have KJ:=hid (Q0 (B:=w.heap.size) w ((madeCells #[.int .i64 0] n).setIfInBounds k (.int .i64 1)) (ints ((List.replicate n 0).set k 1)) AR (by simp[ints];unfold maxLen;omega) (by
  rw[Array.toList_setIfInBounds,Q7];simp[vals,ints]))
 clear HO;go_enter Tryz.func106,Tryz.ntmps106;go_wp2_with fail;go_ret;have:=KJ.out;simp only[BL,List.length_set,DK]at this;refine⟨_,rfl,this,AX.alloc AR _⟩
theorem ou (T:Tw)(hT:Wf T)(hs:Small T)(i K:Nat)(hi:i≤T.length)(hg:AB.Good (T.drop i))(hK:K≤1000)(w:World)(vO vP vC vx:Value)(x:List Nat)(hP:BC Any w vO vP vC (AQ T))(hx:AL Any w vx (ints x))(hxl:x.length=T.length)(C9:El (T.drop i) (x.drop i)):
  Calls Tryz.prog 166 #[.agg #[vO,vP,vC],.int .i64 (i:Int),vx,.int .i64 (K:Int)] w (Kk (ints (pad i (npow (mul (T.drop i)) (AB.one (T.drop i)) (x.drop i) K))) w):=by
 have hs6:=hs.1;have hmk:=Kl T.length hs6;obtain⟨aO,cO,aP,cP,aC,cC,rfl,rfl,rfl,Eo,hP1,FC⟩:=hP.open;have HP:=hid hP;have HX:=hid hx;have DN:=hid C9;have HAT:=hid (MZ T hT hs i hi);have HG:=hid (BO (FK hT i) hg);have HO:=hid (Own.made (B:=w.heap.size+1) (w.alloc (.cells #[.slice aO T.length cO,.slice aP T.length cP,.slice aC T.length cC] 28)) T.length (by simp) (by unfold maxLen;omega));have HK:=hid hK;have HI:=hid hi;clear hP hx C9 hK;go_enter Tryz.func166,Tryz.ntmps166;go_wp2_with fail;go_loopw [3,9,10] (fun kv o b wr=>∃(k:Nat) (o' bv:List Nat),kv= .int .i64 (k:Int)∧k≤1000∧Own (w.heap.size+1) wr o (ints (pad i o'))∧AL Any wr b (ints bv)∧Hid (El (T.drop i) o'∧El (T.drop i) (bv.drop i)∧bv.length=T.length∧
   mul (T.drop i) o' (npow (mul (T.drop i)) (AB.one (T.drop i)) (bv.drop i) k)=npow (mul (T.drop i)) (AB.one (T.drop i)) (x.drop i) K)∧
   Below (w.heap.size+1) (w.alloc (.cells #[.slice aO T.length cO,.slice aP T.length cP,.slice aC T.length cC] 28)) wr) (fun kv _ _ _=>(intOf kv).toNat)
 case atStart=>
  refine⟨K,AB.one (T.drop i),x,rfl,HK.out,?_,HX.out.keep (((AJ.alloc _)).alloc _),hid ⟨HG.out.me,DN.out,hxl,HG.out.eL (HG.out.npow DN.out K)⟩,AX.alloc (by simp) _⟩;rw[YA T i HI.out];have:=HO.out;rw[OX]at this;simp only[World.size_alloc]at this;exact this
 case round=>
  obtain⟨k,o',bv,rfl,Dw,ho,hb,hR,hB⟩:=hrel;have hk:=Dc hB Any;obtain⟨e0,e1,e2⟩:=Cq hB;have Bc:=hid (HP.out.keep hk);have HOr:=hid ho;have Bi:=hid hb;have FO:=hid hB;have hsz:w.heap.size+1≤wr.heap.size:=by have:=hB.size;simp at this;omega
  clear ho hb hk hB;have hdb:(pad i o').length=T.length:=by rw[Bg,AZ hR.out.1];simp;omega
  by_cases h0:k=0
  ·subst h0;have HE:=hid hR.out.2.2.2;rw[JL]at HE;go_wp2_with fail;go_ret;have h1:=HOr.out;rw[HG.out.eR hR.out.1]at HE;rw[HE.out]at h1;exact⟨_,rfl,h1.mono (by omega),Dq FO.out⟩
  ·have h0':0<k:=by omega
   have h0i:(0:Int)<(k:Int):=by omega
   have hkd:((k:Int)/2)=((k/2:Nat):Int):=by omega
   have HKD:=hid hkd;by_cases hodd:k%2=1
   ·have h1:((k:Int)%2==1)=true:=by simp;omega
    have HE:=hid (HG.out.AJb hR.out.1 hR.out.2.1 hodd);have HOD:=hid hodd;clear hkd hodd h0;go_wp2_with fail;refine(HAT.out _ _ _ _ _ _ (pad i o') bv Bc.out (HOr.out.sl.mono (fun _ _=>trivial)) Bi.out hdb hR.out.2.2.1 (by rw[BJ];exact hR.out.1) hR.out.2.1).mono ?_;rintro e w5 ⟨v5,rfl,Aw,hb5⟩;rw[BJ]at Aw;have Ch:=hid (Aw.mono hsz);have Rq:=hid (AA.of_below (S:=Any) hb5);have Aa:=hid (FO.out.trans (hb5.mono hsz));have hsz5:w.heap.size+1≤w5.heap.size:=Ad hsz hb5.size;have e05:w5.cell? ⟨w.heap.size,0,none⟩=some (.slice aO T.length cO):=(Cq Aa.out).1;have e15:w5.cell? ⟨w.heap.size,1,none⟩=some (.slice aP T.length cP):=(Cq Aa.out).2.1;have e25:w5.cell? ⟨w.heap.size,2,none⟩=some (.slice aC T.length cC):=(Cq Aa.out).2.2;clear Aw hb5 e0 e1 e2;go_wp2_with fail;refine(HAT.out _ _ _ _ _ _ bv bv (Bc.out.keep Rq.out) (Bi.out.keep Rq.out) (Bi.out.keep Rq.out) hR.out.2.2.1 hR.out.2.2.1 hR.out.2.1 hR.out.2.1).mono ?_;rintro e w6 ⟨v6,rfl,A8,hb6⟩;have FP:=hid (Ch.out.of_below hb6);have yL:=hid (A8.sl.mono (S':=Any) (fun _ _=>trivial));have Ar:=hid (Aa.out.trans (hb6.mono hsz5));clear A8 hb6;go_wp2_with fail;go_roundw;case rel=>exact⟨k/2,mul (T.drop i) o' (bv.drop i),_,BM (Value.int .i64) (by omega),by omega,FP.out,yL.out,hid ⟨HG.out.cl hR.out.1 hR.out.2.1,by rw[BJ];exact HG.out.cl hR.out.2.1 hR.out.2.1,by rw[Bg,AZ (HG.out.cl hR.out.2.1 hR.out.2.1)];simp;have:=HI.out;omega,by rw[BJ,←HE.out];exact hR.out.2.2.2⟩,Ar.out⟩
    case measure=>simp[intOf];omega
   ·have h1:((k:Int)%2==1)=false:=by simp;omega
    have HE:=hid (HG.out.AIK (o:=o') hR.out.2.1 (show k%2=0 by omega));clear hkd hodd h0;go_wp2_with fail;refine(HAT.out _ _ _ _ _ _ bv bv (Bc.out) (Bi.out) (Bi.out) hR.out.2.2.1 hR.out.2.2.1 hR.out.2.1 hR.out.2.1).mono ?_;rintro e w6 ⟨v6,rfl,A8,hb6⟩;have FP:=hid (HOr.out.of_below hb6);have yL:=hid (A8.sl.mono (S':=Any) (fun _ _=>trivial));have Ar:=hid (FO.out.trans (hb6.mono hsz));clear A8 hb6;go_wp2_with fail;go_roundw;case rel=>exact⟨k/2,o',_,BM (Value.int .i64) (by omega),by omega,FP.out,yL.out,hid ⟨hR.out.1,by rw[BJ];exact HG.out.cl hR.out.2.1 hR.out.2.1,by rw[Bg,AZ (HG.out.cl hR.out.2.1 hR.out.2.1)];simp;have:=HI.out;omega,by rw[BJ,←HE.out];exact hR.out.2.2.2⟩,Ar.out⟩
    case measure=>simp[intOf];omega
end Go.Proofs.YtaadbccidfdniaaGreat.Nk
