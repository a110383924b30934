import Derived.Test.YtgjadpmbnejaoaaGreatZg
/-
  Lemmas for the law FnAutomorphisms, in short spelling.
-/
set_option linter.unusedVariables false
set_option linter.unusedSimpArgs false
set_option maxRecDepth 100000
set_option maxHeartbeats 40000000
namespace Go.Proofs.YtgjadpmbnejaoaaGreat
namespace Hf
open RowKit AJ FN BU QB FX
theorem KW {B:Nat}(w:World)(cs:Array Value)(x:List Int)(D:B<=w.heap.size)(C:x.length<=maxLen)(h:cs.toList=vals x):Own B (w.alloc (.cells cs 2)) (.slice (some ⟨w.heap.size,0,none⟩) x.length x.length) x:=by
 have:=JD (base:=B) (e:=2) (size:=1) w cs x.length D C (by rw[<-Array.length_toList,h];simp[vals]);rw[h]at this;exact this
theorem PM (n k:Nat)(D:n<=6)(I:k<n)(w:World):
  Calls Tryz.prog 185 #[.int .i64 (n:Int),.int .i64 (k:Int)] w (Dz (ints ((List.replicate n 0).set k 1)) w):=by
 have K:=Fb n D;have C:=Own.made (B:=w.heap.size) w n AV (by unfold maxLen;omega);obtain⟨L,J⟩:=C.cell (j:=k) (a:=0) (by simp[I]);have F:=AB (KW (B:=w.heap.size) w ((madeCells #[.int .i64 0] n).setIfInBounds k (.int .i64 1)) (ints ((List.replicate n 0).set k 1)) AV (by simp[ints];unfold maxLen;omega) (by
  rw[Array.toList_setIfInBounds,Kc];simp[vals,ints]))
 clear C;go_enter Tryz.func185,Tryz.ntmps185;go_wp2_with fail;go_ret;have:=F.AA;simp only[BK,List.length_set,Bp]at this;refine⟨_,rfl,this,AY.alloc AV _⟩
theorem O6 (T:Tw)(hT:Wf T)(hs:Small T)(i K:Nat)(hi:i<=T.length)(hg:AJ.Good (T.drop i))(hK:K<=1000)(w:World)(vO vP vC vx:Value)(x:List Nat)(l:Av Any w vO vP vC (AZ T))(hx:AP Any w vx (ints x))(a4:x.length=T.length)(a2:El (T.drop i) (x.drop i)):
  Calls Tryz.prog 192 #[.agg #[vO,vP,vC],.int .i64 (i:Int),vx,.int .i64 (K:Int)] w (Dz (ints (pad i (npow (mul (T.drop i)) (AJ.one (T.drop i)) (x.drop i) K))) w):=by
 have a6:=hs.1;have b1:=Fb T.length a6;obtain⟨j,u,r,cP,z,cC,rfl,rfl,rfl,b6,b2,b5⟩:=l.open;have HP:=AB l;have HX:=AB hx;have a3:=AB a2;have y:=AB (Jw T hT hs i hi);have F:=AB (BA (DJ hT i) hg);have HO:=AB (Own.made (B:=w.heap.size+1) (w.alloc (.cells #[.slice j T.length u,.slice r T.length cP,.slice z T.length cC] 28)) T.length (by simp) (by unfold maxLen;omega));have HK:=AB hK;have HI:=AB hi;clear l hx a2 hK;go_enter Tryz.func192,Tryz.ntmps192;go_wp2_with fail;go_loopw [3,9,10] (λZ o b wr=>∃(k:Nat) (I D:List Nat),Z= .int .i64 (k:Int)/\k<=1000/\Own (w.heap.size+1) wr o (ints (pad i I))/\AP Any wr b (ints D)/\Hid (El (T.drop i) I/\El (T.drop i) (D.drop i)/\D.length=T.length/\
   mul (T.drop i) I (npow (mul (T.drop i)) (AJ.one (T.drop i)) (D.drop i) k)=npow (mul (T.drop i)) (AJ.one (T.drop i)) (x.drop i) K)/\
   Below (w.heap.size+1) (w.alloc (.cells #[.slice j T.length u,.slice r T.length cP,.slice z T.length cC] 28)) wr) (λZ _ _ _=>(intOf Z).toNat)
 case atStart=>
  refine⟨K,AJ.one (T.drop i),x,rfl,HK.AA,?_,HX.AA.keep (((AL.alloc _)).alloc _),AB ⟨F.AA.me,a3.AA,a4,F.AA.eL (F.AA.npow a3.AA K)⟩,AY.alloc (by simp) _⟩;rw[Pj T i HI.AA];have:=HO.AA;rw[JS]at this;simp only[World.size_alloc]at this;exact this
 case round=>
  obtain⟨k,I,D,rfl,b0,ho,hb,C,N⟩:=hrel;have hk:=Cq N Any;obtain⟨e0,e1,e2⟩:=CY N;have a1:=AB (HP.AA.keep hk);have a:=AB ho;have O:=AB hb;have v:=AB N;have R:w.heap.size+1<=wr.heap.size:=by have:=N.size;simp at this;omega
  clear ho hb hk N;have a7:(pad i I).length=T.length:=by rw[BS,Ad C.AA.1];simp;omega
  by_cases d:k=0
  .subst d;have L:=AB C.AA.2.2.2;rw[GR]at L;go_wp2_with fail;go_ret;have X:=a.AA;rw[F.AA.eR C.AA.1]at L;rw[L.AA]at X;exact⟨_,rfl,X.mono (by omega),Cy v.AA⟩
  .have b3:0<k:=by omega
   have b8:(0:Int)<(k:Int):=by omega
   have g:((k:Int)/2)=((k/2:Nat):Int):=by omega
   have c0:=AB g;by_cases W:k%2=1
   .have X:((k:Int)%2==1)=true:=by simp;omega
    have L:=AB (F.AA.qH C.AA.1 C.AA.2.1 W);have b4:=AB W;clear g W d;go_wp2_with fail;refine(y.AA _ _ _ _ _ _ (pad i I) D a1.AA (a.AA.sl.mono (λ_ _=>trivial)) O.AA a7 C.AA.2.2.1 (by rw[BJ];exact C.AA.1) C.AA.2.1).mono ?_;rintro e V ⟨v5,rfl,a0,Y⟩;rw[BJ]at a0;have a8:=AB (a0.mono R);have s:=AB (AO (S:=Any) Y);have U:=AB (v.AA.trans (Y.mono R));have a5:w.heap.size+1<=V.heap.size:=Ae R Y.size;have b9:V.cell? ⟨w.heap.size,0,none⟩=some (.slice j T.length u):=(CY U.AA).1;have a9:V.cell? ⟨w.heap.size,1,none⟩=some (.slice r T.length cP):=(CY U.AA).2.1;have b7:V.cell? ⟨w.heap.size,2,none⟩=some (.slice z T.length cC):=(CY U.AA).2.2;clear a0 Y e0 e1 e2;go_wp2_with fail;refine(y.AA _ _ _ _ _ _ D D (a1.AA.keep s.AA) (O.AA.keep s.AA) (O.AA.keep s.AA) C.AA.2.2.1 C.AA.2.2.1 C.AA.2.1 C.AA.2.1).mono ?_;rintro e w6 ⟨v6,rfl,Q,J⟩;have p:=AB (a8.AA.of_below J);have h:=AB (Q.sl.mono (S':=Any) (λ_ _=>trivial));have q:=AB (U.AA.trans (J.mono a5));clear Q J;go_wp2_with fail;go_roundw;case rel=>exact⟨k/2,mul (T.drop i) I (D.drop i),_,Ck (Value.int .i64) (by omega),by omega,p.AA,h.AA,AB ⟨F.AA.cl C.AA.1 C.AA.2.1,by rw[BJ];exact F.AA.cl C.AA.2.1 C.AA.2.1,by rw[BS,Ad (F.AA.cl C.AA.2.1 C.AA.2.1)];simp;have:=HI.AA;omega,by rw[BJ,<-L.AA];exact C.AA.2.2.2⟩,q.AA⟩
    case measure=>simp[intOf];omega
   .have X:((k:Int)%2==1)=false:=by simp;omega
    have L:=AB (F.AA.lX (o:=I) C.AA.2.1 (show k%2=0 by omega));clear g W d;go_wp2_with fail;refine(y.AA _ _ _ _ _ _ D D (a1.AA) (O.AA) (O.AA) C.AA.2.2.1 C.AA.2.2.1 C.AA.2.1 C.AA.2.1).mono ?_;rintro e w6 ⟨v6,rfl,Q,J⟩;have p:=AB (a.AA.of_below J);have h:=AB (Q.sl.mono (S':=Any) (λ_ _=>trivial));have q:=AB (v.AA.trans (J.mono R));clear Q J;go_wp2_with fail;go_roundw;case rel=>exact⟨k/2,I,_,Ck (Value.int .i64) (by omega),by omega,p.AA,h.AA,AB ⟨C.AA.1,by rw[BJ];exact F.AA.cl C.AA.2.1 C.AA.2.1,by rw[BS,Ad (F.AA.cl C.AA.2.1 C.AA.2.1)];simp;have:=HI.AA;omega,by rw[BJ,<-L.AA];exact C.AA.2.2.2⟩,q.AA⟩
    case measure=>simp[intOf];omega
end Hf
end Go.Proofs.YtgjadpmbnejaoaaGreat
