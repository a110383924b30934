import Derived.Test.YtgjadpmbnejaoaaGreatZq
import Derived.Test.YtgjadpmbnejaoaaGreatZm
/-
  Lemmas for the law FnAutomorphisms, in short spelling.
-/
set_option linter.unusedVariables false
set_option linter.unusedSimpArgs false
set_option maxRecDepth 100000
set_option maxHeartbeats 40000000
namespace Go.Proofs.YtgjadpmbnejaoaaGreat
namespace Mi
open RowKit AJ Km Val Kh IP aK Ba
def QD (T:Tw)(w:World)(e:Ending)(w':World):Prop:=∃r:Nat,e= .returned (.int .i64 (r:Int))/\(r=0↔AJ.Good T)/\Below w.heap.size w w'
theorem PN (T:Tw)(hT:Wf T)(S:Small T)(w:World)(b o:Nat)(J:BH Any w b o (AZ T)):
  Calls Tryz.prog 94 #[.pointer (some ⟨b,o,none⟩)] w (QD T w):=by
 have z:=S.1;have R:=AB J;obtain⟨_,r,vO,x,j,g,d,Y,V⟩:=J;obtain⟨p,y,v,s,q,cC,rfl,rfl,rfl,a0,a2,a1⟩:=V.open;have U:=AB (λi L I hg W J=>Tx T hT S i L I hg W b o J);clear V d Y;go_enter Tryz.func94,Tryz.ntmps94;go_wp2_with fail;clear g;go_loopw [3] (λi wr=>∃k:Nat,k<=T.length/\i= .int .i64 (k:Int)/\Hid (AJ.Good (T.drop k))/\Below w.heap.size w wr) (λi _=>(intOf i).toNat);case atStart=>exact⟨T.length,Al _,rfl,AB (by rw[JZ];trivial),BB _ _⟩
 case round=>
  obtain⟨k,u,rfl,hg,Q⟩:=hrel;have B:=AB Q;clear Q;by_cases N:k=0
  .subst N;go_wp2_with fail;go_ret;exact⟨0,rfl,⟨λ_=>hg.AA,λ_=>rfl⟩,B.AA⟩
  .obtain⟨i,rfl⟩:∃i,k=i+1:=⟨k-1,by omega⟩;have hd:decide (((i+1:Nat):Int)>0)=true:=by first|(simp;omega)|simp
   obtain⟨L,I⟩:∃L,T[i]?=some L:=⟨_,AU (by omega)⟩;have X:=AB I;have O:=AB (show AJ.Good (T.drop i)↔Ep L (T.drop (i+1)) from by
    rw[EB I,XA];exact⟨λh=>h.2,λh=>⟨hg.AA,h⟩⟩)
   clear I N;by_cases K:Ep L (T.drop (i+1))
   .have D:=AB K;clear K;go_wp2_with (go_at_call 158;refine(U.AA i L X.AA hg.AA _ (R.AA.keep (AO B.AA))).mono ?_;rintro e Z ⟨k,l,a,b,rfl,F,C⟩;obtain⟨rfl,rfl,rfl,rfl⟩:=F.2 D.AA;replace C:=AB C);go_roundw;case rel=>exact⟨i,by omega,rfl,AB (O.AA.2 D.AA),B.AA.trans (C.AA.mono B.AA.size)⟩
    case measure=>simp[intOf]<;>omega
   .have D:=AB K;clear K;go_wp2_with (go_at_call 158;refine(U.AA i L X.AA hg.AA _ (R.AA.keep (AO B.AA))).mono ?_;rintro e Z ⟨k,l,a,b,rfl,F,C⟩;replace F:=AB (λh=>D.AA (F.1 h));replace C:=AB C);all_goals first
     |(go_ret;exact⟨i+1,rfl,⟨λh=>absurd h (by omega),λh=>absurd (O.AA.1 (KQ h i)) D.AA⟩,B.AA.trans (C.AA.mono B.AA.size)⟩)
     |exact(F.AA ⟨by assumption,by assumption,by assumption,by assumption⟩).elim
     |trace_state
theorem TU {w W:World}{C D B:Value}{t:TypeId}{P:BZ}(h:Av Any w C D B P)(F:Below (w.heap.size+1) (w.alloc (.cells #[C,D,B] t)) W):BH Any W w.heap.size 0 P:=by
 have K:=F.size;simp at K;obtain⟨I,J,e2⟩:=CY F;exact⟨trivial,by omega,C,D,B,I,J,e2,h.keep (AO (Cy F))⟩
theorem LA (w:World)(O N I:Value)(P:BZ)(a:Av Any w O N I P):
  Calls Tryz.prog 47 #[.agg #[O,N,I]] w (Kv (BR P) w):=by
 have S:=AB a;have Z:=AB (λW h=>IP.MG W O N I P h);have p:=AB (λT (hT:Wf T) (L:Small T) W b o h=>PN T hT L W b o h);clear a;have U:Hid (Below w.heap.size w (w.alloc (.cells #[O,N,I] 28))):=AB (AY.alloc (by simp) _);by_cases C:Valid P
 .obtain⟨T,hT,L,rfl⟩:=C.tower;have X:=AB C;have g:=AB hT;have d:=AB L;clear C hT L;have R:Hid (¬AJ.Good T->¬BR (AZ T)):=AB (λhg h=>hg h.good);go_enter Tryz.func47,Tryz.ntmps47;go_wp2_with fail;refine(Z.AA _ (S.AA.keep (AO U.AA))).mono ?_;rintro e l ⟨r,rfl,B,F⟩;obtain rfl:=B.2 X.AA;have Q:=AB (AY.trans (F.mono (show w.heap.size+1<=_ by simp)));have D:=AB (Cy Q.AA);have i:=Q.AA.size;simp at i;clear F B;go_wp2_with (go_at_call 94;refine(p.AA T g.AA d.AA _ _ _ (TU S.AA Q.AA)).mono ?_;rintro e j ⟨r,rfl,B,K⟩;replace K:=AB K;by_cases J:r=0)
  .subst J;have V:=AB (B.1 rfl);clear B;go_wp2_with fail;go_ret;exact Nc ⟨T,g.AA,d.AA,rfl,X.AA,V.AA⟩ (D.AA.trans (K.AA.mono D.AA.size))
  .have V:=AB (show¬AJ.Good T from λh=>J (B.2 h));have q:((r:Int)==0)=false:=by simpa using J
   clear B J;go_wp2_with fail;go_ret;refine(show∀{v},v=Value.bool false->Kv (BR (AZ T)) w (.returned v) j from λC=>C▸EI (R.AA V.AA) (D.AA.trans (K.AA.mono D.AA.size))) (Ck Value.bool q)
 .have Y:=AB C;have R:Hid (¬BR P):=AB (by rintro⟨s,_,_,_,h,_⟩;exact Y.AA h);clear C;go_enter Tryz.func47,Tryz.ntmps47;go_wp2_with fail;refine(Z.AA _ (S.AA.keep (AO U.AA))).mono ?_;rintro e l ⟨r,rfl,B,F⟩;obtain rfl:=(Bool.eq_false_iff.2 (λh=>Y.AA (B.1 h)));have D:=AB (U.AA.trans (F.mono (by simp)));clear F B;go_wp2_with fail;go_ret;exact EI R.AA D.AA
end Mi
namespace Gz
open RowKit AJ BN Oc
abbrev Any:Nat->Prop:=λ_=>True
theorem wJ {T:Tw}(hT:Wf T)(F:sz T<=729){i:Nat}{L:Lv}(B:T[i]?=some L):1<=L.o/\L.o<=729:=by
 have C:=WR T hT i;have J:=(En hT B).2.2.2.2;have D:=FM (En hT B).1;rw[Jt B]at C;have I:L.o*1<=L.o*sz (T.drop (i+1)):=Md _ D;omega
theorem Ul (i a:Nat)(y:List Nat):(pad (i+1) y).set i a=pad i (a::y):=by
 unfold pad;rw[List.set_append_left _ _ (by simp),IK];simp[List.set_append]
theorem wrap_i64 {x:Int}(B:0<=x)(C:x<=1000000):wrap64 x=x:=by unfold wrap64;omega
def Kn (n:Nat)(w:World)(e:Ending)(w':World):Prop:=e= .returned (.int .i64 (n:Int))/\Below w.heap.size w w'
theorem Gs (T:Tw)(hT:Wf T)(y:T.length<=6)(F:sz T<=729)(w:World)(b o:Nat)(R:BH Any w b o (AZ T)):
  Calls Tryz.prog 48 #[.pointer (some ⟨b,o,none⟩)] w (Kn (sz T) w):=by
 obtain⟨_,x,vO,vP,h,Y,X,S,D⟩:=R;obtain⟨j,cO,aP,cP,v,cC,rfl,rfl,rfl,a1,a4,a3⟩:=D.open;have Q:=AB D;have d:=AB hT;have W:=AB F;clear D X S F hT;go_enter Tryz.func48,Tryz.ntmps48;go_wp2_with fail;clear Y;go_loopw [3,11] (λq i wr=>∃k:Nat,k<=T.length/\i= .int .i64 (k:Int)/\∃z:Int,q= .int .i64 z/\0<=z/\z<=729/\Hid (z*(sz (T.drop k):Int)=(sz T:Int))/\Below w.heap.size w wr) (λ_ i _=>T.length-(intOf i).toNat);case atStart=>exact⟨0,AX _,rfl,1,rfl,by omega,by omega,AB (by simp),BB _ _⟩
 case round=>
  obtain⟨k,hk,rfl,z,rfl,V,r,K,I⟩:=hrel;have C:=AB I;clear I;by_cases a:k<T.length
  .obtain⟨L,B⟩:∃L,T[k]?=some L:=⟨_,AU a⟩;obtain⟨l,oO,rfl,_,a0,a2⟩:=(Q.AA.keep (AO C.AA)).ord B;have Z:decide ((k:Int)<(T.length:Int))=true:=by simp;omega
   have J:z*(L.o:Int)*(sz (T.drop (k+1)):Int)=(sz T:Int):=by
    rw[<-K.AA,Jt B];push_cast;rw[Int.mul_assoc]
   have N:0<=z*(L.o:Int):=Int.mul_nonneg V (by omega);have U:z*(L.o:Int)<=729:=by
    have s:=FM (En d.AA B).1;have u:z*(L.o:Int)*1<=z*(L.o:Int)*(sz (T.drop (k+1)):Int):=Int.mul_le_mul_of_nonneg_left (by omega) N;have p:=W.AA;omega
   have g:=AB J;clear J B;go_wp2_with fail;go_roundw;case rel=>exact⟨k+1,by omega,by go_num,_,rfl,N,U,g,C.AA⟩
   case measure=>simp[intOf];omega
  .obtain rfl:k=T.length:=by omega
   have Z:decide ((T.length:Int)<(T.length:Int))=false:=by simp
   have O:z=(sz T:Int):=by have:=K.AA;rw[OB]at this;simpa using this
   subst O;go_wp2_with fail;go_ret;exact⟨rfl,C.AA⟩
theorem Qg (T:Tw)(hT:Wf T)(hs:T.length<=6)(O:sz T<=729)(w:World)(b o:Nat)(N:Value)(x:List Nat)(Y:BH Any w b o (AZ T))(F:AP Any w N (ints x))(B:El T x):
  Calls Tryz.prog 149 #[.pointer (some ⟨b,o,none⟩),N] w (Kn (num T x) w):=by
 obtain⟨_,j,vO,vP,vC,K,y,Z,J⟩:=Y;obtain⟨U,u,aP,cP,aC,cC,rfl,rfl,rfl,a4,a7,a6⟩:=J.open;obtain⟨aX,cX,rfl,g⟩:=F.open;have V:=Ad B;rw[V]at g F ⊢;have s:Hid (∀W,Below w.heap.size w W->W.cell? ⟨b,o,none⟩=some (.slice U T.length u)):=AB (λW h=>((h.cell (p:=⟨b,o,none⟩) j).trans K));have X:=AB J;have r:=AB F;have Q:=AB hT;have v:=AB O;have HE:=AB B;clear J y Z O hT B F K;go_enter Tryz.func149,Tryz.ntmps149;go_wp2_with fail;go_loopw [5,10] (λq i wr=>∃k:Nat,k<=T.length/\i= .int .i64 (k:Int)/\∃z:Int,q= .int .i64 z/\0<=z/\Hid (z*(sz (T.drop k):Int)+(num (T.drop k) (x.drop k):Int)=(num T x:Int))/\Below w.heap.size w wr) (λ_ i _=>T.length-(intOf i).toNat);case atStart=>exact⟨0,AX _,rfl,0,rfl,by omega,AB (by simp),BB _ _⟩
 case round=>
  obtain⟨k,hk,rfl,z,rfl,l,R,I⟩:=hrel;have D:=AB I;have K:=s.AA _ I;clear I;by_cases a0:k<T.length
  .obtain⟨L,C⟩:∃L,T[k]?=some L:=⟨_,AU a0⟩;obtain⟨a,ha⟩:∃a,x[k]?=some a:=⟨_,AU (by omega)⟩;obtain⟨bO,oO,rfl,_,a2,a5⟩:=(X.AA.keep (AO D.AA)).ord C;obtain⟨bX,oX,rfl,_,a3,a1⟩:=(r.AA.keep (AO D.AA)).at ha;have hd:decide ((k:Int)<(T.length:Int))=true:=by simp;omega
   have B:(z*(L.o:Int)+(a:Int))*(sz (T.drop (k+1)):Int)+(num (T.drop (k+1)) (x.drop (k+1)):Int)=(num T x:Int):=by
    rw[<-R.AA,Jt C,Xp C ha];push_cast;rw[Int.add_mul,Int.mul_assoc];omega
   have b1:0<=z*(L.o:Int):=Int.mul_nonneg l (by omega);have b2:z*(L.o:Int)+(a:Int)<=729:=by
    have h1:=FM (En Q.AA C).1;have h2:(z*(L.o:Int)+(a:Int))*1<=(z*(L.o:Int)+(a:Int))*(sz (T.drop (k+1)):Int):=Int.mul_le_mul_of_nonneg_left (by omega) (by omega);have h3:=v.AA;have h4:=Em HE.AA Q.AA;omega
   have d:=AB B;clear B C ha;go_wp2_with fail;go_roundw;case rel=>exact⟨k+1,by omega,by go_num,_,rfl,by omega,d,D.AA⟩
   case measure=>simp[intOf];omega
  .obtain rfl:k=T.length:=by omega
   have hd:decide ((T.length:Int)<(T.length:Int))=false:=by simp
   have S:z=(num T x:Int):=by have:=R.AA;rw[OB,Yk]at this;simpa using this
   subst S;go_wp2_with fail;go_ret;exact⟨rfl,D.AA⟩
theorem Jw (T:Tw)(hT:Wf T)(hs:T.length<=6)(Y:sz T<=729)(q:Nat)(d:q<=1000000)(w:World)(b o:Nat)(hP:BH Any w b o (AZ T)):
  Calls Tryz.prog 101 #[.pointer (some ⟨b,o,none⟩),.int .i64 (q:Int)] w (CX (ints (at_ T q)) w):=by
 obtain⟨_,a4,vO,vP,vC,V,a8,a3,N⟩:=hP;obtain⟨v,U,aP,cP,aC,cC,rfl,rfl,rfl,b8,b1,b9⟩:=N.open;have b6:=Fb T.length hs;have r:Hid (∀W,Below w.heap.size w W->W.cell? ⟨b,o,none⟩=some (.slice v T.length U)):=AB (λW h=>((h.cell (p:=⟨b,o,none⟩) a4).trans V));have a6:=AB (Own.made (B:=w.heap.size) w T.length AV (by unfold maxLen;omega));have a1:=AB ((BB w.heap.size w).alloc AV (.cells (madeCells #[.int .i64 0] T.length) 2));have HV:=AB N;have HT:=AB hT;have HZ:=AB Y;have HQ:=AB d;clear N a8 a3 Y hT d;go_enter Tryz.func101,Tryz.ntmps101;go_wp2_with fail;clear V;go_loopw [1,6] (λqv R wr=>∃k:Nat,k<=T.length/\R= .int .i64 ((k:Int)-1)/\∃z:Nat,qv= .int .i64 (z:Int)/\Hid (z=q/sz (T.drop k)/\z<=1000000)/\∃x:List Nat,Own w.heap.size wr (.slice (some ⟨w.heap.size,0,none⟩) T.length T.length) (ints x)/\Hid (x=pad k (at_ (T.drop k) q))/\Below w.heap.size w wr) (λ_ R _=>(intOf R+1).toNat);case atStart=>exact⟨T.length,Al _,rfl,q,rfl,AB ⟨by rw[OB];simp,HQ.AA⟩,AJ.one T,by have:=a6.AA;rw[JS]at this;exact this,AB (by simp[at_,pad,AJ.one]),a1.AA⟩
 case round=>
  obtain⟨k,hk,rfl,z,rfl,C,x,g,S,F⟩:=hrel;have K:=AB F;have J:=AB g;have V:=r.AA _ F;have a0:∀u i,(wr.setCell ⟨w.heap.size,i,none⟩ u).cell? ⟨b,o,none⟩=some (.slice v T.length U):=λu i=>r.AA _ (F.setCell (p:=⟨w.heap.size,i,none⟩) AV u);clear F g;by_cases X:k=0
  .subst X;have hd:decide (((0:Nat):Int)-1>=0)=false:=by decide
   go_wp2_with fail;go_ret;have a5:x=at_ T q:=by have:=S.AA;simpa[pad]using this
   subst a5;have hl:(ints (at_ T q)).length=T.length:=by rw[BK,PG]
   refine⟨w.heap.size,T.length,by rw[hl];rfl,?_,K.AA⟩;rw[hl];exact J.AA
  .obtain⟨i,rfl⟩:∃i,k=i+1:=⟨k-1,by omega⟩;obtain⟨L,I⟩:∃L,T[i]?=some L:=⟨_,AU (by omega)⟩;have s:(((i+1:Nat):Int)-1)=(i:Int):=by omega
   rw[s];obtain⟨D,O,rfl,_,Z,Q⟩:=HV.AA.ord I;have b0:wr.cell? ⟨D,O+i,none⟩=some (.int .i64 (L.o:Int)):=by rw[K.AA.cell Z];exact Q
   have b4:=J.AA.lt;have b5:D≠w.heap.size:=by omega
   have y:=wJ HT.AA HZ.AA I;have a9:=y.1;have b2:x.length=T.length:=by rw[S.AA,BS,PG,Cv];omega
   obtain⟨xi,a7⟩:∃a,x[i]?=some a:=⟨_,AU (by omega)⟩;obtain⟨s1,f1⟩:=J.AA.cell (j:=i) (a:=(xi:Int)) (by rw[Dt,a7];rfl);have k1:∀u,(wr.setCell ⟨w.heap.size,i,none⟩ u).cell? ⟨D,O+i,none⟩=some (.int .i64 (L.o:Int)):=λu=>by rw[(K.AA.setCell (p:=⟨w.heap.size,i,none⟩) AV u).cell Z];exact Q
   have k2:∀u,(wr.setCell ⟨w.heap.size,i,none⟩ u).cell? ⟨b,o,none⟩=some (.slice (some ⟨D,O,none⟩) T.length U):=λu=>a0 u i;have b3:(0:Int)<=(z:Int)%(L.o:Int):=Int.emod_nonneg _ (by omega);have b7:((L.o:Int)==0)=false:=by simp;omega
   have l:=AB I;have a2:=AB (show wrap64 ((z:Int)/(L.o:Int))=(z:Int)/(L.o:Int) from by
    have h1:(0:Int)<=(z:Int)/(L.o:Int):=Int.ediv_nonneg (by omega) (by omega);have h2:(z:Int)/(L.o:Int)<=(z:Int):=Int.ediv_le_self _ (by omega);have h3:=C.AA.2;exact wrap_i64 h1 (by omega))
   clear I X s Q y a0;go_wp2_with fail;go_roundw;case rel=>
    refine⟨i,by omega,rfl,z/L.o,by rw[a2.AA];simp,AB ⟨?_,?_⟩,pad i (at_ (T.drop i) q),?_,AB rfl,K.AA.setCell (by simp) _⟩
    .rw[C.AA.1,Xq l.AA]
    .exact Ae (Nat.div_le_self _ _) C.AA.2
    .have h:=J.AA.Iz i (z%L.o);have e:x.set i (z%L.o)=pad i (at_ (T.drop i) q):=by
      rw[S.AA,Yl l.AA,C.AA.1,Ul]
     rw[e]at h;simpa using h.1
   case measure=>simp[intOf]<;>omega
end Gz
namespace Mj
open RowKit AJ BN Gz
def Ib (T:Tw)(k:Nat):List (List Nat):=(List.range k).map (at_ T)
theorem kE (T:Tw)(k:Nat):Ib T (k+1)=Ib T k++[at_ T k]:=by simp[Ib,FB]
theorem MF (T:Tw)(k:Nat):(Ib T k).length=k:=by simp[Ib]
theorem Ya (T:Tw)(hT:Wf T)(d:T.length<=6)(D:sz T<=729)(w:World)(b o:Nat)(U:BH Any w b o (AZ T)):
  Calls Tryz.prog 148 #[.pointer (some ⟨b,o,none⟩)] w (Mv 24 2 (Ib T (sz T)) w):=by
 obtain⟨i0,hi,a1,a3,z⟩:=Bd GJ;have x:=AB (λW h=>Gs T hT d D W b o h);have HA:=AB (λq hq W h=>Jw T hT d D q hq W b o h);have Z:=AB U;have K:=AB D;clear U hT D;go_enter Tryz.func148,Tryz.ntmps148;go_wp2_with fail;refine(x.AA _ Z.AA).mono ?_;rintro e w0 ⟨rfl,l⟩;have a0:=AB l;clear l;go_wp2_with fail;go_loopw [3,7] (λov i wr=>∃k:Nat,k<=sz T/\i= .int .i64 (k:Int)/\Hid (Own2 24 2 w.heap.size wr ov (Ib T k))/\Below w.heap.size w wr) (λ_ i _=>sz T-(intOf i).toNat);case atStart=>exact⟨0,AX _,rfl,AB (Own2.nil _ _ _ _),a0.AA⟩
 case round=>
  obtain⟨k,hk,rfl,O,R⟩:=hrel;have C:=AB R;clear R;by_cases a4:k<sz T
  .have hd:decide ((k:Int)<(sz T:Int))=true:=by simp;omega
   go_wp2_with fail;refine(HA.AA k (by have:=K.AA;omega) _ (Z.AA.keep (AO C.AA))).mono ?_;rintro e Y ⟨g,c,rfl,a,L⟩;have F:=AB (C.AA.trans (L.mono C.AA.size));have p:=AB (CX.row (a.mono (B':=w.heap.size) C.AA.size));obtain⟨us,B,X,v⟩:=O.AA.of_below L;have N:=AB (And.intro X v);rw[MF]at B;clear a L X v O;go_wp2_with (at_builtin;(refine DR _ rfl _ _ 25 rfl w.heap.size 24 i0 (.slice none 0 0) 1 24 Tryz.underlying25 hi a1 a3 z rfl (by decide) _ _ _ rfl (B.alloc _) ⟨Y.heap.size,0,none⟩ 1 1 [.slice (some ⟨g,0,none⟩) (ints (at_ T k)).length c] rfl rfl ?c1 ?c2 ?c3 ?c4 ?c5 ?_));case c1=>
    intro j u I
    match j,I with
    |0,I=>simp at I;subst I;simp[Addr.add]
   case c2=>intro u J;simp at J;subst J;rfl
   case c3=>have:=K.AA;unfold maxLen;omega
   case c4=>have:=K.AA;omega
   case c5=>have:=F.AA.size;simp;omega
   .intro v' V s Q _;have y:=AB (show Own2 24 2 w.heap.size V v' (Ib T (k+1)) from by
     rw[kE];exact Own2.push (w:=Y.alloc _) (us:=us) (by decide) (MF T k) (B.alloc _) N.AA.1 (λi r u hr J=>(N.AA.2 i r u hr J).keep (S:=λ_=>True) (AL.alloc _) (λ_ _=>trivial)) (p.AA.keep (S:=λ_=>True) (AL.alloc _) (λ_ _=>trivial)) s Q)
    have a2:=AB (show Below w.heap.size w V from(F.AA.alloc (by have:=F.AA.size;omega) _).grown Q (by simp;have:=F.AA.size;omega) (λg hg=>(Aq B g hg).1));have a5:(k:Int)<=729:=by have:=K.AA;omega
    clear s Q B N p;go_wp2_with fail;go_roundw;case rel=>exact⟨k+1,by omega,by go_num,y,a2.AA⟩
    case measure=>simp[intOf];omega
  .obtain rfl:k=sz T:=by omega
   have hd:decide ((sz T:Int)<(sz T:Int))=false:=by simp
   go_wp2_with fail;go_ret;exact⟨_,rfl,O.AA,C.AA⟩
end Mj
namespace Jc
open RowKit AJ BN Gz Mj
def pr (T:Tw)(i j:Nat):Nat:=num T (mul T (at_ T i) (at_ T j))
def Fh (T:Tw)(i k:Nat):List Nat:=(List.range k).map (pr T i)
def FQ (T:Tw)(k:Nat):List (List Nat):=(List.range k).map λi=>Fh T i (sz T)
theorem XM (T:Tw)(i k:Nat):Fh T i (k+1)=Fh T i k++[pr T i k]:=by simp[Fh,FB]
theorem kF (T:Tw)(k:Nat):FQ T (k+1)=FQ T k++[Fh T k (sz T)]:=by simp[FQ,FB]
theorem O5 (T:Tw)(i k:Nat):(Fh T i k).length=k:=by simp[Fh]
theorem TQ (T:Tw)(k:Nat):(FQ T k).length=k:=by simp[FQ]
theorem X4 {T:Tw}{n i:Nat}(h:i<n):(Ib T n)[i]?=some (at_ T i):=by simp[Ib,h]
def ND (e:TypeId)(B:Nat)(w:World)(v:Value)(x:List Nat):Prop:=w.ownsRow B e 1 v x.length (vals (ints x))/\(v= .slice none 0 0↔x=[])
theorem ND.row {e:TypeId}{B:Nat}{w:World}{v:Value}{x:List Nat}(h:ND e B w v x)(D:0<x.length):CZ e B w v x:=by
 refine⟨?_,h.1⟩;rcases h.1.2 with⟨_,C⟩|⟨g,cap,F,e,_⟩
 .omega
 .exact⟨g,cap,e⟩
theorem ND.keep {e:TypeId}{B:Nat}{S:Nat->Prop}{w w':World}{v:Value}{x:List Nat}(h:ND e B w v x)(C:Keep S w w')(D:∀k,B<=k->S k):ND e B w' v x:=⟨Aw h.1 C D,h.2⟩
theorem jJ (T:Tw)(hT:Wf T)(hs:Small T)(hg:AJ.Good T)(l:sz T<=729)(w:World)(b o:Nat)(O:BH Any w b o (AZ T)):
  Calls Tryz.prog 89 #[.pointer (some ⟨b,o,none⟩)] w (Mv 80 3 (FQ T (sz T)) w):=by
 obtain⟨i0,hi,b9,c6,d2⟩:=Bd Z5;obtain⟨j0,B,b7,e0,d4⟩:=Bd Rv;have HE:=AB (λW h=>Ya T hT hs.1 l W b o h);have HM:Hid (∀W Z v x y,BH Any W b o (AZ T)->AP Any W Z (ints x)->DW.NN Z->AP Any W v (ints y)->El T x->El T y->Calls Tryz.prog 145 #[.pointer (some ⟨b,o,none⟩),Z,v] W (CX (ints (mul T x y)) W)):=
  AB (λW Z v x y O ha hn p hx hy=>DW.Qc T hT hs 0 (AX _) hg W b o Z v x y O ha hn p hx hy)
 have HN:=AB (λW vx x O hx Q=>Qg T hT hs.1 l W b o vx x O hx Q);have HP:=AB O;have L:=AB l;have U:=AB hT;have HG:=AB hg;clear O hT l hs hg;go_enter Tryz.func89,Tryz.ntmps89;go_wp2_with fail;refine(HE.AA _ HP.AA).mono ?_;rintro e I ⟨v3,rfl,Q,b5⟩;obtain⟨a3,c3,rfl,a8,d3⟩:=Q.form;rw[MF]at a8 ⊢;rw[MF]at Q;have K:=AB b5;have b6:=AB Q;clear b5 Q d3 a8;go_wp2_with fail;go_loopw [4,14] (λov i wr=>∃k:Nat,k<=sz T/\i= .int .i64 (k:Int)/\Hid (Own2 80 3 I.heap.size wr ov (FQ T k))/\Below I.heap.size I wr) (λ_ i _=>sz T-(intOf i).toNat);case atStart=>exact⟨0,AX _,rfl,AB (Own2.nil _ _ _ _),BB _ _⟩
 case round=>
  obtain⟨k,hk,rfl,a9,p⟩:=hrel;rename World=>F;have X:=AB p;clear p;by_cases e2:k<sz T
  .have hd:decide ((k:Int)<(sz T:Int))=true:=by simp;omega
   obtain⟨gE,cE,ux,R,e3,e4,e6,q⟩:=(b6.AA.of_below X.AA).at (X4 e2);obtain⟨rfl,_,rfl⟩:a3=some ⟨gE,0,none⟩/\True/\c3=cE:=by have h:=R;simp[MF]at h;exact⟨h.1,trivial,h.2⟩
   have d5:=AB q;obtain⟨⟨gx,cx,rfl⟩,q⟩:=q;clear q R;go_wp2_with fail;go_loopw [7,20] (λrv j wq=>∃m:Nat,m<=sz T/\j= .int .i64 (m:Int)/\Hid (ND 3 F.heap.size wq rv (Fh T k m))/\Below F.heap.size F wq) (λ_ j _=>sz T-(intOf j).toNat);case atStart=>exact⟨0,AX _,rfl,AB ⟨FY _ _ _ _,by simp[Fh]⟩,BB _ _⟩
   case round=>
    obtain⟨m,hm,rfl,V,a4⟩:=hrel;have a:=AB a4;have D:=AB (X.AA.trans (a4.mono X.AA.size));clear a4;by_cases b8:m<sz T
    .have d6:decide ((m:Int)<(sz T:Int))=true:=by simp;omega
     obtain⟨c9,d1,uy,R,d8,d0,e5,z⟩:=(b6.AA.of_below D.AA).at (X4 b8);obtain⟨rfl,_,rfl⟩:gE=c9/\True/\c3=d1:=by have h:=R;simp[MF]at h;exact⟨h.1,trivial,h.2⟩
     have b4:=AB z;obtain⟨⟨gy,cy,rfl⟩,z⟩:=z;clear z R d8 d0;go_wp2_with fail;refine(HM.AA _ _ _ _ _ (HP.AA.keep (AO (K.AA.trans (D.AA.mono K.AA.size)))) ((d5.AA.keep (S:=λ_=>True) (AO a.AA) (λ_ _=>trivial)).sl.mono (λ_ _=>trivial)) (λn c=>by simp) (b4.AA.sl.mono (λ_ _=>trivial)) (Cb U.AA k) (Cb U.AA m)).mono ?_;rintro e w1 ⟨g1,c1,rfl,b0,a0⟩;have b3:=AB (b0.sl.mono (S':=λ_=>True) (λ_ _=>trivial));have a5:=AB (a.AA.trans (a0.mono a.AA.size));have a2:=AB (D.AA.trans (a0.mono D.AA.size));have b1:=AB (V.AA.keep (S:=λ_=>True) (AO a0) (λ_ _=>trivial));clear b0 a0 V b4 a D;go_wp2_with fail;refine(HN.AA _ _ _ (HP.AA.keep (AO (K.AA.trans (a2.AA.mono K.AA.size)))) b3.AA (Bz U.AA (Cb U.AA k) (Cb U.AA m))).mono ?_;rintro e s ⟨rfl,a1⟩;have Y:=AB (a5.AA.trans (a1.mono a5.AA.size));have d7:=AB (a2.AA.trans (a1.mono a2.AA.size));have a7:=AB (b1.AA.keep (S:=λ_=>True) (AO a1) (λ_ _=>trivial));have C:=a7.AA.1;rw[O5]at C;clear a1 b1 a5 a2 b3;go_wp2_with (at_builtin;refine DR _ rfl _ _ 80 rfl F.heap.size 3 j0 (.int .i64 0) 1 8 Tryz.underlying80 B b7 e0 d4 rfl (by decide) _ _ _ rfl (C.alloc _) ⟨s.heap.size,0,none⟩ 1 1 [.int .i64 ((pr T k m:Nat):Int)] rfl rfl ?c1 ?c2 ?c3 ?c4 ?c5 ?_);case c1=>
      intro j u B
      match j,B with
      |0,B=>simp at B;subst B;simp[Addr.add,pr]
     case c2=>intro u J;simp at J;subst J;rfl
     case c3=>have:=L.AA;unfold maxLen;omega
     case c4=>have:=L.AA;omega
     case c5=>have:=Y.AA.size;simp;omega
     .intro v' w3 d N b2;have c7:=AB (show ND 3 F.heap.size w3 v' (Fh T k (m+1)) from by
       refine⟨?_,?_⟩
       .rw[O5,XM];simpa[ints,vals]using d
       .rw[XM];simp;simpa using b2)
      have d9:=AB (show Below F.heap.size F w3 from(Y.AA.alloc (by have:=Y.AA.size;omega) _).grown N (by simp;have:=Y.AA.size;omega) (λg hg=>(Aq C g hg).1));have c8:(m:Int)<=729:=by have:=L.AA;omega
      clear d N C a7 b2 Y d7;go_wp2_with fail;go_roundw;case rel=>exact⟨m+1,by omega,by go_num,c7,d9.AA⟩
      case measure=>simp[intOf];omega
    .obtain rfl:m=sz T:=by omega
     have d6:decide ((sz T:Int)<(sz T:Int))=false:=by simp
     have a6:=AB ((V.AA.row (by rw[O5];omega)));obtain⟨⟨gr,cr,rfl⟩,_⟩:=V.AA.row (by rw[O5];omega);obtain⟨us,C,h2,h4⟩:=a9.AA.of_below a.AA;rw[TQ]at C;have HU:=AB (And.intro h2 h4);clear h2 h4 V;go_wp2_with (at_builtin;refine DR _ rfl _ _ 71 rfl I.heap.size 80 i0 (.slice none 0 0) 1 24 Tryz.underlying71 hi b9 c6 d2 rfl (by decide) _ _ _ rfl (C.alloc _) ⟨wr.heap.size,0,none⟩ 1 1 [.slice (some ⟨gr,0,none⟩) (Fh T k (sz T)).length cr] rfl rfl ?c1 ?c2 ?c3 ?c4 ?c5 ?_);case c1=>
      intro j u B
      match j,B with
      |0,B=>simp at B;subst B;simp[Addr.add]
     case c2=>intro u J;simp at J;subst J;rfl
     case c3=>have:=L.AA;unfold maxLen;omega
     case c4=>have:=L.AA;omega
     case c5=>have:=D.AA.size;simp;omega
     .intro v' s d N _;have e1:=AB (show Own2 80 3 I.heap.size s v' (FQ T (k+1)) from by
       rw[kF];exact Own2.push (w:=wr.alloc _) (us:=us) (by decide) (TQ T k) (C.alloc _) HU.AA.1 (λi r u hr J=>(HU.AA.2 i r u hr J).keep (S:=λ_=>True) (AL.alloc _) (λ_ _=>trivial)) (⟨a6.AA.1,Gp (a6.AA.keep (S:=λ_=>True) (AL.alloc _) (λ_ _=>trivial)).2 X.AA.size⟩) d N)
      have c0:=AB (show Below I.heap.size I s from(D.AA.alloc (by have:=D.AA.size;omega) _).grown N (by simp;have:=D.AA.size;omega) (λg hg=>(Aq C g hg).1));have c8:(k:Int)<=729:=by have:=L.AA;omega
      clear d N C HU a6;go_wp2_with fail;go_roundw;case rel=>exact⟨k+1,by omega,by go_num,e1,c0.AA⟩
      case measure=>simp[intOf];omega
  .obtain rfl:k=sz T:=by omega
   have hd:decide ((sz T:Int)<(sz T:Int))=false:=by simp
   go_wp2_with fail;go_ret;exact⟨_,rfl,a9.AA.mono K.AA.size,K.AA.trans (X.AA.mono K.AA.size)⟩
end Jc
namespace KD
open RowKit AJ BN Gz Jc
def DU (S:Nat->Prop)(w:World)(B:Nat)(T:Tw):Prop:=S B/\B<w.heap.size/\∃v,w.cell? ⟨B,0,none⟩=some v/\AQ S w v ((FQ T (sz T)).map ints)
theorem DU.keep {S:Nat->Prop}{w w':World}{C:Nat}{T:Tw}(h:DU S w C T)(B:Keep S w w'):DU S w' C T:=by
 obtain⟨D,F,v,I,J⟩:=h;exact⟨D,Ah F B.size,v,by rw[B.cell D F];exact I,J.keep B⟩
theorem X5 {T:Tw}{i:Nat}(h:i<sz T):(FQ T (sz T))[i]?=some (Fh T i (sz T)):=by simp[FQ,h]
theorem X6 {T:Tw}{i j:Nat}(h:j<sz T):(Fh T i (sz T))[j]?=some (pr T i j):=by simp[Fh,h]
theorem DU.open {S:Nat->Prop}{w:World}{F:Nat}{T:Tw}(h:DU S w F T)(I:0<sz T):∃C B Q,F<w.heap.size/\sz T<=Q/\w.cell? ⟨F,0,none⟩=some (.slice (some ⟨C,B,none⟩) (sz T) Q)/\
  ∀i,i<sz T->∃gr or U,sz T<=U/\w.cell? ⟨C,B+i,none⟩=some (.slice (some ⟨gr,or,none⟩) (sz T) U)/\∀j,j<sz T->w.cell? ⟨gr,or+j,none⟩=some (.int .i64 (pr T i j:Int)):=by
 obtain⟨x,Y,v,K,a,cap,rfl,L,z,y,O⟩:=h;have p:((FQ T (sz T)).map ints).length=sz T:=by simp[TQ]
 rw[p]at K L;obtain⟨C,B,rfl,hS,a5,u,D,N⟩:=O 0 (ints (Fh T 0 (sz T))) (by rw[Bh,X5 I];rfl);refine⟨C,B,cap,Y,L,K,λi hi=>?_⟩;obtain⟨V,l,b,a0,a4,u,D,N⟩:=O i (ints (Fh T i (sz T))) (by rw[Bh,X5 hi];rfl);obtain⟨rfl,rfl⟩:C=V/\B=l:=by simpa using b
 obtain⟨a2,d,rfl,J,a1,s,R⟩:=N;have r:(ints (Fh T i (sz T))).length=sz T:=by rw[BK,O5]
 rw[r]at D J;obtain⟨gr,or,rfl,_,_,u,a3,rfl⟩:=R 0 (pr T i 0:Int) (by rw[Dt,X6 I];rfl);refine⟨gr,or,d,J,D,λj W=>?_⟩;obtain⟨X,Z,g,_,_,u,q,rfl⟩:=R j (pr T i j:Int) (by rw[Dt,X6 W];rfl);obtain⟨rfl,rfl⟩:gr=X/\or=Z:=by simpa using g
 exact q
theorem Kj {T:Tw}(hT:Wf T)(i j:Nat):pr T i j<sz T:=Em (Bz hT (Cb hT i) (Cb hT j)) hT
def QM (n:Nat)(w:World)(e:Ending)(w':World):Prop:=e= .returned (.int .i64 (n:Int))/\∃k,w'=w.drewN k
theorem Jp (T:Tw)(hT:Wf T)(p:sz T<=729)(S:Nat->Prop)(w:World)(Z:Nat)(g:DU S w Z T)(V b:Value)(B es:List Nat)(I:AP S w V (ints B))(L:AP S w b (ints es))(Q:B.length=es.length)(b8:es.length<=1000)
  (J:∀x∈B,x<sz T) (X:∀e∈es,e<=1000):
  Calls Tryz.prog 199 #[.pointer (some ⟨Z,0,none⟩),V,b] w (QM (BO (pr T) 0 B es) w):=by
 have K:=FM hT;obtain⟨gt,ot,ct,b3,b1,b0,h⟩:=g.open K;obtain⟨aX,cX,rfl,a4⟩:=I.open;obtain⟨aE,cE,rfl,b5⟩:=L.open;rw[Q]at a4 I ⊢;have HX:=AB I;have HE:=AB L;have a5:=AB h;have N:=AB Q;have a1:=AB J;have a0:=AB X;have HT:=AB hT;have HZ:=AB p;have r:Hid (∀j k,Fs (pr T) 0 0 B es j k<sz T):=AB (λj k=>Nq (· <sz T) (pr T) (λ_ _ _ _=>Kj hT _ _) 0 0 B es K K J j k);clear I L h Q J X hT g;go_enter Tryz.func199,Tryz.ntmps199;go_wp2_with fail;go_loopw [7,12] (λU i wr=>∃k:Nat,k<=es.length/\i= .int .i64 (k:Int)/\∃z:Nat,U= .int .i64 (z:Int)/\Hid (z=Fs (pr T) 0 0 B es k 0/\∃m,wr=w.drewN m)) (λ_ i _=>es.length-(intOf i).toNat);case atStart=>exact⟨0,AX _,rfl,0,rfl,AB ⟨(MK _ _ _ _ _).symm,0,rfl⟩⟩
 case round=>
  obtain⟨k,hk,rfl,z,rfl,O⟩:=hrel;obtain⟨Y,l⟩:=O.AA.2;subst l;by_cases R:k<es.length
  .obtain⟨e,C⟩:∃e,es[k]?=some e:=⟨_,AU R⟩;obtain⟨x,F⟩:∃x,B[k]?=some x:=⟨_,AU (by rw[N.AA];exact R)⟩;obtain⟨bE,oE,rfl,_,a8,b4⟩:=HE.AA.at C;obtain⟨bX,oX,rfl,_,b9,b6⟩:=HX.AA.at F;have u:=a1.AA x (Af F);have a9:=a0.AA e (Af C);have hd:decide ((k:Int)<(es.length:Int))=true:=by simp;omega
   have v:=AB F;have a2:=AB C;clear F C;go_wp2_with fail;go_loopw [7,18] (λU j wr=>∃q:Nat,q<=e/\j= .int .i64 (q:Int)/\∃z:Nat,U= .int .i64 (z:Int)/\Hid (z=Fs (pr T) 0 0 B es k q/\∃m,wr=w.drewN m)) (λ_ j _=>e-(intOf j).toNat);case atStart=>exact⟨0,AX _,rfl,z,rfl,AB ⟨O.AA.1,Y,rfl⟩⟩
   case round=>
    obtain⟨q,hq,rfl,z,rfl,D⟩:=hrel;obtain⟨a,y⟩:=D.AA.2;subst y;by_cases b7:q<e
    .have a3:decide ((q:Int)<(e:Int))=true:=by simp;omega
     have a6:z<sz T:=by rw[D.AA.1];exact r.AA _ _
     obtain⟨gr,or,cr,c0,b2,W⟩:=a5.AA z a6;have a7:=W x u;have d:B.getD k 0=x:=by rw[BG,v.AA];rfl
     have s:=AB d;clear W d;go_wp2_with fail;go_quiet (fail);go_wp2_with fail;go_roundw;case rel=>exact⟨q+1,by omega,by go_num,pr T z x,rfl,AB ⟨by rw[Na,s.AA,<-D.AA.1],a+nq,by first|rfl|rw[Kg]⟩⟩
     case measure=>simp[intOf];omega
    .obtain rfl:q=e:=by omega
     have a3:decide ((q:Int)<(q:Int))=false:=by simp
     go_wp2_with fail;go_roundw;case rel=>exact⟨k+1,by omega,by go_num,z,rfl,AB ⟨by rw[D.AA.1,Nb _ _ _ _ _ _ _ (by rw[N.AA];exact R) a2.AA],a,rfl⟩⟩
     case measure=>simp[intOf];omega
  .obtain rfl:k=es.length:=by omega
   have hd:decide ((es.length:Int)<(es.length:Int))=false:=by simp
   go_wp2_with fail;go_ret;refine⟨VG ?_,Y,rfl⟩;rw[O.AA.1,Np _ _ _ _ _ _ (by rw[N.AA];exact Al _) AV]
end KD
namespace KI
open Go
theorem Um (n:Int)(B:0<=n)(C:n<2^63):IntKind.u64.wrap n=n:=by rw[IntKind.wrap_u64];omega
theorem Un (M a:Nat)(_ha:a<=31)(C:M<2^32):(bits .and .u64 ((M:Int)/2^a) 1==1)=M.testBit a:=by
 have D:((M:Int)/2^a)=((M/2^a:Nat):Int):=by push_cast;rfl
 have B:M/2^a<2^63:=Nat.lt_of_le_of_lt (Nat.div_le_self _ _) (Ah C (by decide));have h:=(bits_nat .u64 63 (by decide) Um (M/2^a) 1 B (by decide)).1;rw[D];have e2:bits .and .u64 ((M/2^a:Nat):Int) 1=((M/2^a &&& 1:Nat):Int):=h;rw[e2,Nat.testBit,Nat.shiftRight_eq_div_pow,Nat.and_comm 1];have F:=Nat.and_one_is_mod (M/2^a);rw[F];rcases Nat.mod_two_eq_zero_or_one (M/2^a)with h|h<;>rw[h]<;>rfl
theorem Zc (a:Nat)(ha:a<=31):2^a<2^32:=Nat.pow_lt_pow_right (by decide) (by omega)
theorem Zd (O a:Nat)(ha:a<=31)(F:O<2^32):bits .or .u64 (O:Int) (IntKind.u64.wrap (2^a))=((O ||| 2^a:Nat):Int):=by
 have I:((2:Int)^a)=((2^a:Nat):Int):=by push_cast;rfl
 have C:=Zc a ha;have B:(2:Nat)^32<2^63:=by decide
 have D:((2^a:Nat):Int)<((2^63:Nat):Int):=Int.ofNat_lt.2 (Nat.lt_trans C B);rw[I,Um _ (Int.natCast_nonneg _) (by simpa using D)];exact(bits_nat .u64 63 (by decide) Um O (2^a) (Nat.lt_trans F B) (Nat.lt_trans C B)).2
theorem Ze (O a:Nat)(ha:a<=31)(B:O<2^32):O ||| 2^a<2^32:=Nat.or_lt_two_pow B (Zc a ha)
theorem X7 (O a c:Nat):(O ||| 2^a).testBit c=(O.testBit c||decide (a=c)):=by rw[Nat.testBit_or,Nat.testBit_two_pow]
end KI
namespace OP
open RowKit AJ BN Gz Jc KD
theorem Zf (g x:Nat)(o:World)(h:o.cell? ⟨g,0,none⟩=some (.int .i64 (x:Int)))(C:g<o.heap.size):AP Any o (.slice (some ⟨g,0,none⟩) 1 1) (ints [x]):=by
 refine⟨some ⟨g,0,none⟩,1,rfl,by simp[ints],by simp[maxLen],by simp,λi y B=>?_⟩
 match i,B with
 |0,B=>simp[ints]at B;subst B;exact⟨g,0,rfl,trivial,C,_,h,rfl⟩
 |i+1,B=>simp[ints]at B
theorem DU.mono {S S':Nat->Prop}{w:World}{C:Nat}{T:Tw}(h:DU S w C T)(B:∀k,S k->S' k):DU S' w C T:=by
 obtain⟨F,I,v,D,J⟩:=h;exact⟨B _ F,I,v,D,J.mono B⟩
theorem NV (T:Tw)(hT:Wf T)(J:sz T<=729)(w:World)(F:Nat)(C:DU Any w F T)(x k:Nat)(K:x<sz T)(I:k<=1000):
  Calls Tryz.prog 198 #[.pointer (some ⟨F,0,none⟩),.int .i64 (x:Int),.int .i64 (k:Int)] w (Kn (it (λz=>pr T z x) k 0) w):=by
 have S:=AB (λW Q O C B D=>Jp T hT J Any W F C Q O [x] [k] B D rfl (by simp) (by simpa using K) (by simpa using I));have R:=AB C;clear C K I J;go_enter Tryz.func198,Tryz.ntmps198;go_wp2_with fail;have L:((w.alloc (.cells #[.int .i64 (x:Int)] 3)).alloc (.cells #[.int .i64 (k:Int)] 2)).heap[w.heap.size]?=some (.cells #[.int .i64 (x:Int)] 3):=(Ji _ _ (by simp)).trans (Aj w _);have N:((w.alloc (.cells #[.int .i64 (x:Int)] 3)).alloc (.cells #[.int .i64 (k:Int)] 2)).heap[w.heap.size+1]?=some (.cells #[.int .i64 (k:Int)] 2):=by
  have h:=Aj (w.alloc (.cells #[.int .i64 (x:Int)] 3)) (.cells #[.int .i64 (k:Int)] 2);have e:(w.alloc (.cells #[.int .i64 (x:Int)] 3)).heap.size=w.heap.size+1:=by simp
  rw[e]at h;exact h
 have B:=Zf w.heap.size x _ ((Ar _ w.heap.size 0 _ _ (0,0) L).trans rfl) (by simp;omega);have D:=Zf (w.heap.size+1) k _ ((Ar _ (w.heap.size+1) 0 _ _ (0,0) N).trans rfl) (by simp);refine(S.AA _ _ _ (R.AA.keep (((Keep.refl _ w).alloc _).alloc _)) B D).mono ?_;clear L N B D;rintro e U ⟨rfl,m,rfl⟩;go_wp2_with fail;go_ret;exact⟨rfl,Cs ((AY.alloc AV _).alloc (by simp) _) m⟩
def wK (T:Tw)(M x k:Nat)(w:World)(e:Ending)(w':World):Prop:=
 ∃O:Nat,e= .returned (.int .u64 (O:Int))/\O<2^32/\(∀c,O.testBit c=true↔∃j,j<k/\∃s,s<sz T/\M.testBit s=true/\it (pr T x) j s=c)/\w'=w
theorem jA (T:Tw)(hT:Wf T)(hz:sz T<=27)(w:World)(bg:Nat)(v:DU Any w bg T)(M x k:Nat)(z:M<2^32/\∀c,M.testBit c=true->c<sz T)(hx:x<sz T)(hk:k<=1000):
  Calls Tryz.prog 152 #[.pointer (some ⟨bg,0,none⟩),.int .u64 (M:Int),.int .i64 (x:Int),.int .i64 (k:Int)] w (wK T M x k w):=by
 have a1:=FM hT;obtain⟨gt,ot,ct,a7,a8,a3,y⟩:=v.open a1;obtain⟨gr,or,cr,a5,a6,l⟩:=y x hx;have a0:=AB l;have p:=AB z;have W:=AB (Kj hT);clear y l v z hT;go_enter Tryz.func152,Tryz.ntmps152;go_wp2_with fail;go_loop [1,9,14] (λmv S i=>∃q:Nat,q<=k/\i= .int .i64 (q:Int)/\∃D O:Nat,mv= .int .u64 (D:Int)/\S= .int .u64 (O:Int)/\
  Hid (D<2^32/\O<2^32/\(∀c,D.testBit c=true->c<sz T)/\(∀c,c<sz T->(D.testBit c=true↔∃s,s<sz T/\M.testBit s=true/\it (pr T x) q s=c))/\(∀c,O.testBit c=true↔∃j,j<q/\∃s,s<sz T/\M.testBit s=true/\it (pr T x) j s=c))) (λ_ _ i=>k-(intOf i).toNat)
 case atStart=>exact⟨0,AX _,rfl,M,0,rfl,rfl,AB ⟨p.AA.1,by decide,p.AA.2,λc R=>⟨λh=>⟨c,R,h,rfl⟩,λ⟨s,_,h,e⟩=>by rw[<-e];exact h⟩,λc=>by simp⟩⟩
 case round=>
  obtain⟨q,hq,rfl,D,g,rfl,rfl,F⟩:=hrel;by_cases b:q<k
  .have J:decide ((q:Int)<(k:Int))=true:=by simp;omega
   go_wp2_with fail;go_loop [9,21] (λS i=>∃a:Nat,a<=sz T/\i= .int .i64 (a:Int)/\∃O:Nat,S= .int .u64 (O:Int)/\Hid (O<2^32/\∀c,O.testBit c=(g.testBit c||(decide (c<a)&&D.testBit c)))) (λ_ i=>sz T-(intOf i).toNat);case atStart=>exact⟨0,AX _,rfl,g,rfl,AB ⟨F.AA.2.1,λc=>by simp⟩⟩
   case round=>
    obtain⟨a,ha,rfl,O,rfl,K⟩:=hrel;by_cases r:a<sz T
    .have X:decide ((a:Int)<(sz T:Int))=true:=by simp;omega
     have Q:=KI.Un D a (by omega) F.AA.1;have h2:=KI.Zd O a (by omega) K.AA.1;have Z:=AB (KI.Ze O a (by omega) K.AA.1);cases B:D.testBit a with
     |true=>
      have L:=AB B;rw[B]at Q;clear B;go_wp2_with fail;go_round;case rel=>exact⟨a+1,by omega,by go_num,O ||| 2^a,rfl,AB ⟨Z.AA,λc=>by
       rw[KI.X7,K.AA.2 c];by_cases V:a=c
       .subst V;simp[L.AA]
       .have:decide (c<a+1)=decide (c<a):=by apply decide_eq_decide.2;omega
        simp[V,this]⟩⟩
      case measure=>simp[intOf];omega
     |false=>
      have L:=AB B;rw[B]at Q;clear B;go_wp2_with fail;go_round;case rel=>exact⟨a+1,by omega,by go_num,O,rfl,AB ⟨K.AA.1,λc=>by
       rw[K.AA.2 c];by_cases V:a=c
       .subst V;simp[L.AA]
       .have:decide (c<a+1)=decide (c<a):=by apply decide_eq_decide.2;omega
        simp[this]⟩⟩
      case measure=>simp[intOf];omega
    .obtain rfl:a=sz T:=by omega
     have X:decide ((sz T:Int)<(sz T:Int))=false:=by simp
     have u:Hid (O<2^32/\∀c,O.testBit c=true↔∃j,j<q+1/\∃s,s<sz T/\M.testBit s=true/\it (pr T x) j s=c):=AB ⟨K.AA.1,λc=>by
      rw[K.AA.2 c];constructor
      .intro h;rw[OO]at h;rcases h with h|h
       .obtain⟨j,hj,s,C⟩:=(F.AA.2.2.2.2 c).1 h;exact⟨j,by omega,s,C⟩
       .rw[Mq]at h;obtain⟨s,C⟩:=(F.AA.2.2.2.1 c (by simpa using h.1)).1 h.2;exact⟨q,by omega,s,C⟩
      .rintro⟨j,hj,s,C⟩;rw[OO];rcases CU j q with h|h
       .exact .inl ((F.AA.2.2.2.2 c).2 ⟨j,h,s,C⟩)
       .obtain rfl:j=q:=by omega
        have R:c<sz T:=by
         rw[<-C.2.2];cases j with
         |zero=>exact C.1
         |succ j=>rw[EX];exact W.AA _ _
        rw[Mq];exact .inr ⟨by simpa using R,(F.AA.2.2.2.1 c R).2 ⟨s,C⟩⟩⟩
     clear K;go_wp2_with fail;go_loop [11,39] (λS i=>∃a:Nat,a<=sz T/\i= .int .i64 (a:Int)/\∃N:Nat,S= .int .u64 (N:Int)/\Hid (N<2^32/\∀c,N.testBit c=true↔∃d,d<a/\D.testBit d=true/\pr T x d=c)) (λ_ i=>sz T-(intOf i).toNat);case atStart=>exact⟨0,AX _,rfl,0,rfl,AB ⟨by decide,λc=>by simp⟩⟩
     case round=>
      obtain⟨a,ha,rfl,N,rfl,I⟩:=hrel;by_cases r:a<sz T
      .have X:decide ((a:Int)<(sz T:Int))=true:=by simp;omega
       have Q:=KI.Un D a (by omega) F.AA.1;have a2:=W.AA x a;have h2:=KI.Zd N (pr T x a) (by omega) I.AA.1;have Z:=AB (KI.Ze N (pr T x a) (by omega) I.AA.1);have a4:=a0.AA a r;cases B:D.testBit a with
       |true=>
        have L:=AB B;rw[B]at Q;clear B;go_wp2_with fail;go_round;case rel=>exact⟨a+1,by omega,by go_num,N ||| 2^pr T x a,rfl,AB ⟨Z.AA,λc=>by
         rw[KI.X7,OO,I.AA.2 c];constructor
         .rintro(⟨d,J,h⟩|h)
          .exact⟨d,by omega,h⟩
          .exact⟨a,by omega,L.AA,by simpa using h⟩
         .rintro⟨d,J,h⟩;rcases CU d a with U|U
          .exact .inl ⟨d,U,h⟩
          .obtain rfl:d=a:=by omega
           exact .inr (by simpa using h.2)⟩⟩
        case measure=>simp[intOf];omega
       |false=>
        have L:=AB B;rw[B]at Q;clear B;go_wp2_with fail;go_round;case rel=>exact⟨a+1,by omega,by go_num,N,rfl,AB ⟨I.AA.1,λc=>by
         rw[I.AA.2 c];constructor
         .rintro⟨d,J,h⟩;exact⟨d,by omega,h⟩
         .rintro⟨d,J,h⟩;rcases CU d a with U|U
          .exact⟨d,U,h⟩
          .obtain rfl:d=a:=by omega
           exact absurd (L.AA.symm.trans h.1) (by decide)⟩⟩
        case measure=>simp[intOf];omega
      .obtain rfl:a=sz T:=by omega
       have X:decide ((sz T:Int)<(sz T:Int))=false:=by simp
       go_wp2_with fail;go_round;case rel=>exact⟨q+1,by omega,by go_num,N,O,rfl,rfl,AB ⟨I.AA.1,u.AA.1,λc h=>by
         obtain⟨d,J,h⟩:=(I.AA.2 c).1 h;rw[<-h.2];exact W.AA _ _,λc R=>by
         rw[I.AA.2 c];constructor
         .rintro⟨d,J,h,h'⟩;obtain⟨s,C,Y,e⟩:=(F.AA.2.2.2.1 d J).1 h;exact⟨s,C,Y,by rw[EX,e,h']⟩
         .rintro⟨s,C,Y,e⟩;rw[EX]at e;have b:it (pr T x) q s<sz T:=by
           cases q with
           |zero=>exact C
           |succ q=>rw[EX];exact W.AA _ _
          exact⟨it (pr T x) q s,b,(F.AA.2.2.2.1 _ b).2 ⟨s,C,Y,rfl⟩,e⟩,u.AA.2⟩⟩
       case measure=>simp[intOf];omega
  .obtain rfl:q=k:=by omega
   have J:decide ((q:Int)<(q:Int))=false:=by simp
   go_wp2_with fail;go_ret;exact⟨g,rfl,F.AA.2.1,F.AA.2.2.2.2,rfl⟩
end OP
namespace Mh
open RowKit AJ BN Gz Jc KD OP IP
def Fits (Q:Tw)(L:Lv)(im:List Nat)(x:Nat):Prop:=
 it (λz=>pr Q z x) L.o 0=BO (pr Q) 0 im L.w/\∀k y,L.c[k]?=some y->pr Q (im.getD k 0) x=pr Q x (BO (pr Q) 0 im y)
structure VZ (w:World)(bs bp op bg gi ci:Nat)(T Q:Tw)(Gn:List Nat):Prop where
 lt:bs<w.heap.size
 p:w.cell? ⟨bs,0,none⟩=some (.pointer (some ⟨bp,op,none⟩))
 g:w.cell? ⟨bs,1,none⟩=some (.pointer (some ⟨bg,0,none⟩))
 im:w.cell? ⟨bs,2,none⟩=some (.slice (some ⟨gi,0,none⟩) T.length ci)
 pre:BH Any w bp op (AZ T)
 tab:DU Any w bg Q
 len:Gn.length=T.length
 Gn:AP Any w (.slice (some ⟨gi,0,none⟩) T.length ci) (ints Gn)
theorem mh (T Q:Tw)(hT:Wf T)(Z:Small T)(W:Wf Q)(hz:sz Q<=729)(w:World)(bs bp op r l ci:Nat)(C:List Nat)(i x:Nat)(L:Lv)(I:T[i]?=some L)(h:VZ w bs bp op r l ci T Q C)(hx:x<sz Q)(d:∀y∈C,y<sz Q):
  Calls Tryz.prog 151 #[.pointer (some ⟨bs,0,none⟩),.int .i64 (i:Int),.int .i64 (x:Int)] w (Kv (Fits Q L (C.drop (i+1)) x) w):=by
 have g6:=(Ak.1 I).1;have h0:=Z.1;obtain⟨_,a0,vO,vP,vC,c9,c8,b5,U⟩:=h.pre;obtain⟨aO,cO,aP,cP,aC,cC,rfl,rfl,rfl,f8,f1,f9⟩:=U.open;obtain⟨bO,oO,rfl,_,d2,b8⟩:=U.ord I;obtain⟨bP,oP,uP,rfl,_,e3,c0,b6⟩:=U.pow I;obtain⟨bC,oC,a2,c2,rfl,_,e2,b3,f4,c3⟩:=U.JM I;have a6:=FM W;obtain⟨gt,ot,ct,e6,g3,a5,a7⟩:=h.tab.open a6;obtain⟨_,_,vt,d1,d0⟩:=h.tab;have q:∀(b o:Nat) (v:Value),b<w.heap.size->w.cell? ⟨b,o,none⟩=some v->∀x:BW w.heap.size w,x.1.cell? ⟨b,o,none⟩=some v:=λb o v K R x=>(x.2.cell (p:=⟨b,o,none⟩) K).trans R;have q0:=q _ _ _ h.lt h.p;have q1:=q _ _ _ h.lt h.g;have q2:=q _ _ _ h.lt h.im;have q3:=q _ _ _ a0 c9;have q4:=q _ _ _ a0 c8;have q5:=q _ _ _ a0 b5;have q6:=q _ _ _ d2 b8;have q7:=q _ _ _ e3 c0;have q8:=q _ _ _ e2 b3;have q9:=q _ _ _ e6 a5;have c7:Hid (∀a,a<sz Q->∃gr or Y,sz Q<=Y/\(∀B:BW w.heap.size w,B.1.cell? ⟨gt,ot+a,none⟩=some (.slice (some ⟨gr,or,none⟩) (sz Q) Y))/\∀j,j<sz Q->∀B:BW w.heap.size w,B.1.cell? ⟨gr,or+j,none⟩=some (.int .i64 (pr Q a j:Int))):=AB (λa ha=>by
  obtain⟨gr,or,Y,J,F,h3⟩:=a7 a ha;exact⟨gr,or,Y,J,q _ _ _ (World.block_lt_of_cell? w _ F) F,λj O=>q _ _ _ (World.block_lt_of_cell? w _ (h3 j O)) (h3 j O)⟩)
 have e0:Hid (∀(j a:Nat),C[j]?=some a->∀B:BW w.heap.size w,B.1.cell? ⟨l,j,none⟩=some (.int .i64 (a:Int))):=AB (λj a O=>by
  obtain⟨b,o,S,_,K,R⟩:=h.Gn.at O;obtain⟨rfl,rfl⟩:l=b/\0=o:=by simpa using S
  rw[CK]at R;exact q _ _ _ K R)
 have d4:Hid (∀y,BO (pr Q) 0 (C.drop (i+1)) y<sz Q):=AB (λy=>MI (· <sz Q) (pr Q) (λ_ _ _ _=>Kj W _ _) _ (λc R=>d c (Hl R)) y 0 a6);have d9:=AB d;have g2:=h.len;have b7:=hx;have HI:=AB h;have u:=En hT I;have f0:L.c.length=T.length-(i+1):=u.2.1;have e7:=AB (λ(B:BW w.heap.size w)=>NV Q W hz B.1 r (h.tab.keep (AO B.2)) x L.o hx (by have:=Z.2 L (Af I);omega));have g0:=Nat.le_of_lt_succ (Nat.lt_succ_of_le (Z.2 L (Af I)));have c1:Hid (∀(B:BW w.heap.size w) (y:List Nat) (s:Value),El (T.drop (i+1)) y->AP Any w s (ints (pad (i+1) y))->Calls Tryz.prog 199 #[.pointer (some ⟨r,0,none⟩),.slice (some ⟨l,0,none⟩) T.length ci,s] B.1 (QM (BO (pr Q) 0 (C.drop (i+1)) y) B.1)):=
  AB (λB y s D hv=>by
   have hp:=Jp Q W hz Any B.1 r (h.tab.keep (AO B.2)) _ s C (pad (i+1) y) (h.Gn.keep (AO B.2)) (hv.keep (AO B.2)) (by rw[h.len,BS,Ad D,Cv];omega) (by rw[BS,Ad D,Cv];omega) d (by
    intro e S;simp only[pad,DY,GL]at S;rcases S with⟨_,rfl⟩|S
    .omega
    .obtain⟨j,O,rfl⟩:=Ld S;obtain⟨M,hM,b0⟩:=Gb D (AU O);have:=Z.2 M (Hl (Af hM));omega)
   rwa[Tp _ _ _ _ _ (by rw[h.len];omega)]at hp)
 have d6:=AB b6;have a9:=AB u;have d3:=AB c3;clear q b8 c0 b3 b6 c9 c8 b5 U h u c3 I d hT Z W hz hx a7 d1 d0 a5;go_enter Tryz.func151,Tryz.ntmps151;go_upto_region 1 with fail;refine O3 w.heap.size w AY (by kernel_rfl) (by kernel_rfl) ?_;repeat(go_big_quiet_step ((first|(go_at_call 198;exact Qd AV (e7.AA _))|(go_at_call 199;exact WO (c1.AA _ L.w _ a9.AA.2.2.2.1 d6.AA)))))
 refine wpQuiet_nil ?_;intro N V;have X:Below w.heap.size w N:=by obtain⟨B,rfl⟩:=V;exact B.2
 clear V;have a4:=AB X;have r0:N.cell? ⟨bs,0,none⟩=_:=q0 ⟨N,X⟩;have r3:N.cell? ⟨bp,op+2,none⟩=_:=q5 ⟨N,X⟩;have r8:N.cell? ⟨bC,oC+i,none⟩=_:=q8 ⟨N,X⟩;clear X;by_cases J:it (λz=>pr Q z x) L.o 0=BO (pr Q) 0 (C.drop (i+1)) L.w
 .have hd:(((it (λz=>pr Q z x) L.o 0:Nat):Int) !=((BO (pr Q) 0 (C.drop (i+1)) L.w:Nat):Int))=false:=by rw[J];simp
  have H1:=AB J;clear J;go_wp2_with fail;go_loopw [56] (λiv wr=>∃k:Nat,k<=L.c.length/\iv= .int .i64 (k:Int)/\Hid (∀j y,j<k->L.c[j]?=some y->pr Q ((C.drop (i+1)).getD j 0) x=pr Q x (BO (pr Q) 0 (C.drop (i+1)) y))/\Below w.heap.size w wr) (λiv _=>L.c.length-(intOf iv).toNat);case atStart=>exact⟨0,AX _,rfl,AB (λj y h=>absurd h (CS _)),a4.AA⟩
  case round=>
   obtain⟨k,hk,rfl,hR,K⟩:=hrel;have HB:=AB K;by_cases b0:k<L.c.length
   .obtain⟨y,D⟩:∃y,L.c[k]?=some y:=⟨_,AU b0⟩;obtain⟨b2,o2,uy,rfl,_,d5,c6,a8⟩:=d3.AA k y D;have g4:wr.cell? ⟨b2,o2+k,none⟩=some uy:=(K.cell (p:=⟨b2,o2+k,none⟩) d5).trans c6;obtain⟨a,ha⟩:∃a,C[i+1+k]?=some a:=⟨_,AU (by omega)⟩;have a1:(C.drop (i+1)).getD k 0=a:=by rw[BG,Fa,ha];rfl
    have e5:=d9.AA a (Af ha);have d7:=AB (a9.AA.2.2.1 y (Af D));have f6:=e0.AA _ _ ha;obtain⟨gr,or,Y,g1,h4,c5⟩:=c7.AA a e5;have f3:=c5 x b7;obtain⟨f5,f2,g8,g5,g9,b9⟩:=c7.AA x b7;have e1:=d4.AA y;have f7:=b9 _ e1;have d8:=AB a8;have HY:=AB D;have a3:=AB a1;have e4:decide ((k:Int)<(L.c.length:Int))=true:=by simp;omega
    have w1:IntKind.i64.wrap ((i:Int)+1)=(i:Int)+1:=Ac _ (by omega);have w2:IntKind.i64.wrap ((i:Int)+1+(k:Int))=(i:Int)+1+(k:Int):=Ac _ (by omega);have w9:(i:Int)+1+(k:Int)<(T.length:Int):=by omega
    have g7:(0:Int)<=(i:Int)+1+(k:Int):=by omega
    have e9:((i:Int)+1+(k:Int)).toNat=i+1+k:=by omega
    clear K ha a1 c5 b9 a8 D c6;go_upto_region 6 with fail;refine O3 w.heap.size w HB.AA (by kernel_rfl) (by kernel_rfl) ?_;repeat(go_big_quiet_step ((first|(go_at_call 199;exact WO (c1.AA _ y _ d7.AA d8.AA)))))
    refine wpQuiet_nil ?_;intro wy V;have b4:Below w.heap.size w wy:=by obtain⟨B,rfl⟩:=V;exact B.2
    clear V;have c4:=AB b4;clear b4;by_cases F:pr Q a x=pr Q x (BO (pr Q) 0 (C.drop (i+1)) y)
    .have e8:((pr Q a x:Int) !=(pr Q x (BO (pr Q) 0 (C.drop (i+1)) y):Int))=false:=by rw[F];simp
     have H2:=AB F;clear F;go_wp2_with fail;go_roundw;case rel=>exact⟨k+1,by omega,by go_num,AB (λj y' O b1=>by
      rcases CU j k with h|h
      .exact hR.AA j y' h b1
      .obtain rfl:j=k:=by omega
       obtain rfl:y=y':=IL (HY.AA.symm.trans b1);rw[a3.AA];exact H2.AA),c4.AA⟩
     case measure=>simp[intOf];omega
    .have e8:((pr Q a x:Int) !=(pr Q x (BO (pr Q) 0 (C.drop (i+1)) y):Int))=true:=by
      have:(pr Q a x:Int)≠(pr Q x (BO (pr Q) 0 (C.drop (i+1)) y):Int):=λh=>F (by exact_mod_cast h);simpa using this
     have H2:=AB F;clear F;go_wp2_with fail;go_ret;exact EI (λh=>H2.AA (by have:=h.2 k y HY.AA;rwa[a3.AA]at this)) c4.AA
   .obtain rfl:k=L.c.length:=by omega
    have e4:decide ((L.c.length:Int)<(L.c.length:Int))=false:=by simp
    go_wp2_with fail;go_ret;exact Nc ⟨H1.AA,λj y D=>hR.AA j y (Ak.1 D).1 D⟩ HB.AA
 .have hd:(((it (λz=>pr Q z x) L.o 0:Nat):Int) !=((BO (pr Q) 0 (C.drop (i+1)) L.w:Nat):Int))=true:=by
   have:((it (λz=>pr Q z x) L.o 0:Nat):Int)≠((BO (pr Q) 0 (C.drop (i+1)) L.w:Nat):Int):=λh=>J (by exact_mod_cast h);simpa using this
  have H1:=AB J;clear J;go_wp2_with fail;go_ret;exact EI (λh=>H1.AA h.1) a4.AA
end Mh
namespace Grow
open AJ BN Jc KD Mh
def FH (Q:Tw):Tw->List Nat->Nat->Prop
 |L::T,x::im,c=>∃j,j<L.o/\∃s,FH Q T im s/\it (pr Q x) j s=c
 |_,_,c=>c=0
theorem Ro {Q:Tw}(B:Wf Q):∀{T:Tw} {im:List Nat} {c:Nat},FH Q T im c->c<sz Q
 |[],_,c,h=>by simp only[FH]at h;rw[h];exact FM B
 |_::_,[],c,h=>by simp only[FH]at h;rw[h];exact FM B
 |L::T,x::im,c,⟨j,hj,s,hs,e⟩=>by
  cases j with
  |zero=>rw[<-e];exact Ro B hs
  |succ j=>rw[<-e,EX];exact Kj B _ _
open Classical in
noncomputable def grow (Q T:Tw):Nat->List Nat->List (List Nat)
 |0,im=>[im]
 |k+1,im=>(List.range (sz Q)).flatMap λx=>if¬FH Q (T.drop (k+1)) im x/\Fits Q (T.getD k ⟨0,[],[]⟩) im x then grow Q T k (x::im)else []
open Classical in
noncomputable def EJ (Q T:Tw)(k:Nat)(im:List Nat)(n:Nat):List (List Nat):=
 (List.range n).flatMap λx=>if¬FH Q (T.drop (k+1)) im x/\Fits Q (T.getD k ⟨0,[],[]⟩) im x then grow Q T k (x::im)else []
theorem TR (Q T:Tw)(k:Nat)(im:List Nat):EJ Q T k im 0=[]:=rfl
theorem Tf (Q T:Tw)(k:Nat)(im:List Nat):EJ Q T k im (sz Q)=grow Q T (k+1) im:=rfl
theorem NT {Q T:Tw}{k:Nat}{im:List Nat}{x:Nat}(h:¬FH Q (T.drop (k+1)) im x/\Fits Q (T.getD k ⟨0,[],[]⟩) im x):EJ Q T k im (x+1)=EJ Q T k im x++grow Q T k (x::im):=by
 simp only[EJ,FB,List.flatMap_append,IW,List.flatMap_nil,FP];rw[BQ h]
theorem Qn {Q T:Tw}{k:Nat}{im:List Nat}{x:Nat}(h:¬(¬FH Q (T.drop (k+1)) im x/\Fits Q (T.getD k ⟨0,[],[]⟩) im x)):EJ Q T k im (x+1)=EJ Q T k im x:=by
 simp only[EJ,FB,List.flatMap_append,IW,List.flatMap_nil,FP];rw[BF h,FP]
theorem jB (Q T:Tw)(k:Nat)(im:List Nat){m n:Nat}(h:m<=n):∃r,EJ Q T k im n=EJ Q T k im m++r:=by
 induction n with
 |zero=>
  obtain rfl:m=0:=by omega
  exact⟨[],by simp⟩
 |succ n ih=>
  rcases CU n m with B|B
  .obtain rfl:m=n+1:=by omega
   exact⟨[],by simp⟩
  .obtain⟨r,D⟩:=ih B;by_cases C:¬FH Q (T.drop (k+1)) im n/\Fits Q (T.getD k ⟨0,[],[]⟩) im n
   .rw[NT C,D];exact⟨r++grow Q T k (n::im),by simp⟩
   .rw[Qn C];exact⟨r,D⟩
def Ie (b:Bool)(l:List (List Nat)):List (List Nat):=if b then l.take 1 else l
theorem iH (l:List (List Nat)):Ie false l=l:=rfl
theorem WA (Q T:Tw)(D:sz Q<=27)(k:Nat)(C:∀im,(grow Q T k im).length<=27^k)(im:List Nat)(n:Nat):(EJ Q T k im n).length<=n*27^k:=by
 induction n with
 |zero=>simp[TR]
 |succ n ih=>
  by_cases B:¬FH Q (T.drop (k+1)) im n/\Fits Q (T.getD k ⟨0,[],[]⟩) im n
  .rw[NT B,Bc,Nat.add_mul,Nat.one_mul];exact Nat.add_le_add ih (C _)
  .rw[Qn B];exact Ae ih (Mr _ (by omega))
theorem TL (Q T:Tw)(B:sz Q<=27)(k:Nat):∀im,(grow Q T k im).length<=27^k:=by
 induction k with
 |zero=>intro im;simp[grow]
 |succ k ih=>
  intro im;rw[<-Tf];refine Ae (WA Q T B k ih im (sz Q)) ?_;rw[Ke,JC];exact Md _ B
end Grow
namespace CL
open AJ Gen CP BN Jc KD Mh Grow
theorem SA {Q:Tw}(B:Wf Q)(i j:Nat):at_ Q (pr Q i j)=mul Q (at_ Q i) (at_ Q j):=EY B (Bz B (Cb B i) (Cb B j))
theorem Pn {Q:Tw}(B:Wf Q):at_ Q 0=AJ.one Q:=by
 rw[<-qQ (T:=Q)];exact EY B (CR B)
theorem Zg {Q:Tw}(B:Wf Q)(c a u:Nat):at_ Q (it (λz=>pr Q z c) a u)=it (λz=>mul Q z (at_ Q c)) a (at_ Q u):=by
 induction a generalizing u with
 |zero=>rfl
 |succ a ih=>rw[it,it,ih,SA B]
theorem Zh {Q:Tw}(B:Wf Q)(c a u:Nat):at_ Q (it (pr Q c) a u)=it (mul Q (at_ Q c)) a (at_ Q u):=by
 induction a generalizing u with
 |zero=>rfl
 |succ a ih=>rw[it,it,ih,SA B]
theorem mi {Q:Tw}(B:Wf Q)(im es:List Nat)(u:Nat):at_ Q (BO (pr Q) u im es)=BO (mul Q) (at_ Q u) (im.map (at_ Q)) es:=by
 induction im generalizing u es with
 |nil=>cases es<;>rfl
 |cons c im ih=>cases es with
  |nil=>rfl
  |cons a es=>rw[FC,BO,BO,ih,Zg B]
theorem X8 {Q:Tw}(D:Wf Q)(hg:AJ.Good Q){x u:List Nat}(B:El Q x)(C:El Q u)(a:Nat):it (mul Q x) a u=mul Q (npow (mul Q) (AJ.one Q) x a) u:=by
 have G:=BA D hg
 induction a generalizing u with
 |zero=>exact(G.eL C).symm
 |succ a ih=>rw[it,ih (G.cl B C),Cu,G.Ag (G.npow B a) B C]
theorem Q0 {Q:Tw}{i j:Nat}(hi:i<sz Q)(B:j<sz Q):i=j↔at_ Q i=at_ Q j:=⟨λh=>by rw[h],λh=>Nw hi B h⟩
theorem VJ {Q:Tw}(D:Wf Q){f:Nat->Nat}(B:∀z,f z<sz Q)(a u:Nat)(C:u<sz Q):it f a u<sz Q:=GH (· <sz Q) f (λz _=>B z) a u C
theorem mo {Q:Tw}(C:Wf Q)(im es:List Nat)(u:Nat)(B:u<sz Q):BO (pr Q) u im es<sz Q:=by
 induction im generalizing u es with
 |nil=>cases es<;>exact B
 |cons c im ih=>cases es with
  |nil=>exact B
  |cons a es=>exact ih es _ (VJ C (λz=>Kj C _ _) a u B)
def Gd (Q:Tw)(L:Lv)(im:List (List Nat))(x:List Nat):Prop:=
 npow (mul Q) (AJ.one Q) x L.o=ev (mul Q) (AJ.one Q) im L.w/\∀k y,L.c[k]?=some y->mul Q (im.getD k (AJ.one Q)) x=mul Q x (ev (mul Q) (AJ.one Q) im y)
theorem mq {Q:Tw}(B:Wf Q)(hg:AJ.Good Q)(L:Lv)(im:List Nat)(x:Nat):Fits Q L im x↔Gd Q L (im.map (at_ Q)) (at_ Q x):=by
 have G:=BA B hg;have C:=FM B;have I:∀c∈im.map (at_ Q),El Q c:=by intro c F;obtain⟨i,_,rfl⟩:=BX.1 F;exact Cb B i
 have D:∀es,at_ Q (BO (pr Q) 0 im es)=ev (mul Q) (AJ.one Q) (im.map (at_ Q)) es:=λes=>by rw[mi B,Pn B,G.IJ I]
 have J:∀k,at_ Q (im.getD k 0)=(im.map (at_ Q)).getD k (AJ.one Q):=λk=>by
  rw[BG,BG,Bh];cases im[k]? with
  |none=>exact Pn B
  |some i=>rfl
 unfold Fits Gd;refine and_congr ?_ (forall_congr' λk=>forall_congr' λy=>imp_congr_right λ_=>?_)
 .rw[Q0 (VJ B (λz=>Kj B _ _) _ _ C) (mo B _ _ _ C),Zg B,Pn B,D];rfl
 .rw[Q0 (Kj B _ _) (Kj B _ _),SA B,SA B,D,J]
theorem Y6 {Q:Tw}(B:Wf Q)(hg:AJ.Good Q):∀{T:Tw} {im:List Nat} {c:Nat},im.length=T.length->c<sz Q->(FH Q T im c↔∃z,El T z/\ev (mul Q) (AJ.one Q) (im.map (at_ Q)) z=at_ Q c)
 |[],[],c,_,C=>by
  simp only[FH];constructor
  .rintro rfl;exact⟨[],trivial,(Pn B).symm⟩
  .rintro⟨z,_,h⟩;refine(Q0 C (FM B)).2 ?_;rw[Pn B];cases z<;>exact h.symm
 |[],_::_,c,h,C=>by simp at h
 |_::_,[],c,h,C=>by simp at h
 |L::T,x::im,c,h,C=>by
  have G:=BA B hg;have J:=λ{s:Nat} (F:s<sz Q)=>Y6 B hg (T:=T) (im:=im) (c:=s) (by simpa using h) F;simp only[FH];constructor
  .rintro⟨j,N,s,F,rfl⟩;obtain⟨z,D,e⟩:=(J (Ro B F)).1 F;refine⟨j::z,⟨N,D⟩,?_⟩;rw[Zh B,X8 B hg (Cb B x) (Cb B s),<-e];rfl
  .rintro⟨z,D,e⟩;cases z with
   |nil=>exact D.elim
   |cons j z=>
    have I:El Q (ev (mul Q) (AJ.one Q) (im.map (at_ Q)) z):=G.ev (by intro c C;obtain⟨i,_,rfl⟩:=BX.1 C;exact Cb B i) z;have K:=Em I B;refine⟨j,D.1,num Q (ev (mul Q) (AJ.one Q) (im.map (at_ Q)) z),(J K).2 ⟨z,D.2,(EY B I).symm⟩,?_⟩;have O:it (pr Q x) j (num Q (ev (mul Q) (AJ.one Q) (im.map (at_ Q)) z))<sz Q:=VJ B (λz=>Kj B _ _) _ _ K;refine(Q0 O C).2 ?_;rw[Zh B,X8 B hg (Cb B x) (Cb B _),EY B I,<-e];rfl
open Classical in
noncomputable def Bo (Q T:Tw):Nat->List (List Nat)->List (List (List Nat))
 |0,im=>[im]
 |k+1,im=>(List.range (sz Q)).flatMap λt=>if¬Gen (mul Q) (AJ.one Q) im (at_ Q t)/\Gd Q (T.getD k ⟨0,[],[]⟩) im (at_ Q t)then Bo Q T k (at_ Q t::im)else []
theorem X9 {Q:Tw}{L:Lv}{T:Tw}(F:L.c.length=T.length){im:List (List Nat)}{x:List Nat}(D:Rel (mul Q) (AJ.one Q) T im)(h:Gd Q L im x):Rel (mul Q) (AJ.one Q) (L::T) (x::im):=by
 refine⟨h.1,λj B C=>?_,D⟩;have:=h.2 j L.c[j] (AU C);rw[BG,AU B]at this;exact this
theorem WY {Q T:Tw}(C:Wf Q)(hg:AJ.Good Q)(hT:Wf T):∀k,k<=T.length->∀im:List Nat,Rel (mul Q) (AJ.one Q) (T.drop k) (im.map (at_ Q))->
  (grow Q T k im).map (λl=>l.map (at_ Q))=Bo Q T k (im.map (at_ Q))
 |0,_,im,_=>rfl
 |k+1,hk,im,hR=>by
  classical
  obtain⟨L,J⟩:∃L,T[k]?=some L:=⟨_,AU (by omega)⟩;have V:T.getD k ⟨0,[],[]⟩=L:=by rw[BG,J];rfl
  have N:=En hT J;have Y:∀c∈im.map (at_ Q),El Q c:=by intro c B;obtain⟨i,_,rfl⟩:=BX.1 B;exact Cb C i
  have R:im.length=(T.drop (k+1)).length:=by have:=O8 hR;simpa using this
  rw[grow,Bo,List.map_flatMap];have U:∀t∈List.range (sz Q),List.map (λl=>l.map (at_ Q)) (if¬FH Q (T.drop (k+1)) im t/\Fits Q (T.getD k ⟨0,[],[]⟩) im t then grow Q T k (t::im)else [])=
    if¬Gen (mul Q) (AJ.one Q) (im.map (at_ Q)) (at_ Q t)/\Gd Q (T.getD k ⟨0,[],[]⟩) (im.map (at_ Q)) (at_ Q t)then Bo Q T k (at_ Q t::im.map (at_ Q))else []:=λt I=>by
   have X:t<sz Q:=Cg.1 I;have O:=Y6 C hg R X;have e2:=Zb C hg N.1 Y hR (at_ Q t);have K:=mq C hg (T.getD k ⟨0,[],[]⟩) im t;by_cases B:¬FH Q (T.drop (k+1)) im t/\Fits Q (T.getD k ⟨0,[],[]⟩) im t
   .have D:¬Gen (mul Q) (AJ.one Q) (im.map (at_ Q)) (at_ Q t)/\Gd Q (T.getD k ⟨0,[],[]⟩) (im.map (at_ Q)) (at_ Q t):=⟨λh=>B.1 (O.2 (e2.1 h)),K.1 B.2⟩;rw[BQ B,BQ D];refine WY C hg hT k (by omega) (t::im) ?_;rw[EB J];refine X9 (by rw[N.2.1];simp) hR ?_;rw[<-V];exact D.2
   .have D:¬(¬Gen (mul Q) (AJ.one Q) (im.map (at_ Q)) (at_ Q t)/\Gd Q (T.getD k ⟨0,[],[]⟩) (im.map (at_ Q)) (at_ Q t)):=λh=>B ⟨λW=>h.1 (e2.2 (O.1 W)),K.2 h.2⟩;rw[BF B,BF D];rfl
  have S:∀(l:List Nat) (F H:Nat->List (List (List Nat))),(∀t∈l,F t=H t)->l.flatMap F=l.flatMap H:=by
   intro l F H h
   induction l with
   |nil=>rfl
   |cons a l ih=>rw[IW,IW,h a CJ,ih (λt I=>h t (CW _ I))]
  exact S _ _ _ U
end CL
end Go.Proofs.YtgjadpmbnejaoaaGreat
