import Derived.Test.YtgjadpmbnejaoaaGreatZn
/-
  Lemmas for the law FnAutomorphisms, in short spelling.
-/
set_option linter.unusedVariables false
set_option linter.unusedSimpArgs false
set_option maxRecDepth 100000
set_option maxHeartbeats 40000000
namespace Go.Proofs.YtgjadpmbnejaoaaGreat
namespace SC
open RowKit AJ FN BU QB FX Hf
def C1 (L:Lv)(B:Tw)(j:Nat):Prop:=npow (mul B) (AJ.one B) (L.c.getD j (AJ.one B)) (B.getD j default).o=img B L.c (pad (j+1) (B.getD j default).w)
def C2 (L:Lv)(B:Tw)(j k:Nat):Prop:=mul B (L.c.getD k (AJ.one B)) (L.c.getD j (AJ.one B))=mul B (L.c.getD j (AJ.one B)) (img B L.c (pad (j+1) ((B.getD j default).c.getD (k-j-1) [])))
def C4 (L:Lv)(B:Tw)(j:Nat):Prop:=mul B L.w (it (img B L.c) L.o (unit B j))=mul B (unit B j) L.w
def C3 (L:Lv)(B:Tw):Prop:=img B L.c L.w=L.w
theorem UK {L:Lv}{B:Tw}(h:Wf (L::B))(hg:AJ.Good B):Ep L B↔(∀j<B.length,C1 L B j)/\(∀j<B.length,∀k,j<k->k<B.length->C2 L B j k)/\C3 L B/\∀j<B.length,C4 L B j:=Xj h hg
theorem LJ {a b:List Nat}:ints a=ints b↔a=b:=by
 constructor
 .intro h;exact(List.map_inj_right (λx y e=>Int.ofNat.inj e)).1 h
 .intro h;rw[h]
theorem RG {s:Nat}{a b:List Nat}:pad s a=pad s b↔a=b:=by simp[pad]
theorem GV (s:Nat)(a b:List Nat):decide (ints (pad s a)=ints (pad s b))=decide (a=b):=by
 apply decide_eq_decide.2;rw[LJ,RG]
def R9 (p:Prop)(w:World)(e:Ending)(w':World):Prop:=∃k l a b:Int,e= .returned (.agg #[.int .i64 k,.int .i64 l,.int .i64 a,.int .i64 b])/\(k=0↔p)/\Below w.heap.size w w'
theorem Fp {w wr:World}{B C D:Value}{t I:TypeId}{d:Array Value}(J:Below (w.heap.size+2) ((w.alloc (.cells #[B,C,D] t)).alloc (.cells d I)) wr):
  (wr.cell? ⟨w.heap.size,0,none⟩=some B/\wr.cell? ⟨w.heap.size,1,none⟩=some C/\wr.cell? ⟨w.heap.size,2,none⟩=some D)/\wr.heap[w.heap.size+1]?=some (.cells d I)/\Keep (λ_=>True) w wr/\Below w.heap.size w wr/\w.heap.size+2<=wr.heap.size:=by
 have K:=J.size;simp at K;have F:Below (w.heap.size+1) (w.alloc (.cells #[B,C,D] t)) wr:=(AY.alloc (by simp) _).trans (J.mono (by omega));refine⟨CY F,?_,Cq F _,Cy F,by omega⟩;have:=J.block (w.heap.size+1) (by omega);rw[this];have:=Aj (w.alloc (.cells #[B,C,D] t)) (.cells d I);simpa using this
theorem kL (T:Tw)(hT:Wf T)(hs:Small T)(i:Nat)(L:Lv)(hL:T[i]?=some L)(hg:AJ.Good (T.drop (i+1)))(w:World)(vO vP vC:Value)(hP:Av Any w vO vP vC (AZ T)):
  Calls Tryz.prog 235 #[.agg #[vO,vP,vC],.int .i64 (i:Int)] w (R9 (Ep L (T.drop (i+1))) w):=by
 have hi:i<T.length:=(Ak.1 hL).1;have i8:=hs.1;have V:=AB (Ox hT hL);obtain⟨aO,cO,aP,cP,aC,cC,rfl,rfl,rfl,n8,m9,m6⟩:=hP.open;have hw:=DJ hT i;rw[drop_cons hL]at hw;have d1:=AB (UK hw hg);obtain⟨bC,oC,a2,c2,rfl,_,d9,b6,n5,h0⟩:=hP.JM hL;obtain⟨bO,oO,rfl,_,h3,i2⟩:=hP.ord hL;obtain⟨bP,oP,uW,rfl,_,h9,g0,g4⟩:=hP.pow hL;have n3:L.c.length=T.length-(i+1):=V.AA.2.1;have m4:L.o<=7:=hs.2 L (Af hL);have HP:=AB hP;have HL:=AB hL;have HG:=AB hg;have HT:=AB hT;have HS:=AB hs;have i0:=AB b6;have l5:=AB i2;have l0:=AB g0;have h5:=AB g4;have f5:=AB h0;have k3:=AB (λK (hK:K<=1000)=>O6 T hT hs (i+1) K (by omega) hg hK);have d2:=AB (qg T hT hs i L hL);have b5:=AB (Jw T hT hs (i+1) (by omega));clear hP hL hg hT hs hw b6 h0 i2 g0 g4;go_enter Tryz.func235,Tryz.ntmps235;go_wp2_with fail;go_loopw [7] (λj wr=>∃m:Nat,m<=T.length-(i+1)/\j= .int .i64 ((i:Int)+1+(m:Int))/\Hid (∀t,t<m->C1 L (T.drop (i+1)) t)/\Below (w.heap.size+2) ((w.alloc (.cells #[.slice (some ⟨bO,oO,none⟩) T.length cO,.slice (some ⟨bP,oP,none⟩) T.length cP,.slice (some ⟨bC,oC,none⟩) T.length cC] 28)).alloc (.cells #[.int .i64 0,.int .i64 0,.int .i64 0,.int .i64 0] 166)) wr) (λj _=>T.length-(intOf j).toNat);case atStart=>exact⟨0,AX _,by go_num,AB (λt h=>absurd h (CS _)),BB _ _⟩
 case round=>
  obtain⟨m,hm,rfl,hR,hb⟩:=hrel;have J:=AB hb;clear hb;by_cases d8:m<T.length-(i+1)
  .skip
   obtain⟨⟨e0,e1,e2⟩,Q,B,N,W⟩:=Fp J.AA;have c0:=AB B;have HF:=AB Q;have b9:=AB N;have a3:w.heap.size<wr.heap.size:=by omega
   have R:=AB (HP.AA.keep B);clear Q N;obtain⟨y,hy⟩:∃y,L.c[m]?=some y:=⟨_,AU (by omega)⟩;obtain⟨b2,o2,uy,rfl,_,d6,b1,c8⟩:=f5.AA m y hy;obtain⟨D,a5⟩:∃D,T[i+1+m]?=some D:=⟨_,AU (by omega)⟩;obtain⟨k1,l3,eO,_,_,c4⟩:=HP.AA.ord a5;obtain⟨rfl,rfl⟩:bO=k1/\oO=l3:=by simpa using eO
   obtain⟨j8,i5,uP,eP,_,_,f4,g8⟩:=HP.AA.pow a5;obtain⟨rfl,rfl⟩:bP=j8/\oP=i5:=by simpa using eP
   have n2:D.o<=7:=HS.AA.2 D (Af a5);have k4:=AB c4;have l2:=AB f4;have f7:=AB b1;have j0:=AB g8;have c9:=AB c8;have c1:=AB (V.AA.2.2.1 y (Af hy));have g9:=AB (show El (T.drop (i+1)) (pad (m+1) D.w) from MV V.AA.1 (m+1) (by rw[EK,show i+1+(m+1)=i+1+m+1 by omega];exact(Ox HT.AA a5).2.2.2.1) (by simp;omega));have c5:=AB (show(pad (i+1+m+1) D.w).length=T.length/\El (T.drop (i+1)) ((pad (i+1+m+1) D.w).drop (i+1))/\(pad (i+1+m+1) D.w).drop (i+1)=pad (m+1) D.w from by
    have e:pad (i+1+m+1) D.w=pad (i+1) (pad (m+1) D.w):=by rw[LU];congr 1
    rw[e,BJ];exact⟨by rw[BS,Ad g9.AA];simp;omega,g9.AA,rfl⟩)
   have i1:=AB (show C1 L (T.drop (i+1)) m↔npow (mul (T.drop (i+1))) (AJ.one (T.drop (i+1))) y D.o=img (T.drop (i+1)) L.c (pad (m+1) D.w) from by
    unfold C1;rw[BG,hy,BG,Fa,a5];rfl)
   clear eO eP c4 f4 b1 g8 c8 a5 hy;have b6:wr.cell? ⟨bC,oC+i,none⟩=some (.slice (some ⟨b2,o2,none⟩) L.c.length c2):=by rw[B.cell trivial d9];exact i0.AA
   have d0:bC<wr.heap.size:=by omega
   have b1:wr.cell? ⟨b2,o2+m,none⟩=some (uy):=by rw[B.cell trivial d6];exact f7.AA
   have e9:b2<wr.heap.size:=by omega
   have c4:wr.cell? ⟨bO,oO+(i+1+m),none⟩=some (.int .i64 (D.o:Int)):=by rw[B.cell trivial h3];exact k4.AA
   have e5:bO<wr.heap.size:=by omega
   have w3:IntKind.i64.wrap ((i:Int)+1)=(i:Int)+1:=Ac _ (by omega);have w6:(i:Int)<(T.length:Int):=by omega
   have w7:(0:Int)<=(i:Int):=by omega
   have w1:IntKind.i64.wrap (((i:Int)+1+(m:Int))-(i:Int))=(m:Int)+1:=by rw[Ac _ (by omega)];omega
   have w2:IntKind.i64.wrap (((m:Int)+1)-1)=(m:Int):=by rw[Ac _ (by omega)];omega
   have w8:IntKind.i64.wrap (m:Int)=(m:Int):=Ac _ (by omega);have w4:(m:Int)<(L.c.length:Int):=by omega
   have I:(0:Int)<=(m:Int):=by omega
   have w9:(i:Int)+1+(m:Int)<(T.length:Int):=by omega
   have k8:(0:Int)<=(i:Int)+1+(m:Int):=by omega
   have l7:((i:Int)+1+(m:Int)).toNat=i+1+m:=by omega
   have g5:=AB (c9.AA.keep B);clear B;go_wp2_with fail;go_region_held3 (λw'=>(∀b o,b<wr.heap.size->w'.cell? ⟨b,o,none⟩=wr.cell? ⟨b,o,none⟩)/\Keep (λ_=>True) wr w')
    (first|exact Ap AL.drew|exact Ap (AR AL.drew ‹_›)|exact Ap (Keep.drewN (AR AL.drew ‹_›) _)|exact Ap (Keep.trans (AR AL.drew ‹_›) (AO ‹_›))|exact Ap (Keep.drewN (Keep.trans (AR AL.drew ‹_›) (AO ‹_›)) _))
    (first|(go_at_call 192;refine(k3.AA D.o (by omega) _ _ _ _ _ (pad (i+1) y) (R.AA.keep AL.drew) (g5.AA.keep AL.drew) (by rw[BS,Ad c1.AA];simp;omega) (by rw[BJ];exact c1.AA)).mono ?_;rintro e I ⟨v5,rfl,p,a4⟩))
   rw[BJ]at p;have a1:=AB (J.AA.trans ((AY.drew).trans (a4.mono (by show w.heap.size+2<=wr.heap.size;omega))));have a8:=AB p;clear p a4 e0 e1 e2 a3 W b6 b1 c4 d0 e9 e5;obtain⟨⟨e0,e1,e2⟩,Q,B,N,W⟩:=Fp a1.AA;have c0:=AB B;have HF:=AB Q;have b9:=AB N;have a3:w.heap.size<I.heap.size:=by omega
   have R:=AB (HP.AA.keep B);clear Q N;have f4:I.cell? ⟨bP,oP+(i+1+m),none⟩=some (uP):=by rw[B.cell trivial h9];exact l2.AA
   have h8:bP<I.heap.size:=by omega
   have g2:=AB (j0.AA.keep B);clear B;by_cases F:C1 L (T.drop (i+1)) m
   .skip
    have r:=AB (show decide (ints (pad (i+1) (npow (mul (T.drop (i+1))) (AJ.one (T.drop (i+1))) y D.o))=ints (pad (i+1) (img (T.drop (i+1)) L.c (pad (m+1) D.w))))=true by
     rw[GV];exact ET (i1.AA.1 F))
    have c7:=AB F;clear F;go_wp2_with fail;go_region_held3 (λw'=>(∀b o,b<I.heap.size->w'.cell? ⟨b,o,none⟩=I.cell? ⟨b,o,none⟩)/\Keep (λ_=>True) I w')
     (first|exact Ap AL.drew|exact Ap (AR AL.drew ‹_›)|exact Ap (Keep.drewN (AR AL.drew ‹_›) _)|exact Ap (Keep.trans (AR AL.drew ‹_›) (AO ‹_›))|exact Ap (Keep.drewN (Keep.trans (AR AL.drew ‹_›) (AO ‹_›)) _))
     (first|(go_at_call 247;refine(d2.AA _ _ _ _ _ (pad (i+1+m+1) D.w) (R.AA.keep AL.drew) (g2.AA.keep AL.drew) c5.AA.1 c5.AA.2.1).mono ?_;rintro e w6 ⟨v6,rfl,a6,a7⟩;rw[c5.AA.2.2]at a6)|(go_at_call 212;refine(JV _ _ _ _ _ ((a8.AA.sl.mono (λ_ _=>trivial)).keep (AR AL.drew ‹_›)) (a6.sl.mono (λ_ _=>trivial))).mono ?_;rintro e w7 ⟨rfl,g,rfl⟩;rw[r.AA]))
    have a:=AB (a1.AA.trans ((AY.drew).trans ((Cs a7 g).mono (by show w.heap.size+2<=I.heap.size;omega))));clear a6 a7;go_wp2_with fail;go_roundw;case rel=>exact⟨m+1,by omega,by go_num,AB (λt ht=>by
     rcases DF.1 ht with h|h
     .exact hR.AA t h
     .subst h;exact c7.AA),a.AA⟩
    case measure=>simp[intOf];omega
   .skip
    have r:=AB (show decide (ints (pad (i+1) (npow (mul (T.drop (i+1))) (AJ.one (T.drop (i+1))) y D.o))=ints (pad (i+1) (img (T.drop (i+1)) L.c (pad (m+1) D.w))))=false by
     rw[GV];exact ED (λh=>F (i1.AA.2 h)))
    have b8:=AB (show¬Ep L (T.drop (i+1)) from λh=>F ((d1.AA.1 h).1 m (by simp;omega)));clear F;go_wp2_with fail;go_region_held3 (λw'=>(∀b o,b<I.heap.size->w'.cell? ⟨b,o,none⟩=I.cell? ⟨b,o,none⟩)/\Keep (λ_=>True) I w')
     (first|exact Ap AL.drew|exact Ap (AR AL.drew ‹_›)|exact Ap (Keep.drewN (AR AL.drew ‹_›) _)|exact Ap (Keep.trans (AR AL.drew ‹_›) (AO ‹_›))|exact Ap (Keep.drewN (Keep.trans (AR AL.drew ‹_›) (AO ‹_›)) _))
     (first|(go_at_call 247;refine(d2.AA _ _ _ _ _ (pad (i+1+m+1) D.w) (R.AA.keep AL.drew) (g2.AA.keep AL.drew) c5.AA.1 c5.AA.2.1).mono ?_;rintro e w6 ⟨v6,rfl,a6,a7⟩;rw[c5.AA.2.2]at a6)|(go_at_call 212;refine(JV _ _ _ _ _ ((a8.AA.sl.mono (λ_ _=>trivial)).keep (AR AL.drew ‹_›)) (a6.sl.mono (λ_ _=>trivial))).mono ?_;rintro e w7 ⟨rfl,g,rfl⟩;rw[r.AA]))
    have a:=AB (a1.AA.trans ((AY.drew).trans ((Cs a7 g).mono (by show w.heap.size+2<=I.heap.size;omega))));clear a6 a7;obtain⟨_,C,_,a0,b0⟩:=Fp a.AA;have f0:=Ar _ (w.heap.size+1) 0 _ _ (0,0) C;have u:=Ar _ (w.heap.size+1) 1 _ _ (0,0) C;have f2:=Ar _ (w.heap.size+1) 2 _ _ (0,0) C;have f3:=Ar _ (w.heap.size+1) 3 _ _ (0,0) C;have z0:=BP _ (w.heap.size+1) 0 _ _ C;have z1:=BP _ (w.heap.size+1) 1 _ _ C;have z2:=BP _ (w.heap.size+1) 2 _ _ C;have z3:=BP _ (w.heap.size+1) 3 _ _ C;have a9:=AB a0;clear C a0 b0;simp at f0 u f2 f3;go_wp2_with fail;exact Au (v:=.agg #[.int .i64 1,.int .i64 (i),.int .i64 ((i:Int)+1+(m:Int)),.int .i64 (0)]) (by simp[results,Tryz.results235,go_sem,f0,u,f2,f3]) rfl
     ⟨1,_,_,_,rfl,⟨λh=>absurd h (by decide),λh=>absurd h b8.AA⟩,(((a9.AA.setCell (by simp) _).setCell (by simp) _).setCell (by simp) _).setCell (by simp) _⟩
  .skip
   obtain rfl:m=T.length-(i+1):=by omega
   have H1:=AB (show∀j<(T.drop (i+1)).length,C1 L (T.drop (i+1)) j from λj hj=>hR.AA j (by simpa using hj));clear hR d8 hm;go_wp2_with fail;go_loopw [9] (λj wr=>∃m:Nat,m<=T.length-(i+1)/\j= .int .i64 ((i:Int)+1+(m:Int))/\Hid (∀t,t<m->∀k,t<k->k<T.length-(i+1)->C2 L (T.drop (i+1)) t k)/\Below (w.heap.size+2) ((w.alloc (.cells #[.slice (some ⟨bO,oO,none⟩) T.length cO,.slice (some ⟨bP,oP,none⟩) T.length cP,.slice (some ⟨bC,oC,none⟩) T.length cC] 28)).alloc (.cells #[.int .i64 0,.int .i64 0,.int .i64 0,.int .i64 0] 166)) wr) (λj _=>T.length-(intOf j).toNat);case atStart=>exact⟨0,AX _,by go_num,AB (λt h=>absurd h (CS _)),J.AA⟩
   case round=>
    clear J;obtain⟨m,hm,rfl,hR,hb⟩:=hrel;have J:=AB hb;clear hb;by_cases d8:m<T.length-(i+1)
    .skip
     have hd:decide ((i:Int)+1+(m:Int)<(T.length:Int))=true:=by simp;omega
     obtain⟨x,hx⟩:∃x,L.c[m]?=some x:=⟨_,AU (by omega)⟩;obtain⟨b2,o2,s,rfl,_,d6,d4,b3⟩:=f5.AA m x hx;obtain⟨D,a5⟩:∃D,T[i+1+m]?=some D:=⟨_,AU (by omega)⟩;obtain⟨i4,j7,aJ,cJ,eC,_,_,h6,m1,g6⟩:=HP.AA.JM a5;obtain⟨rfl,rfl⟩:bC=i4/\oC=j7:=by simpa using eC
     have k6:=AB d4;have e7:=AB b3;have k0:=AB h6;have j5:=AB g6;have HX:=AB hx;have i3:=AB a5;have b4:=AB (V.AA.2.2.1 x (Af hx));have j2:=AB (Ox HT.AA a5).2.1;clear hx d4 b3 eC h6 g6 a5;go_wp2_with fail;go_loopw [10] (λkv wr=>∃q:Nat,m+1<=q/\q<=T.length-(i+1)/\kv= .int .i64 ((i:Int)+1+(q:Int))/\Hid (∀k,m<k->k<q->C2 L (T.drop (i+1)) m k)/\Below (w.heap.size+2) ((w.alloc (.cells #[.slice (some ⟨bO,oO,none⟩) T.length cO,.slice (some ⟨bP,oP,none⟩) T.length cP,.slice (some ⟨bC,oC,none⟩) T.length cC] 28)).alloc (.cells #[.int .i64 0,.int .i64 0,.int .i64 0,.int .i64 0] 166)) wr) (λkv _=>T.length-(intOf kv).toNat);case atStart=>exact⟨m+1,Al _,by omega,by go_num,AB (λk h1 h2=>absurd h2 (by omega)),J.AA⟩
     case round=>
      clear J;obtain⟨q,j9,hq,rfl,hQ,hb⟩:=hrel;have J:=AB hb;clear hb;by_cases l8:q<T.length-(i+1)
      .skip
       obtain⟨⟨e0,e1,e2⟩,Q,B,N,W⟩:=Fp J.AA;have c0:=AB B;have HF:=AB Q;have b9:=AB N;have a3:w.heap.size<wr.heap.size:=by omega
       have R:=AB (HP.AA.keep B);clear Q N;obtain⟨y,hy⟩:∃y,L.c[q]?=some y:=⟨_,AU (by omega)⟩;obtain⟨i9,l4,uy,f9,_,_,b1,c8⟩:=f5.AA q y hy;obtain⟨rfl,rfl⟩:b2=i9/\o2=l4:=by simpa using f9
       obtain⟨d,k9⟩:∃d,q=m+1+d:=⟨q-(m+1),by omega⟩;have j1:d<D.c.length:=by rw[j2.AA];omega
       obtain⟨z,hz⟩:∃z,D.c[d]?=some z:=⟨_,AU j1⟩;obtain⟨bJ,oJ,uz,rfl,_,l6,d3,f8⟩:=j5.AA d z hz;have f7:=AB b1;have c9:=AB c8;have k5:=AB d3;have l1:=AB f8;have c1:=AB (V.AA.2.2.1 y (Af hy));have g7:=AB (show El (T.drop (i+1)) (pad (m+1) z) from MV V.AA.1 (m+1) (by rw[EK,show i+1+(m+1)=i+1+m+1 by omega];exact(Ox HT.AA i3.AA).2.2.1 z (Af hz)) (by simp;omega));have e8:=AB (show(pad (i+1+m+1) z).length=T.length/\El (T.drop (i+1)) ((pad (i+1+m+1) z).drop (i+1))/\(pad (i+1+m+1) z).drop (i+1)=pad (m+1) z from by
        have e:pad (i+1+m+1) z=pad (i+1) (pad (m+1) z):=by rw[LU];congr 1
        rw[e,BJ];exact⟨by rw[BS,Ad g7.AA];simp;omega,g7.AA,rfl⟩)
       have g3:=AB (show C2 L (T.drop (i+1)) m q↔mul (T.drop (i+1)) y x=mul (T.drop (i+1)) x (img (T.drop (i+1)) L.c (pad (m+1) z)) from by
        unfold C2;rw[BG,hy,BG,HX.AA,BG (l:=T.drop (i+1)),Fa,i3.AA,BG,show q-m-1=d by omega];simp only[OM];rw[hz];rfl)
       clear f9 b1 c8 d3 f8 hy hz;have b6:wr.cell? ⟨bC,oC+i,none⟩=some (.slice (some ⟨b2,o2,none⟩) L.c.length c2):=by rw[B.cell trivial d9];exact i0.AA
       have d0:bC<wr.heap.size:=by omega
       have d4:wr.cell? ⟨b2,o2+m,none⟩=some (s):=by rw[B.cell trivial d6];exact k6.AA
       have e9:b2<wr.heap.size:=by omega
       have b1:wr.cell? ⟨b2,o2+q,none⟩=some uy:=by rw[B.cell trivial d6];exact f7.AA
       have w3:IntKind.i64.wrap ((i:Int)+1)=(i:Int)+1:=Ac _ (by omega);have w6:(i:Int)<(T.length:Int):=by omega
       have w7:(0:Int)<=(i:Int):=by omega
       have w1:IntKind.i64.wrap (((i:Int)+1+(m:Int))-(i:Int))=(m:Int)+1:=by rw[Ac _ (by omega)];omega
       have w2:IntKind.i64.wrap (((m:Int)+1)-1)=(m:Int):=by rw[Ac _ (by omega)];omega
       have w8:IntKind.i64.wrap (m:Int)=(m:Int):=Ac _ (by omega);have w4:(m:Int)<(L.c.length:Int):=by omega
       have I:(0:Int)<=(m:Int):=by omega
       have w9:(i:Int)+1+(m:Int)<(T.length:Int):=by omega
       have k8:(0:Int)<=(i:Int)+1+(m:Int):=by omega
       have l7:((i:Int)+1+(m:Int)).toNat=i+1+m:=by omega
       have n9:IntKind.i64.wrap (((i:Int)+1+(q:Int))-(i:Int))=(q:Int)+1:=by rw[Ac _ (by omega)];omega
       have m7:IntKind.i64.wrap (((q:Int)+1)-1)=(q:Int):=by rw[Ac _ (by omega)];omega
       have m2:IntKind.i64.wrap (q:Int)=(q:Int):=Ac _ (by omega);have o0:(q:Int)<(L.c.length:Int):=by omega
       have m0:(0:Int)<=(q:Int):=by omega
       have m8:(i:Int)+1+(q:Int)<(T.length:Int):=by omega
       have n0:(0:Int)<=(i:Int)+1+(q:Int):=by omega
       have n6:((i:Int)+1+(q:Int)).toNat=i+1+q:=by omega
       have n4:=AB (e7.AA.keep B);have g5:=AB (c9.AA.keep B);have wA:IntKind.i64.wrap (((i:Int)+1+(q:Int))-((i:Int)+1+(m:Int)))=(d:Int)+1:=by rw[Ac _ (by omega)];omega
       have m3:IntKind.i64.wrap ((q:Int)-(m:Int))=(d:Int)+1:=by rw[Ac _ (by omega)];omega
       have wB:IntKind.i64.wrap (((d:Int)+1)-1)=(d:Int):=by rw[Ac _ (by omega)];omega
       have wD:IntKind.i64.wrap (d:Int)=(d:Int):=Ac _ (by omega);have wE:(d:Int)<(D.c.length:Int):=by omega
       have wF:(0:Int)<=(d:Int):=by omega
       clear B k9;go_wp2_with fail;go_region_held3 (λw'=>(∀b o,b<wr.heap.size->w'.cell? ⟨b,o,none⟩=wr.cell? ⟨b,o,none⟩)/\Keep (λ_=>True) wr w')
        (first|exact Ap AL.drew|exact Ap (AR AL.drew ‹_›)|exact Ap (Keep.drewN (AR AL.drew ‹_›) _)|exact Ap (Keep.trans (AR AL.drew ‹_›) (AO ‹_›))|exact Ap (Keep.drewN (Keep.trans (AR AL.drew ‹_›) (AO ‹_›)) _))
        (first|(fail))
       obtain⟨w4,e6⟩:∃w4,w4=wr.drew:=⟨_,rfl⟩;rw[<-e6];have h7:=AB (show Below (w.heap.size+2) ((w.alloc (.cells #[.slice (some ⟨bO,oO,none⟩) T.length cO,.slice (some ⟨bP,oP,none⟩) T.length cP,.slice (some ⟨bC,oC,none⟩) T.length cC] 28)).alloc (.cells #[.int .i64 0,.int .i64 0,.int .i64 0,.int .i64 0] 166)) w4 by rw[e6];exact J.AA.drew);clear e6 e0 e1 e2 a3 W b6 d4 b1 d0 e9;obtain⟨⟨e0,e1,e2⟩,Q,B,N,W⟩:=Fp h7.AA;have c0:=AB B;have HF:=AB Q;have b9:=AB N;have a3:w.heap.size<w4.heap.size:=by omega
       have R:=AB (HP.AA.keep B);clear Q N;have b6:w4.cell? ⟨bC,oC+(i+1+m),none⟩=some (.slice (some ⟨bJ,oJ,none⟩) D.c.length cJ):=by rw[B.cell trivial d9];exact k0.AA
       have d0:bC<w4.heap.size:=by omega
       have d3:w4.cell? ⟨bJ,oJ+d,none⟩=some (uz):=by rw[B.cell trivial l6];exact k5.AA
       have j6:bJ<w4.heap.size:=by omega
       have j3:=AB (l1.AA.keep B);have l9:=AB (e7.AA.keep B);have m5:=AB (c9.AA.keep B);clear B;go_wp2_with fail;go_region_held3 (λw'=>(∀b o,b<w4.heap.size->w'.cell? ⟨b,o,none⟩=w4.cell? ⟨b,o,none⟩)/\Keep (λ_=>True) w4 w')
        (first|exact Ap AL.drew|exact Ap (AR AL.drew ‹_›)|exact Ap (Keep.drewN (AR AL.drew ‹_›) _)|exact Ap (Keep.trans (AR AL.drew ‹_›) (AO ‹_›))|exact Ap (Keep.drewN (Keep.trans (AR AL.drew ‹_›) (AO ‹_›)) _))
        (first|(go_at_call 247;refine(d2.AA _ _ _ _ _ (pad (i+1+m+1) z) (R.AA.keep AL.drew) (j3.AA.keep AL.drew) e8.AA.1 e8.AA.2.1).mono ?_;rintro e I ⟨v5,rfl,p,a4⟩;rw[e8.AA.2.2]at p))
       have a1:=AB (h7.AA.trans ((AY.drew).trans (a4.mono (by show w.heap.size+2<=w4.heap.size;omega))));have a8:=AB p;have n1:=AB (Keep.trans AL.drew (AO (S:=λ_=>True) a4));clear p a4 e0 e1 e2 a3 W b6 d3 d0 j6;obtain⟨⟨e0,e1,e2⟩,Q,B,N,W⟩:=Fp a1.AA;have c0:=AB B;have HF:=AB Q;have b9:=AB N;have a3:w.heap.size<I.heap.size:=by omega
       have R:=AB (HP.AA.keep B);clear Q N;have d7:=AB (e7.AA.keep B);have h4:=AB (c9.AA.keep B);have d5:=AB (show El (T.drop (i+1)) (img (T.drop (i+1)) L.c (pad (m+1) z)) from KZ V.AA.1 V.AA.2.2.1 _);clear B;by_cases F:C2 L (T.drop (i+1)) m q
       .skip
        have r:=AB (show decide (ints (pad (i+1) (mul (T.drop (i+1)) y x))=ints (pad (i+1) (mul (T.drop (i+1)) x (img (T.drop (i+1)) L.c (pad (m+1) z)))))=true by
         rw[GV];exact ET (g3.AA.1 F))
        have c7:=AB F;clear F;go_wp2_with fail;go_region_held3 (λw'=>(∀b o,b<I.heap.size->w'.cell? ⟨b,o,none⟩=I.cell? ⟨b,o,none⟩)/\Keep (λ_=>True) I w')
         (first|exact Ap AL.drew|exact Ap (AR AL.drew ‹_›)|exact Ap (Keep.drewN (AR AL.drew ‹_›) _)|exact Ap (Keep.trans (AR AL.drew ‹_›) (AO ‹_›))|exact Ap (Keep.drewN (Keep.trans (AR AL.drew ‹_›) (AO ‹_›)) _))
         (first|(go_at_call_of 217 uy;refine(b5.AA _ _ _ _ uy s (pad (i+1) y) (pad (i+1) x) (R.AA.keep (by first|exact AL.drew|exact AR AL.drew ‹_›)) (h4.AA.keep (by first|exact AL.drew|exact AR AL.drew ‹_›)) (d7.AA.keep (by first|exact AL.drew|exact AR AL.drew ‹_›)) (by rw[BS,Ad c1.AA];simp;omega) (by rw[BS,Ad b4.AA];simp;omega) (by rw[BJ];exact c1.AA) (by rw[BJ];exact b4.AA)).mono ?_;rintro e wa ⟨va,rfl,X,U⟩;rw[BJ,BJ]at X)|(go_at_call_of 217 v5;refine(b5.AA _ _ _ _ s v5 (pad (i+1) x) (pad (i+1) (img (T.drop (i+1)) L.c (pad (m+1) z))) (R.AA.keep (by first|exact AL.drew|exact AR AL.drew ‹_›)) (d7.AA.keep (by first|exact AL.drew|exact AR AL.drew ‹_›)) ((a8.AA.sl.mono (λ_ _=>trivial)).keep (by first|exact AL.drew|exact AR AL.drew ‹_›)) (by rw[BS,Ad b4.AA];simp;omega) (by rw[BS,Ad d5.AA];simp;omega) (by rw[BJ];exact b4.AA) (by rw[BJ];exact d5.AA)).mono ?_;rintro e wb ⟨vb,rfl,Z,O⟩;rw[BJ,BJ]at Z)|(go_at_call 212;refine(JV _ va vb _ _ (by first|exact X.sl.mono (λ_ _=>trivial)|exact(X.sl.mono (λ_ _=>trivial)).keep (AO O)) (by first|exact Z.sl.mono (λ_ _=>trivial)|exact(Z.sl.mono (λ_ _=>trivial)).keep (AO U))).mono ?_;rintro e w7 ⟨rfl,g,rfl⟩;rw[r.AA]))
        all_goals
         have Y:w.heap.size+2<=I.heap.size:=W;have a:=AB (a1.AA.trans ((AY.drew).trans (Cs (by first|exact(U.mono Y).trans (O.mono (Ae Y U.size))|exact(O.mono Y).trans (U.mono (Ae Y O.size))) g)));clear X U Z O;go_wp2_with fail;go_roundw;case rel=>exact⟨q+1,by omega,by omega,by go_num,AB (λt h1 ht=>by
          rcases DF.1 ht with h|h
          .exact hQ.AA t h1 h
          .subst h;exact c7.AA),a.AA⟩
         case measure=>simp[intOf];omega
       .skip
        have r:=AB (show decide (ints (pad (i+1) (mul (T.drop (i+1)) y x))=ints (pad (i+1) (mul (T.drop (i+1)) x (img (T.drop (i+1)) L.c (pad (m+1) z)))))=false by
         rw[GV];exact ED (λh=>F (g3.AA.2 h)))
        have b8:=AB (show¬Ep L (T.drop (i+1)) from λh=>F ((d1.AA.1 h).2.1 m (by simp;omega) q (by omega) (by simp;omega)));clear F;go_wp2_with fail;go_region_held3 (λw'=>(∀b o,b<I.heap.size->w'.cell? ⟨b,o,none⟩=I.cell? ⟨b,o,none⟩)/\Keep (λ_=>True) I w')
         (first|exact Ap AL.drew|exact Ap (AR AL.drew ‹_›)|exact Ap (Keep.drewN (AR AL.drew ‹_›) _)|exact Ap (Keep.trans (AR AL.drew ‹_›) (AO ‹_›))|exact Ap (Keep.drewN (Keep.trans (AR AL.drew ‹_›) (AO ‹_›)) _))
         (first|(go_at_call_of 217 uy;refine(b5.AA _ _ _ _ uy s (pad (i+1) y) (pad (i+1) x) (R.AA.keep (by first|exact AL.drew|exact AR AL.drew ‹_›)) (h4.AA.keep (by first|exact AL.drew|exact AR AL.drew ‹_›)) (d7.AA.keep (by first|exact AL.drew|exact AR AL.drew ‹_›)) (by rw[BS,Ad c1.AA];simp;omega) (by rw[BS,Ad b4.AA];simp;omega) (by rw[BJ];exact c1.AA) (by rw[BJ];exact b4.AA)).mono ?_;rintro e wa ⟨va,rfl,X,U⟩;rw[BJ,BJ]at X)|(go_at_call_of 217 v5;refine(b5.AA _ _ _ _ s v5 (pad (i+1) x) (pad (i+1) (img (T.drop (i+1)) L.c (pad (m+1) z))) (R.AA.keep (by first|exact AL.drew|exact AR AL.drew ‹_›)) (d7.AA.keep (by first|exact AL.drew|exact AR AL.drew ‹_›)) ((a8.AA.sl.mono (λ_ _=>trivial)).keep (by first|exact AL.drew|exact AR AL.drew ‹_›)) (by rw[BS,Ad b4.AA];simp;omega) (by rw[BS,Ad d5.AA];simp;omega) (by rw[BJ];exact b4.AA) (by rw[BJ];exact d5.AA)).mono ?_;rintro e wb ⟨vb,rfl,Z,O⟩;rw[BJ,BJ]at Z)|(go_at_call 212;refine(JV _ va vb _ _ (by first|exact X.sl.mono (λ_ _=>trivial)|exact(X.sl.mono (λ_ _=>trivial)).keep (AO O)) (by first|exact Z.sl.mono (λ_ _=>trivial)|exact(Z.sl.mono (λ_ _=>trivial)).keep (AO U))).mono ?_;rintro e w7 ⟨rfl,g,rfl⟩;rw[r.AA]))
        all_goals
         have Y:w.heap.size+2<=I.heap.size:=W;have a:=AB (a1.AA.trans ((AY.drew).trans (Cs (by first|exact(U.mono Y).trans (O.mono (Ae Y U.size))|exact(O.mono Y).trans (U.mono (Ae Y O.size))) g)));clear X U Z O;obtain⟨_,C,_,a0,b0⟩:=Fp a.AA;have f0:=Ar _ (w.heap.size+1) 0 _ _ (0,0) C;have u:=Ar _ (w.heap.size+1) 1 _ _ (0,0) C;have f2:=Ar _ (w.heap.size+1) 2 _ _ (0,0) C;have f3:=Ar _ (w.heap.size+1) 3 _ _ (0,0) C;have z0:=BP _ (w.heap.size+1) 0 _ _ C;have z1:=BP _ (w.heap.size+1) 1 _ _ C;have z2:=BP _ (w.heap.size+1) 2 _ _ C;have z3:=BP _ (w.heap.size+1) 3 _ _ C;have a9:=AB a0;clear C a0 b0;simp at f0 u f2 f3;go_wp2_with fail;exact Au (v:=.agg #[.int .i64 2,.int .i64 (i),.int .i64 ((i:Int)+1+(m:Int)),.int .i64 ((i:Int)+1+(q:Int))]) (by simp[results,Tryz.results235,go_sem,f0,u,f2,f3]) rfl
          ⟨2,_,_,_,rfl,⟨λh=>absurd h (by decide),λh=>absurd h b8.AA⟩,(((a9.AA.setCell (by simp) _).setCell (by simp) _).setCell (by simp) _).setCell (by simp) _⟩
      .skip
       obtain rfl:q=T.length-(i+1):=by omega
       clear l8 hq j9;go_wp2_with fail;go_roundw;case rel=>exact⟨m+1,by omega,by go_num,AB (λt ht=>by
        rcases DF.1 ht with h|h
        .exact hR.AA t h
        .subst h;exact hQ.AA),J.AA⟩
       case measure=>simp[intOf];omega
    .skip
     obtain rfl:m=T.length-(i+1):=by omega
     have H2:=AB (show∀j<(T.drop (i+1)).length,∀k,j<k->k<(T.drop (i+1)).length->C2 L (T.drop (i+1)) j k from λj hj k h1 h2=>hR.AA j (by simpa using hj) k h1 (by simpa using h2));clear hR d8 hm;obtain⟨⟨e0,e1,e2⟩,Q,B,N,W⟩:=Fp J.AA;have c0:=AB B;have HF:=AB Q;have b9:=AB N;have a3:w.heap.size<wr.heap.size:=by omega
     have R:=AB (HP.AA.keep B);clear Q N;have k2:wr.cell? ⟨bP,oP+i,none⟩=some (uW):=by rw[B.cell trivial h9];exact l0.AA
     have h8:bP<wr.heap.size:=by omega
     have b7:=AB (h5.AA.keep B);clear B;go_wp2_with fail;refine(d2.AA _ _ _ _ _ (pad (i+1) L.w) R.AA b7.AA (by rw[BS,Ad V.AA.2.2.2.1];simp;omega) (by rw[BJ];exact V.AA.2.2.2.1)).mono ?_;rintro e I ⟨v5,rfl,p,a4⟩;rw[BJ]at p;have a8:=AB p;have f6:=AB (b7.AA.keep (AO a4));have a1:=AB (J.AA.trans (a4.mono W));clear p a4 e0 e1 e2 a3 W k2 h8;by_cases F:C3 L (T.drop (i+1))
     .skip
      have r:=AB (show decide (ints (pad (i+1) (img (T.drop (i+1)) L.c L.w))=ints (pad (i+1) L.w))=true by
       rw[GV];exact ET F)
      have H3:=AB F;clear F;go_wp2_with fail;refine(JV _ _ _ _ _ (a8.AA.sl.mono (λ_ _=>trivial)) f6.AA).mono ?_;rintro e w7 ⟨rfl,g,rfl⟩;rw[r.AA];have a:=AB (Cs a1.AA g);go_wp2_with fail;go_loopw [15] (λj wr=>∃m:Nat,m<=T.length-(i+1)/\j= .int .i64 ((i:Int)+1+(m:Int))/\Hid (∀t,t<m->C4 L (T.drop (i+1)) t)/\Below (w.heap.size+2) ((w.alloc (.cells #[.slice (some ⟨bO,oO,none⟩) T.length cO,.slice (some ⟨bP,oP,none⟩) T.length cP,.slice (some ⟨bC,oC,none⟩) T.length cC] 28)).alloc (.cells #[.int .i64 0,.int .i64 0,.int .i64 0,.int .i64 0] 166)) wr) (λj _=>T.length-(intOf j).toNat);case atStart=>exact⟨0,AX _,by go_num,AB (λt h=>absurd h (CS _)),a.AA⟩
      case round=>
       clear J a1 a a8 b7 f6 R;obtain⟨m,hm,rfl,hR,hb⟩:=hrel;have J:=AB hb;clear hb;by_cases d8:m<T.length-(i+1)
       .skip
        obtain⟨⟨e0,e1,e2⟩,Q,B,N,W⟩:=Fp J.AA;have c0:=AB B;have HF:=AB Q;have b9:=AB N;have a3:w.heap.size<wr.heap.size:=by omega
        have R:=AB (HP.AA.keep B);clear Q N;have hd:decide ((i:Int)+1+(m:Int)<(T.length:Int))=true:=by simp;omega
        have HU:=AB (show(List.replicate T.length 0).set (i+1+m) 1=pad (i+1) (unit (T.drop (i+1)) m) from(Qv T (i+1) m (by omega)).symm);have c6:=AB (show El (T.drop (i+1)) (unit (T.drop (i+1)) m) from Ip V.AA.1 m);have c3:=AB (show∀k,El (T.drop (i+1)) (it (img (T.drop (i+1)) L.c) k (unit (T.drop (i+1)) m)) from λk=>GH (El _) _ (λz _=>KZ V.AA.1 V.AA.2.2.1 z) k _ c6.AA);clear B;go_wp2_with fail;refine(PM T.length (i+1+m) i8 (by omega) _).mono ?_;rintro e I ⟨ug,rfl,p,a4⟩;rw[HU.AA]at p;have e4:=AB (p.sl.mono (S':=λ_=>True) (λ_ _=>trivial));have a1:=AB (J.AA.trans (a4.mono W));clear p a4 e0 e1 e2 a3 W;go_wp2_with fail;go_loopw [17,18] (λxv kv wr=>∃κ:Nat,κ<=L.o/\kv= .int .i64 (κ:Int)/\AP (λ_=>True) wr xv (ints (pad (i+1) (it (img (T.drop (i+1)) L.c) κ (unit (T.drop (i+1)) m))))/\AP (λ_=>True) wr ug (ints (pad (i+1) (unit (T.drop (i+1)) m)))/\Below (w.heap.size+2) ((w.alloc (.cells #[.slice (some ⟨bO,oO,none⟩) T.length cO,.slice (some ⟨bP,oP,none⟩) T.length cP,.slice (some ⟨bC,oC,none⟩) T.length cC] 28)).alloc (.cells #[.int .i64 0,.int .i64 0,.int .i64 0,.int .i64 0] 166)) wr) (λ_ kv _=>L.o-(intOf kv).toNat);case atStart=>exact⟨0,AX _,rfl,e4.AA,e4.AA,a1.AA⟩
        case round=>
         clear J a1 e4 R;obtain⟨κ,hκ,rfl,hx,g1,hb⟩:=hrel;have J:=AB hb;have HX:=AB hx;have e3:=AB g1;clear hb hx g1;obtain⟨⟨e0,e1,e2⟩,Q,B,N,W⟩:=Fp J.AA;have c0:=AB B;have HF:=AB Q;have b9:=AB N;have a3:w.heap.size<wr.heap.size:=by omega
         have R:=AB (HP.AA.keep B);clear Q N;have c4:wr.cell? ⟨bO,oO+i,none⟩=some (.int .i64 (L.o:Int)):=by rw[B.cell trivial h3];exact l5.AA
         have e5:bO<wr.heap.size:=by omega
         have b7:=AB (h5.AA.keep B);clear B;by_cases hκt:κ<L.o
         .skip
          go_wp2_with fail;refine(d2.AA _ _ _ _ _ (pad (i+1) (it (img (T.drop (i+1)) L.c) κ (unit (T.drop (i+1)) m))) R.AA HX.AA (by rw[BS,Ad (c3.AA κ)];simp;omega) (by rw[BJ];exact c3.AA κ)).mono ?_;rintro e w6 ⟨v6,rfl,a6,a7⟩;rw[BJ,<-EX (img (T.drop (i+1)) L.c)]at a6;have k7:=AB (a6.sl.mono (S':=λ_=>True) (λ_ _=>trivial));have j4:=AB (e3.AA.keep (AO a7));have i7:=AB (J.AA.trans (a7.mono W));clear a6 a7 e0 e1 e2 a3 W c4 e5;go_wp2_with fail;go_roundw;case rel=>exact⟨κ+1,by omega,by go_num,k7.AA,j4.AA,i7.AA⟩
          case measure=>simp[intOf];omega
         .skip
          obtain rfl:κ=L.o:=by omega
          clear hκt hκ;have w3:IntKind.i64.wrap ((i:Int)+1)=(i:Int)+1:=Ac _ (by omega);have w6:(i:Int)<(T.length:Int):=by omega
          have w7:(0:Int)<=(i:Int):=by omega
          by_cases F:C4 L (T.drop (i+1)) m
          .skip
           have r:=AB (show decide (ints (pad (i+1) (mul (T.drop (i+1)) L.w (it (img (T.drop (i+1)) L.c) L.o (unit (T.drop (i+1)) m))))=ints (pad (i+1) (mul (T.drop (i+1)) (unit (T.drop (i+1)) m) L.w)))=true by
            rw[GV];exact ET F)
           have c7:=AB F;clear F;obtain⟨s,b3⟩:∃s,s=u17:=⟨_,rfl⟩;rw[<-b3]at HX ⊢;clear b3;go_wp2_with fail;go_region_held3 (λw'=>(∀b o,b<wr.heap.size->w'.cell? ⟨b,o,none⟩=wr.cell? ⟨b,o,none⟩)/\Keep (λ_=>True) wr w')
            (first|exact Ap AL.drew|exact Ap (AR AL.drew ‹_›)|exact Ap (Keep.drewN (AR AL.drew ‹_›) _)|exact Ap (Keep.trans (AR AL.drew ‹_›) (AO ‹_›))|exact Ap (Keep.drewN (Keep.trans (AR AL.drew ‹_›) (AO ‹_›)) _))
            (first|(go_at_call_of 217 s;refine(b5.AA _ _ _ _ uW s (pad (i+1) L.w) (pad (i+1) (it (img (T.drop (i+1)) L.c) L.o (unit (T.drop (i+1)) m))) (R.AA.keep (by first|exact AL.drew|exact AR AL.drew ‹_›)) (b7.AA.keep (by first|exact AL.drew|exact AR AL.drew ‹_›)) (HX.AA.keep (by first|exact AL.drew|exact AR AL.drew ‹_›)) (by rw[BS,Ad V.AA.2.2.2.1];simp;omega) (by rw[BS,Ad (c3.AA L.o)];simp;omega) (by rw[BJ];exact V.AA.2.2.2.1) (by rw[BJ];exact c3.AA L.o)).mono ?_;rintro e wa ⟨va,rfl,X,U⟩;rw[BJ,BJ]at X)|(go_at_call_of 217 ug;refine(b5.AA _ _ _ _ ug uW (pad (i+1) (unit (T.drop (i+1)) m)) (pad (i+1) L.w) (R.AA.keep (by first|exact AL.drew|exact AR AL.drew ‹_›)) (e3.AA.keep (by first|exact AL.drew|exact AR AL.drew ‹_›)) (b7.AA.keep (by first|exact AL.drew|exact AR AL.drew ‹_›)) (by rw[BS,Ad c6.AA];simp;omega) (by rw[BS,Ad V.AA.2.2.2.1];simp;omega) (by rw[BJ];exact c6.AA) (by rw[BJ];exact V.AA.2.2.2.1)).mono ?_;rintro e wb ⟨vb,rfl,Z,O⟩;rw[BJ,BJ]at Z)|(go_at_call 212;refine(JV _ va vb _ _ (by first|exact X.sl.mono (λ_ _=>trivial)|exact(X.sl.mono (λ_ _=>trivial)).keep (AO O)) (by first|exact Z.sl.mono (λ_ _=>trivial)|exact(Z.sl.mono (λ_ _=>trivial)).keep (AO U))).mono ?_;rintro e w7 ⟨rfl,g,rfl⟩;rw[r.AA]))
           all_goals
            have Y:w.heap.size+2<=wr.heap.size:=W;have a:=AB (J.AA.trans ((AY.drew).trans (Cs (by first|exact(U.mono Y).trans (O.mono (Ae Y U.size))|exact(O.mono Y).trans (U.mono (Ae Y O.size))) g)));clear X U Z O;go_wp2_with fail;go_roundw;case rel=>exact⟨m+1,by omega,by go_num,AB (λt ht=>by
             rcases DF.1 ht with h|h
             .exact hR.AA t h
             .subst h;exact c7.AA),a.AA⟩
            case measure=>simp[intOf];omega
          .skip
           have r:=AB (show decide (ints (pad (i+1) (mul (T.drop (i+1)) L.w (it (img (T.drop (i+1)) L.c) L.o (unit (T.drop (i+1)) m))))=ints (pad (i+1) (mul (T.drop (i+1)) (unit (T.drop (i+1)) m) L.w)))=false by
            rw[GV];exact ED F)
           have b8:=AB (show¬Ep L (T.drop (i+1)) from λh=>F ((d1.AA.1 h).2.2.2 m (by simp;omega)));clear F;obtain⟨s,b3⟩:∃s,s=u17:=⟨_,rfl⟩;rw[<-b3]at HX ⊢;clear b3;go_wp2_with fail;go_region_held3 (λw'=>(∀b o,b<wr.heap.size->w'.cell? ⟨b,o,none⟩=wr.cell? ⟨b,o,none⟩)/\Keep (λ_=>True) wr w')
            (first|exact Ap AL.drew|exact Ap (AR AL.drew ‹_›)|exact Ap (Keep.drewN (AR AL.drew ‹_›) _)|exact Ap (Keep.trans (AR AL.drew ‹_›) (AO ‹_›))|exact Ap (Keep.drewN (Keep.trans (AR AL.drew ‹_›) (AO ‹_›)) _))
            (first|(go_at_call_of 217 s;refine(b5.AA _ _ _ _ uW s (pad (i+1) L.w) (pad (i+1) (it (img (T.drop (i+1)) L.c) L.o (unit (T.drop (i+1)) m))) (R.AA.keep (by first|exact AL.drew|exact AR AL.drew ‹_›)) (b7.AA.keep (by first|exact AL.drew|exact AR AL.drew ‹_›)) (HX.AA.keep (by first|exact AL.drew|exact AR AL.drew ‹_›)) (by rw[BS,Ad V.AA.2.2.2.1];simp;omega) (by rw[BS,Ad (c3.AA L.o)];simp;omega) (by rw[BJ];exact V.AA.2.2.2.1) (by rw[BJ];exact c3.AA L.o)).mono ?_;rintro e wa ⟨va,rfl,X,U⟩;rw[BJ,BJ]at X)|(go_at_call_of 217 ug;refine(b5.AA _ _ _ _ ug uW (pad (i+1) (unit (T.drop (i+1)) m)) (pad (i+1) L.w) (R.AA.keep (by first|exact AL.drew|exact AR AL.drew ‹_›)) (e3.AA.keep (by first|exact AL.drew|exact AR AL.drew ‹_›)) (b7.AA.keep (by first|exact AL.drew|exact AR AL.drew ‹_›)) (by rw[BS,Ad c6.AA];simp;omega) (by rw[BS,Ad V.AA.2.2.2.1];simp;omega) (by rw[BJ];exact c6.AA) (by rw[BJ];exact V.AA.2.2.2.1)).mono ?_;rintro e wb ⟨vb,rfl,Z,O⟩;rw[BJ,BJ]at Z)|(go_at_call 212;refine(JV _ va vb _ _ (by first|exact X.sl.mono (λ_ _=>trivial)|exact(X.sl.mono (λ_ _=>trivial)).keep (AO O)) (by first|exact Z.sl.mono (λ_ _=>trivial)|exact(Z.sl.mono (λ_ _=>trivial)).keep (AO U))).mono ?_;rintro e w7 ⟨rfl,g,rfl⟩;rw[r.AA]))
           all_goals
            have Y:w.heap.size+2<=wr.heap.size:=W;have a:=AB (J.AA.trans ((AY.drew).trans (Cs (by first|exact(U.mono Y).trans (O.mono (Ae Y U.size))|exact(O.mono Y).trans (U.mono (Ae Y O.size))) g)));clear X U Z O;obtain⟨_,C,_,a0,b0⟩:=Fp a.AA;have f0:=Ar _ (w.heap.size+1) 0 _ _ (0,0) C;have u:=Ar _ (w.heap.size+1) 1 _ _ (0,0) C;have f2:=Ar _ (w.heap.size+1) 2 _ _ (0,0) C;have f3:=Ar _ (w.heap.size+1) 3 _ _ (0,0) C;have z0:=BP _ (w.heap.size+1) 0 _ _ C;have z1:=BP _ (w.heap.size+1) 1 _ _ C;have z2:=BP _ (w.heap.size+1) 2 _ _ C;have z3:=BP _ (w.heap.size+1) 3 _ _ C;have a9:=AB a0;clear C a0 b0;simp at f0 u f2 f3;go_wp2_with fail;exact Au (v:=.agg #[.int .i64 4,.int .i64 (i),.int .i64 ((i:Int)+1+(m:Int)),.int .i64 (0)]) (by simp[results,Tryz.results235,go_sem,f0,u,f2,f3]) rfl
             ⟨4,_,_,_,rfl,⟨λh=>absurd h (by decide),λh=>absurd h b8.AA⟩,(((a9.AA.setCell (by simp) _).setCell (by simp) _).setCell (by simp) _).setCell (by simp) _⟩
       .skip
        obtain rfl:m=T.length-(i+1):=by omega
        have i6:=AB (show Ep L (T.drop (i+1)) from d1.AA.2 ⟨H1.AA,H2.AA,H3.AA,λj hj=>hR.AA j (by simpa using hj)⟩);obtain⟨_,C,_,a0,b0⟩:=Fp J.AA;have f0:=Ar _ (w.heap.size+1) 0 _ _ (0,0) C;have u:=Ar _ (w.heap.size+1) 1 _ _ (0,0) C;have f2:=Ar _ (w.heap.size+1) 2 _ _ (0,0) C;have f3:=Ar _ (w.heap.size+1) 3 _ _ (0,0) C;have z0:=BP _ (w.heap.size+1) 0 _ _ C;have z1:=BP _ (w.heap.size+1) 1 _ _ C;have z2:=BP _ (w.heap.size+1) 2 _ _ C;have z3:=BP _ (w.heap.size+1) 3 _ _ C;have a9:=AB a0;clear C a0 b0;simp at f0 u f2 f3;go_wp2_with fail;exact Au (v:=.agg #[.int .i64 0,.int .i64 (0),.int .i64 (0),.int .i64 (0)]) (by simp[results,Tryz.results235,go_sem,f0,u,f2,f3]) rfl
         ⟨0,_,_,_,rfl,⟨λ_=>i6.AA,λ_=>rfl⟩,(((a9.AA.setCell (by simp) _).setCell (by simp) _).setCell (by simp) _).setCell (by simp) _⟩
     .skip
      have r:=AB (show decide (ints (pad (i+1) (img (T.drop (i+1)) L.c L.w))=ints (pad (i+1) L.w))=false by
       rw[GV];exact ED F)
      have b8:=AB (show¬Ep L (T.drop (i+1)) from λh=>F (d1.AA.1 h).2.2.1);clear F;go_wp2_with fail;refine(JV _ _ _ _ _ (a8.AA.sl.mono (λ_ _=>trivial)) f6.AA).mono ?_;rintro e w7 ⟨rfl,g,rfl⟩;rw[r.AA];have a:=AB (Cs a1.AA g);obtain⟨_,C,_,a0,b0⟩:=Fp a.AA;have f0:=Ar _ (w.heap.size+1) 0 _ _ (0,0) C;have u:=Ar _ (w.heap.size+1) 1 _ _ (0,0) C;have f2:=Ar _ (w.heap.size+1) 2 _ _ (0,0) C;have f3:=Ar _ (w.heap.size+1) 3 _ _ (0,0) C;have z0:=BP _ (w.heap.size+1) 0 _ _ C;have z1:=BP _ (w.heap.size+1) 1 _ _ C;have z2:=BP _ (w.heap.size+1) 2 _ _ C;have z3:=BP _ (w.heap.size+1) 3 _ _ C;have a9:=AB a0;clear C a0 b0;simp at f0 u f2 f3;go_wp2_with fail;exact Au (v:=.agg #[.int .i64 3,.int .i64 (i),.int .i64 (0),.int .i64 (0)]) (by simp[results,Tryz.results235,go_sem,f0,u,f2,f3]) rfl
       ⟨3,_,_,_,rfl,⟨λh=>absurd h (by decide),λh=>absurd h b8.AA⟩,(((a9.AA.setCell (by simp) _).setCell (by simp) _).setCell (by simp) _).setCell (by simp) _⟩
end SC
end Go.Proofs.YtgjadpmbnejaoaaGreat
