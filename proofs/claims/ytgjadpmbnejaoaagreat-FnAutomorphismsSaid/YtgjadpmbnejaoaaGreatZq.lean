import Derived.Test.YtgjadpmbnejaoaaGreatZp
/-
  Lemmas for the law FnAutomorphisms, in short spelling.
-/
set_option linter.unusedVariables false
set_option linter.unusedSimpArgs false
set_option maxRecDepth 100000
set_option maxHeartbeats 40000000
namespace Go.Proofs.YtgjadpmbnejaoaaGreat
namespace aK
open RowKit AJ Km EO Ob DW Oc QA OQ
def R9 (p:Prop)(w:World)(e:Ending)(w':World):Prop:=∃k l a b:Int,e= .returned (.agg #[.int .i64 k,.int .i64 l,.int .i64 a,.int .i64 b])/\((k=0/\l=0/\a=0/\b=0)↔p)/\Below w.heap.size w w'
theorem JG {w wr:World}{C:TypeId}{d:Array Value}(B:Below (w.heap.size+1) (w.alloc (.cells d C)) wr):
  wr.heap[w.heap.size]?=some (.cells d C)/\Keep (λ_=>True) w wr/\Below w.heap.size w wr/\w.heap.size+1<=wr.heap.size:=by
 have D:=B.size;simp at D;refine⟨?_,Cq B _,Cy B,by omega⟩;rw[B.block w.heap.size (by omega)];exact Aj w (.cells d C)
theorem Tx (T:Tw)(hT:Wf T)(hs:Small T)(i:Nat)(L:Lv)(hL:T[i]?=some L)(hg:AJ.Good (T.drop (i+1)))(w:World)(b o:Nat)(hP:BH Any w b o (AZ T)):
  Calls Tryz.prog 158 #[.pointer (some ⟨b,o,none⟩),.int .i64 (i:Int)] w (R9 (Ep L (T.drop (i+1))) w):=by
 have hi:i<T.length:=(Ak.1 hL).1;have g9:=hs.1;have Z:=AB (En hT hL);have HP:=AB hP;obtain⟨_,a,vO,vP,vC,h9,i7,j0,hV⟩:=hP;obtain⟨aO,cO,aP,cP,aC,cC,rfl,rfl,rfl,q1,p3,o7⟩:=hV.open;have hw:=DJ hT i;rw[EB hL]at hw;have d0:=AB (UK hw hg);obtain⟨bC,oC,a2,c2,rfl,_,e0,d4,p9,i4⟩:=hV.JM hL;obtain⟨bO,oO,rfl,_,i5,j5⟩:=hV.ord hL;obtain⟨bP,oP,uW,rfl,_,j1,g4,h5⟩:=hV.pow hL;have p7:L.c.length=T.length-(i+1):=Z.AA.2.1;have o6:L.o<=7:=hs.2 L (Af hL);have HV:=AB hV;have g:=AB (And.intro h9 (And.intro i7 j0));have HL:=AB hL;have e8:=AB (BA (DJ hT (i+1)) hg);have HT:=AB hT;have HS:=AB hs;have j3:=AB d4;have n5:=AB j5;have m8:=AB g4;have f4:=AB h5;have f7:=AB i4;have j2:=AB (λW va x K (hK:K<=1000) hP ha hx=>NV T hT hs (i+1) (by omega) hg W b o va x K hK hP ha hx);have c1:=AB (λW vx x hP hx m5 m7=>iB T hT hs i L hL hg W b o vx x hP hx m5 m7);have e9:=AB (λW va vc x y hP ha hn V k0 hx hy=>TJ T hT hs (i+1) (by omega) hg W b o va vc x y hP ha hn V k0 hx hy);clear hV hL hg hT hs hw d4 i4 j5 g4 h5;go_enter Tryz.func158,Tryz.ntmps158;go_wp2_with fail;clear h9 i7 j0;go_loopw [7] (λj wr=>∃m:Nat,m<=T.length-(i+1)/\j= .int .i64 ((i:Int)+1+(m:Int))/\Hid (∀t,t<m->C1 L (T.drop (i+1)) t)/\Below (w.heap.size+1) (w.alloc (.cells #[.int .i64 0,.int .i64 0,.int .i64 0,.int .i64 0] 166)) wr) (λj _=>T.length-(intOf j).toNat);case atStart=>exact⟨0,AX _,by go_num,AB (λt h=>absurd h (CS _)),BB _ _⟩
 case round=>
  obtain⟨m,hm,rfl,hR,V⟩:=hrel;have I:=AB V;clear V;by_cases d7:m<T.length-(i+1)
  .skip
   obtain⟨u,B,r,U⟩:=JG I.AA;have d8:=AB B;have HF:=AB u;have d6:=AB r;have b5:w.heap.size<wr.heap.size:=by omega
   have R:=AB (HP.AA.keep B);have p0:wr.cell? ⟨b,o,none⟩=some (.slice (some ⟨bO,oO,none⟩) T.length cO):=by rw[B.cell trivial a];exact g.AA.1
   have p1:wr.cell? ⟨b,o+1,none⟩=some (.slice (some ⟨bP,oP,none⟩) T.length cP):=by rw[B.cell trivial a];exact g.AA.2.1
   have p2:wr.cell? ⟨b,o+2,none⟩=some (.slice (some ⟨bC,oC,none⟩) T.length cC):=by rw[B.cell trivial a];exact g.AA.2.2
   have a9:b<wr.heap.size:=by omega
   clear u r;obtain⟨y,hy⟩:∃y,L.c[m]?=some y:=⟨_,AU (by omega)⟩;obtain⟨b2,o2,uy,rfl,_,d3,b4,c7⟩:=f7.AA m y hy;obtain⟨D,a0⟩:∃D,T[i+1+m]?=some D:=⟨_,AU (by omega)⟩;obtain⟨l7,n2,eO,_,_,b7⟩:=HV.AA.ord a0;obtain⟨rfl,rfl⟩:bO=l7/\oO=n2:=by simpa using eO
   obtain⟨l4,j9,uP,eP,_,_,f6,i1⟩:=HV.AA.pow a0;obtain⟨rfl,rfl⟩:bP=l4/\oP=j9:=by simpa using eP
   have p6:D.o<=7:=HS.AA.2 D (Af a0);have m1:=AB b7;have n0:=AB f6;have g0:=AB b4;have k6:=AB i1;have d5:=AB c7;have d1:=AB (Z.AA.2.2.1 y (Af hy));have i3:=AB (show El (T.drop (i+1)) (pad (m+1) D.w) from MV Z.AA.1 (m+1) (by rw[EK,show i+1+(m+1)=i+1+m+1 by omega];exact(En HT.AA a0).2.2.2.1) (by simp;omega));have b9:=AB (show(pad (i+1+m+1) D.w).length=T.length/\El (T.drop (i+1)) ((pad (i+1+m+1) D.w).drop (i+1))/\(pad (i+1+m+1) D.w).drop (i+1)=pad (m+1) D.w from by
    have e:pad (i+1+m+1) D.w=pad (i+1) (pad (m+1) D.w):=by rw[LU];congr 1
    rw[e,BJ];exact⟨by rw[BS,Ad i3.AA];simp;omega,i3.AA,rfl⟩)
   have j4:=AB (show C1 L (T.drop (i+1)) m↔npow (mul (T.drop (i+1))) (AJ.one (T.drop (i+1))) y D.o=img (T.drop (i+1)) L.c (pad (m+1) D.w) from by
    unfold C1;rw[BG,hy,BG,Fa,a0];rfl)
   clear eO eP b7 f6 b4 i1 c7 a0 hy;have d4:wr.cell? ⟨bC,oC+i,none⟩=some (.slice (some ⟨b2,o2,none⟩) L.c.length c2):=by rw[B.cell trivial e0];exact j3.AA
   have m0:bC<wr.heap.size:=by omega
   have b4:wr.cell? ⟨b2,o2+m,none⟩=some (uy):=by rw[B.cell trivial d3];exact g0.AA
   have l9:b2<wr.heap.size:=by omega
   have b7:wr.cell? ⟨bO,oO+(i+1+m),none⟩=some (.int .i64 (D.o:Int)):=by rw[B.cell trivial i5];exact m1.AA
   have e6:bO<wr.heap.size:=by omega
   have f6:wr.cell? ⟨bP,oP+(i+1+m),none⟩=some (uP):=by rw[B.cell trivial j1];exact n0.AA
   have i9:bP<wr.heap.size:=by omega
   have w3:IntKind.i64.wrap ((i:Int)+1)=(i:Int)+1:=Ac _ (by omega);have w6:(i:Int)<(T.length:Int):=by omega
   have w7:(0:Int)<=(i:Int):=by omega
   have w1:IntKind.i64.wrap (((i:Int)+1+(m:Int))-(i:Int))=(m:Int)+1:=by rw[Ac _ (by omega)];omega
   have w2:IntKind.i64.wrap (((m:Int)+1)-1)=(m:Int):=by rw[Ac _ (by omega)];omega
   have w8:IntKind.i64.wrap (m:Int)=(m:Int):=Ac _ (by omega);have w4:(m:Int)<(L.c.length:Int):=by omega
   have w5:(0:Int)<=(m:Int):=by omega
   have w9:(i:Int)+1+(m:Int)<(T.length:Int):=by omega
   have m4:(0:Int)<=(i:Int)+1+(m:Int):=by omega
   have n9:((i:Int)+1+(m:Int)).toNat=i+1+m:=by omega
   have c3:=AB (d5.AA.keep B);have h3:=AB (k6.AA.keep B);clear B;by_cases F:C1 L (T.drop (i+1)) m
   .skip
    have a1:=AB (show decide (ints (pad (i+1) (npow (mul (T.drop (i+1))) (AJ.one (T.drop (i+1))) y D.o))=ints (pad (i+1) (img (T.drop (i+1)) L.c (pad (m+1) D.w))))=true by
     rw[GV];exact ET (j4.AA.1 F))
    have c4:=AB F;clear F;go_wp2_with fail;go_region_held3 (λw'=>(∀b o,b<wr.heap.size->w'.cell? ⟨b,o,none⟩=wr.cell? ⟨b,o,none⟩)/\Keep (λ_=>True) wr w')
     (first|exact Ap AL.drew|exact Ap (AR AL.drew ‹_›)|exact Ap (Keep.drewN (AR AL.drew ‹_›) _)|exact Ap (Keep.trans (AR AL.drew ‹_›) (AO ‹_›))|exact Ap (Keep.drewN (Keep.trans (AR AL.drew ‹_›) (AO ‹_›)) _))
     (first|(go_at_call 172;refine(j2.AA _ _ y D.o (by omega) (R.AA.keep (by first|exact AL.drew|exact AR AL.drew ‹_›)) (c3.AA.keep (by first|exact AL.drew|exact AR AL.drew ‹_›)) d1.AA).mono ?_;rintro e wa ⟨ga,ca,rfl,Y,N⟩)|(go_at_call 211;refine(c1.AA _ _ (pad (i+1+m+1) D.w) (R.AA.keep (by first|exact AL.drew|exact AR AL.drew ‹_›)) (h3.AA.keep (by first|exact AL.drew|exact AR AL.drew ‹_›)) b9.AA.1 b9.AA.2.1).mono ?_;rintro e wb ⟨gb,cb,rfl,Q,J⟩;rw[b9.AA.2.2]at Q ⊢)|(go_at_call 79;refine(LC _ _ _ _ _ (by first|exact Y.sl.mono (λ_ _=>trivial)|exact(Y.sl.mono (λ_ _=>trivial)).keep (AO J)) (by first|exact Q.sl.mono (λ_ _=>trivial)|exact(Q.sl.mono (λ_ _=>trivial)).keep (AO N))).mono ?_;rintro e w7 ⟨rfl,n7,rfl⟩;rw[a1.AA]))
    all_goals
     have O:w.heap.size+1<=wr.heap.size:=U;have X:=AB (I.AA.trans ((AY.drew).trans (Cs (by first|exact(N.mono O).trans (J.mono (Ae O N.size))|exact(J.mono O).trans (N.mono (Ae O J.size))) n7)));clear Y N Q J;go_wp2_with fail;go_roundw;case rel=>exact⟨m+1,by omega,by go_num,AB (λt ht=>by
      rcases DF.1 ht with h|h
      .exact hR.AA t h
      .subst h;exact c4.AA),X.AA⟩
     case measure=>simp[intOf];omega
   .skip
    have a1:=AB (show decide (ints (pad (i+1) (npow (mul (T.drop (i+1))) (AJ.one (T.drop (i+1))) y D.o))=ints (pad (i+1) (img (T.drop (i+1)) L.c (pad (m+1) D.w))))=false by
     rw[GV];exact ED (λh=>F (j4.AA.2 h)))
    have b6:=AB (show¬Ep L (T.drop (i+1)) from λh=>F ((d0.AA.1 h).1 m (by simp;omega)));clear F;go_wp2_with fail;go_region_held3 (λw'=>(∀b o,b<wr.heap.size->w'.cell? ⟨b,o,none⟩=wr.cell? ⟨b,o,none⟩)/\Keep (λ_=>True) wr w')
     (first|exact Ap AL.drew|exact Ap (AR AL.drew ‹_›)|exact Ap (Keep.drewN (AR AL.drew ‹_›) _)|exact Ap (Keep.trans (AR AL.drew ‹_›) (AO ‹_›))|exact Ap (Keep.drewN (Keep.trans (AR AL.drew ‹_›) (AO ‹_›)) _))
     (first|(go_at_call 172;refine(j2.AA _ _ y D.o (by omega) (R.AA.keep (by first|exact AL.drew|exact AR AL.drew ‹_›)) (c3.AA.keep (by first|exact AL.drew|exact AR AL.drew ‹_›)) d1.AA).mono ?_;rintro e wa ⟨ga,ca,rfl,Y,N⟩)|(go_at_call 211;refine(c1.AA _ _ (pad (i+1+m+1) D.w) (R.AA.keep (by first|exact AL.drew|exact AR AL.drew ‹_›)) (h3.AA.keep (by first|exact AL.drew|exact AR AL.drew ‹_›)) b9.AA.1 b9.AA.2.1).mono ?_;rintro e wb ⟨gb,cb,rfl,Q,J⟩;rw[b9.AA.2.2]at Q ⊢)|(go_at_call 79;refine(LC _ _ _ _ _ (by first|exact Y.sl.mono (λ_ _=>trivial)|exact(Y.sl.mono (λ_ _=>trivial)).keep (AO J)) (by first|exact Q.sl.mono (λ_ _=>trivial)|exact(Q.sl.mono (λ_ _=>trivial)).keep (AO N))).mono ?_;rintro e w7 ⟨rfl,n7,rfl⟩;rw[a1.AA]))
    all_goals
     have O:w.heap.size+1<=wr.heap.size:=U;have X:=AB (I.AA.trans ((AY.drew).trans (Cs (by first|exact(N.mono O).trans (J.mono (Ae O N.size))|exact(J.mono O).trans (N.mono (Ae O J.size))) n7)));clear Y N Q J;obtain⟨a3,_,_,_⟩:=JG I.AA;have r0:=Ar _ w.heap.size 0 _ _ (0,0) a3;have r1:=Ar _ w.heap.size 1 _ _ (0,0) a3;have r2:=Ar _ w.heap.size 2 _ _ (0,0) a3;have r3:=Ar _ w.heap.size 3 _ _ (0,0) a3;clear a3;simp at r0 r1 r2 r3;obtain⟨C,_,s,a8⟩:=JG X.AA;have f0:=Ar _ w.heap.size 0 _ _ (0,0) C;have p:=Ar _ w.heap.size 1 _ _ (0,0) C;have f2:=Ar _ w.heap.size 2 _ _ (0,0) C;have f3:=Ar _ w.heap.size 3 _ _ (0,0) C;have z0:=BP _ w.heap.size 0 _ _ C;have z1:=BP _ w.heap.size 1 _ _ C;have z2:=BP _ w.heap.size 2 _ _ C;have z3:=BP _ w.heap.size 3 _ _ C;have a7:=AB s;clear C s a8;simp at f0 p f2 f3;go_wp2_with fail;exact Au (v:=.agg #[.int .i64 1,.int .i64 (i),.int .i64 ((i:Int)+1+(m:Int)),.int .i64 (0)]) (by simp[results,Tryz.results158,go_sem,f0,p,f2,f3]) rfl
      ⟨1,_,_,_,rfl,⟨λh=>absurd h.1 (by decide),λh=>absurd h b6.AA⟩,(((a7.AA.setCell (by simp) _).setCell (by simp) _).setCell (by simp) _).setCell (by simp) _⟩
  .skip
   obtain rfl:m=T.length-(i+1):=by omega
   have H1:=AB (show∀j<(T.drop (i+1)).length,C1 L (T.drop (i+1)) j from λj hj=>hR.AA j (by simpa using hj));clear hR d7 hm;go_wp2_with fail;go_loopw [8] (λj wr=>∃m:Nat,m<=T.length-(i+1)/\j= .int .i64 ((i:Int)+1+(m:Int))/\Hid (∀t,t<m->∀k,t<k->k<T.length-(i+1)->C2 L (T.drop (i+1)) t k)/\Below (w.heap.size+1) (w.alloc (.cells #[.int .i64 0,.int .i64 0,.int .i64 0,.int .i64 0] 166)) wr) (λj _=>T.length-(intOf j).toNat);case atStart=>exact⟨0,AX _,by go_num,AB (λt h=>absurd h (CS _)),I.AA⟩
   case round=>
    clear I;obtain⟨m,hm,rfl,hR,V⟩:=hrel;have I:=AB V;clear V;by_cases d7:m<T.length-(i+1)
    .skip
     have hd:decide ((i:Int)+1+(m:Int)<(T.length:Int))=true:=by simp;omega
     obtain⟨x,hx⟩:∃x,L.c[m]?=some x:=⟨_,AU (by omega)⟩;obtain⟨b2,o2,ux,rfl,_,d3,e4,g3⟩:=f7.AA m x hx;obtain⟨D,a0⟩:∃D,T[i+1+m]?=some D:=⟨_,AU (by omega)⟩;obtain⟨j7,l3,aJ,cJ,eC,_,_,f5,o4,h8⟩:=HV.AA.JM a0;obtain⟨rfl,rfl⟩:bC=j7/\oC=l3:=by simpa using eC
     have m3:=AB e4;have i6:=AB g3;have l6:=AB f5;have l1:=AB h8;have HX:=AB hx;have j6:=AB a0;have d2:=AB (Z.AA.2.2.1 x (Af hx));have k8:=AB (En HT.AA a0).2.1;clear hx e4 g3 eC f5 h8 a0;go_wp2_with fail;go_loopw [9] (λkv wr=>∃q:Nat,m+1<=q/\q<=T.length-(i+1)/\kv= .int .i64 ((i:Int)+1+(q:Int))/\Hid (∀k,m<k->k<q->C2 L (T.drop (i+1)) m k)/\Below (w.heap.size+1) (w.alloc (.cells #[.int .i64 0,.int .i64 0,.int .i64 0,.int .i64 0] 166)) wr) (λkv _=>T.length-(intOf kv).toNat);case atStart=>exact⟨m+1,Al _,by omega,by go_num,AB (λk h1 h2=>absurd h2 (by omega)),I.AA⟩
     case round=>
      clear I;obtain⟨q,l5,hq,rfl,hQ,V⟩:=hrel;have I:=AB V;clear V;by_cases o0:q<T.length-(i+1)
      .skip
       obtain⟨u,B,r,U⟩:=JG I.AA;have d8:=AB B;have HF:=AB u;have d6:=AB r;have b5:w.heap.size<wr.heap.size:=by omega
       have R:=AB (HP.AA.keep B);have p0:wr.cell? ⟨b,o,none⟩=some (.slice (some ⟨bO,oO,none⟩) T.length cO):=by rw[B.cell trivial a];exact g.AA.1
       have p1:wr.cell? ⟨b,o+1,none⟩=some (.slice (some ⟨bP,oP,none⟩) T.length cP):=by rw[B.cell trivial a];exact g.AA.2.1
       have p2:wr.cell? ⟨b,o+2,none⟩=some (.slice (some ⟨bC,oC,none⟩) T.length cC):=by rw[B.cell trivial a];exact g.AA.2.2
       have a9:b<wr.heap.size:=by omega
       clear u r;obtain⟨y,hy⟩:∃y,L.c[q]?=some y:=⟨_,AU (by omega)⟩;obtain⟨k4,n4,uy,g2,_,_,b4,c7⟩:=f7.AA q y hy;obtain⟨rfl,rfl⟩:b2=k4/\o2=n4:=by simpa using g2
       obtain⟨d,m6⟩:∃d,q=m+1+d:=⟨q-(m+1),by omega⟩;have k7:d<D.c.length:=by rw[k8.AA];omega
       obtain⟨z,hz⟩:∃z,D.c[d]?=some z:=⟨_,AU k7⟩;obtain⟨bJ,oJ,uz,rfl,_,n8,e2,g1⟩:=l1.AA d z hz;have g0:=AB b4;have d5:=AB c7;have m2:=AB e2;have m9:=AB g1;have d1:=AB (Z.AA.2.2.1 y (Af hy));have i0:=AB (show El (T.drop (i+1)) (pad (m+1) z) from MV Z.AA.1 (m+1) (by rw[EK,show i+1+(m+1)=i+1+m+1 by omega];exact(En HT.AA j6.AA).2.2.1 z (Af hz)) (by simp;omega));have b8:=AB (show(pad (i+1+m+1) z).length=T.length/\El (T.drop (i+1)) ((pad (i+1+m+1) z).drop (i+1))/\(pad (i+1+m+1) z).drop (i+1)=pad (m+1) z from by
        have e:pad (i+1+m+1) z=pad (i+1) (pad (m+1) z):=by rw[LU];congr 1
        rw[e,BJ];exact⟨by rw[BS,Ad i0.AA];simp;omega,i0.AA,rfl⟩)
       have h4:=AB (show C2 L (T.drop (i+1)) m q↔mul (T.drop (i+1)) y x=mul (T.drop (i+1)) x (img (T.drop (i+1)) L.c (pad (m+1) z)) from by
        unfold C2;rw[BG,hy,BG,HX.AA,BG (l:=T.drop (i+1)),Fa,j6.AA,BG,show q-m-1=d by omega];simp only[OM];rw[hz];rfl)
       clear g2 b4 c7 e2 g1 hy hz;have d4:wr.cell? ⟨bC,oC+i,none⟩=some (.slice (some ⟨b2,o2,none⟩) L.c.length c2):=by rw[B.cell trivial e0];exact j3.AA
       have m0:bC<wr.heap.size:=by omega
       have e4:wr.cell? ⟨b2,o2+m,none⟩=some (ux):=by rw[B.cell trivial d3];exact m3.AA
       have l9:b2<wr.heap.size:=by omega
       have b4:wr.cell? ⟨b2,o2+q,none⟩=some uy:=by rw[B.cell trivial d3];exact g0.AA
       have f5:wr.cell? ⟨bC,oC+(i+1+m),none⟩=some (.slice (some ⟨bJ,oJ,none⟩) D.c.length cJ):=by rw[B.cell trivial e0];exact l6.AA
       have e2:wr.cell? ⟨bJ,oJ+d,none⟩=some (uz):=by rw[B.cell trivial n8];exact m2.AA
       have p5:bJ<wr.heap.size:=by omega
       have w3:IntKind.i64.wrap ((i:Int)+1)=(i:Int)+1:=Ac _ (by omega);have w6:(i:Int)<(T.length:Int):=by omega
       have w7:(0:Int)<=(i:Int):=by omega
       have w1:IntKind.i64.wrap (((i:Int)+1+(m:Int))-(i:Int))=(m:Int)+1:=by rw[Ac _ (by omega)];omega
       have w2:IntKind.i64.wrap (((m:Int)+1)-1)=(m:Int):=by rw[Ac _ (by omega)];omega
       have w8:IntKind.i64.wrap (m:Int)=(m:Int):=Ac _ (by omega);have w4:(m:Int)<(L.c.length:Int):=by omega
       have w5:(0:Int)<=(m:Int):=by omega
       have w9:(i:Int)+1+(m:Int)<(T.length:Int):=by omega
       have m4:(0:Int)<=(i:Int)+1+(m:Int):=by omega
       have n9:((i:Int)+1+(m:Int)).toNat=i+1+m:=by omega
       have q2:IntKind.i64.wrap (((i:Int)+1+(q:Int))-(i:Int))=(q:Int)+1:=by rw[Ac _ (by omega)];omega
       have o8:IntKind.i64.wrap (((q:Int)+1)-1)=(q:Int):=by rw[Ac _ (by omega)];omega
       have o5:IntKind.i64.wrap (q:Int)=(q:Int):=Ac _ (by omega);have q4:(q:Int)<(L.c.length:Int):=by omega
       have o3:(0:Int)<=(q:Int):=by omega
       have o9:(i:Int)+1+(q:Int)<(T.length:Int):=by omega
       have p4:(0:Int)<=(i:Int)+1+(q:Int):=by omega
       have q0:((i:Int)+1+(q:Int)).toNat=i+1+q:=by omega
       have wA:IntKind.i64.wrap (((i:Int)+1+(q:Int))-((i:Int)+1+(m:Int)))=(d:Int)+1:=by rw[Ac _ (by omega)];omega
       have wB:IntKind.i64.wrap (((d:Int)+1)-1)=(d:Int):=by rw[Ac _ (by omega)];omega
       have wD:IntKind.i64.wrap (d:Int)=(d:Int):=Ac _ (by omega);have wE:(d:Int)<(D.c.length:Int):=by omega
       have wF:(0:Int)<=(d:Int):=by omega
       have i8:=AB (i6.AA.keep B);have c3:=AB (d5.AA.keep B);have i2:=AB (m9.AA.keep B);have d9:=AB (show NN ux/\NN uy from⟨Je i6.AA (by rw[BS];omega),Je d5.AA (by rw[BS];omega)⟩);have h7:=AB (show El (T.drop (i+1)) (img (T.drop (i+1)) L.c (pad (m+1) z)) from KZ Z.AA.1 Z.AA.2.2.1 _);clear B m6;by_cases F:C2 L (T.drop (i+1)) m q
       .skip
        have a1:=AB (show decide (mul (T.drop (i+1)) y x=mul (T.drop (i+1)) x (img (T.drop (i+1)) L.c (pad (m+1) z)))=true from ET (h4.AA.1 F));have c4:=AB F;clear F;go_wp2_with fail;go_region_held3 (λw'=>(∀b o,b<wr.heap.size->w'.cell? ⟨b,o,none⟩=wr.cell? ⟨b,o,none⟩)/\Keep (λ_=>True) wr w')
         (first|exact Ap AL.drew|exact Ap (AR AL.drew ‹_›)|exact Ap (Keep.drewN (AR AL.drew ‹_›) _)|exact Ap (Keep.trans (AR AL.drew ‹_›) (AO ‹_›))|exact Ap (Keep.drewN (Keep.trans (AR AL.drew ‹_›) (AO ‹_›)) _))
         (first|(go_at_call 86;refine(e9.AA _ _ _ y x (R.AA.keep (by first|exact AL.drew|exact AR AL.drew ‹_›)) (c3.AA.keep (by first|exact AL.drew|exact AR AL.drew ‹_›)) d9.AA.2 (i8.AA.keep (by first|exact AL.drew|exact AR AL.drew ‹_›)) d9.AA.1 d1.AA d2.AA).mono ?_;rintro e wa ⟨zc,⟨a5,a4⟩,ga,ca,rfl,Y,N⟩;replace a5:=AB a5;replace a4:=AB a4)|(go_at_call 211;refine(c1.AA _ _ (pad (i+1+m+1) z) (R.AA.keep (by first|exact AL.drew|exact AR AL.drew ‹_›)) (i2.AA.keep (by first|exact AL.drew|exact AR AL.drew ‹_›)) b8.AA.1 b8.AA.2.1).mono ?_;rintro e wb ⟨gb,cb,rfl,Q,J⟩;rw[b8.AA.2.2]at Q ⊢)|(go_at_call 79;refine(LC _ _ _ _ _ (by first|exact Y.sl.mono (λ_ _=>trivial)|exact(Y.sl.mono (λ_ _=>trivial)).keep (AO J)) (by first|exact Q.sl.mono (λ_ _=>trivial)|exact(Q.sl.mono (λ_ _=>trivial)).keep (AO N))).mono ?_;rintro e w7 ⟨rfl,n7,rfl⟩;rw[Xn e8.AA (i+1) d2.AA a5.AA h7.AA a4.AA,a1.AA]))
        all_goals
         have O:w.heap.size+1<=wr.heap.size:=U;have X:=AB (I.AA.trans ((AY.drew).trans (Cs (by first|exact(N.mono O).trans (J.mono (Ae O N.size))|exact(J.mono O).trans (N.mono (Ae O J.size))) n7)));clear Y N Q J;go_wp2_with fail;go_roundw;case rel=>exact⟨q+1,by omega,by omega,by go_num,AB (λt h1 ht=>by
          rcases DF.1 ht with h|h
          .exact hQ.AA t h1 h
          .subst h;exact c4.AA),X.AA⟩
         case measure=>simp[intOf];omega
       .skip
        have a1:=AB (show decide (mul (T.drop (i+1)) y x=mul (T.drop (i+1)) x (img (T.drop (i+1)) L.c (pad (m+1) z)))=false from ED (λh=>F (h4.AA.2 h)));have b6:=AB (show¬Ep L (T.drop (i+1)) from λh=>F ((d0.AA.1 h).2.1 m (by simp;omega) q (by omega) (by simp;omega)));clear F;go_wp2_with fail;go_region_held3 (λw'=>(∀b o,b<wr.heap.size->w'.cell? ⟨b,o,none⟩=wr.cell? ⟨b,o,none⟩)/\Keep (λ_=>True) wr w')
         (first|exact Ap AL.drew|exact Ap (AR AL.drew ‹_›)|exact Ap (Keep.drewN (AR AL.drew ‹_›) _)|exact Ap (Keep.trans (AR AL.drew ‹_›) (AO ‹_›))|exact Ap (Keep.drewN (Keep.trans (AR AL.drew ‹_›) (AO ‹_›)) _))
         (first|(go_at_call 86;refine(e9.AA _ _ _ y x (R.AA.keep (by first|exact AL.drew|exact AR AL.drew ‹_›)) (c3.AA.keep (by first|exact AL.drew|exact AR AL.drew ‹_›)) d9.AA.2 (i8.AA.keep (by first|exact AL.drew|exact AR AL.drew ‹_›)) d9.AA.1 d1.AA d2.AA).mono ?_;rintro e wa ⟨zc,⟨a5,a4⟩,ga,ca,rfl,Y,N⟩;replace a5:=AB a5;replace a4:=AB a4)|(go_at_call 211;refine(c1.AA _ _ (pad (i+1+m+1) z) (R.AA.keep (by first|exact AL.drew|exact AR AL.drew ‹_›)) (i2.AA.keep (by first|exact AL.drew|exact AR AL.drew ‹_›)) b8.AA.1 b8.AA.2.1).mono ?_;rintro e wb ⟨gb,cb,rfl,Q,J⟩;rw[b8.AA.2.2]at Q ⊢)|(go_at_call 79;refine(LC _ _ _ _ _ (by first|exact Y.sl.mono (λ_ _=>trivial)|exact(Y.sl.mono (λ_ _=>trivial)).keep (AO J)) (by first|exact Q.sl.mono (λ_ _=>trivial)|exact(Q.sl.mono (λ_ _=>trivial)).keep (AO N))).mono ?_;rintro e w7 ⟨rfl,n7,rfl⟩;rw[Xn e8.AA (i+1) d2.AA a5.AA h7.AA a4.AA,a1.AA]))
        all_goals
         have O:w.heap.size+1<=wr.heap.size:=U;have X:=AB (I.AA.trans ((AY.drew).trans (Cs (by first|exact(N.mono O).trans (J.mono (Ae O N.size))|exact(J.mono O).trans (N.mono (Ae O J.size))) n7)));clear Y N Q J;obtain⟨a3,_,_,_⟩:=JG I.AA;have r0:=Ar _ w.heap.size 0 _ _ (0,0) a3;have r1:=Ar _ w.heap.size 1 _ _ (0,0) a3;have r2:=Ar _ w.heap.size 2 _ _ (0,0) a3;have r3:=Ar _ w.heap.size 3 _ _ (0,0) a3;clear a3;simp at r0 r1 r2 r3;obtain⟨C,_,s,a8⟩:=JG X.AA;have f0:=Ar _ w.heap.size 0 _ _ (0,0) C;have p:=Ar _ w.heap.size 1 _ _ (0,0) C;have f2:=Ar _ w.heap.size 2 _ _ (0,0) C;have f3:=Ar _ w.heap.size 3 _ _ (0,0) C;have z0:=BP _ w.heap.size 0 _ _ C;have z1:=BP _ w.heap.size 1 _ _ C;have z2:=BP _ w.heap.size 2 _ _ C;have z3:=BP _ w.heap.size 3 _ _ C;have a7:=AB s;clear C s a8;simp at f0 p f2 f3;go_wp2_with fail;exact Au (v:=.agg #[.int .i64 2,.int .i64 (i),.int .i64 ((i:Int)+1+(m:Int)),.int .i64 ((i:Int)+1+(q:Int))]) (by simp[results,Tryz.results158,go_sem,f0,p,f2,f3]) rfl
          ⟨2,_,_,_,rfl,⟨λh=>absurd h.1 (by decide),λh=>absurd h b6.AA⟩,(((a7.AA.setCell (by simp) _).setCell (by simp) _).setCell (by simp) _).setCell (by simp) _⟩
      .skip
       obtain rfl:q=T.length-(i+1):=by omega
       clear o0 hq l5;go_wp2_with fail;go_roundw;case rel=>exact⟨m+1,by omega,by go_num,AB (λt ht=>by
        rcases DF.1 ht with h|h
        .exact hR.AA t h
        .subst h;exact hQ.AA),I.AA⟩
       case measure=>simp[intOf];omega
    .skip
     obtain rfl:m=T.length-(i+1):=by omega
     have H2:=AB (show∀j<(T.drop (i+1)).length,∀k,j<k->k<(T.drop (i+1)).length->C2 L (T.drop (i+1)) j k from λj hj k h1 h2=>hR.AA j (by simpa using hj) k h1 (by simpa using h2));clear hR d7 hm;obtain⟨u,B,r,U⟩:=JG I.AA;have d8:=AB B;have HF:=AB u;have d6:=AB r;have b5:w.heap.size<wr.heap.size:=by omega
     have R:=AB (HP.AA.keep B);have p0:wr.cell? ⟨b,o,none⟩=some (.slice (some ⟨bO,oO,none⟩) T.length cO):=by rw[B.cell trivial a];exact g.AA.1
     have p1:wr.cell? ⟨b,o+1,none⟩=some (.slice (some ⟨bP,oP,none⟩) T.length cP):=by rw[B.cell trivial a];exact g.AA.2.1
     have p2:wr.cell? ⟨b,o+2,none⟩=some (.slice (some ⟨bC,oC,none⟩) T.length cC):=by rw[B.cell trivial a];exact g.AA.2.2
     have a9:b<wr.heap.size:=by omega
     clear u r;have l8:wr.cell? ⟨bP,oP+i,none⟩=some (uW):=by rw[B.cell trivial j1];exact m8.AA
     have i9:bP<wr.heap.size:=by omega
     have c9:=AB (f4.AA.keep B);clear B;go_wp2_with fail;refine(c1.AA _ _ (pad (i+1) L.w) R.AA c9.AA (by rw[BS,Ad Z.AA.2.2.2.1];simp;omega) (by rw[BJ];exact Z.AA.2.2.2.1)).mono ?_;rintro e w5 ⟨g5,c5,rfl,b1,b0⟩;rw[BJ]at b1 ⊢;have e5:=AB b1;have f9:=AB (c9.AA.keep (AO b0));have c0:=AB (I.AA.trans (b0.mono U));clear b1 b0 p0 p1 p2 a9 b5 U l8 i9;by_cases F:C3 L (T.drop (i+1))
     .skip
      have a1:=AB (show decide (ints (pad (i+1) (img (T.drop (i+1)) L.c L.w))=ints (pad (i+1) (L.w)))=true by
       rw[GV];exact ET F)
      have H3:=AB F;clear F;go_wp2_with fail;refine(LC _ _ _ _ _ (e5.AA.sl.mono (λ_ _=>trivial)) f9.AA).mono ?_;rintro e w7 ⟨rfl,n7,rfl⟩;rw[a1.AA];have X:=AB (Cs c0.AA n7);go_wp2_with fail;go_loopw [11] (λj wr=>∃m:Nat,m<=T.length-(i+1)/\j= .int .i64 ((i:Int)+1+(m:Int))/\Hid (∀t,t<m->C4 L (T.drop (i+1)) t)/\Below (w.heap.size+1) (w.alloc (.cells #[.int .i64 0,.int .i64 0,.int .i64 0,.int .i64 0] 166)) wr) (λj _=>T.length-(intOf j).toNat);case atStart=>exact⟨0,AX _,by go_num,AB (λt h=>absurd h (CS _)),X.AA⟩
      case round=>
       clear I c0 X e5 c9 f9 R;obtain⟨m,hm,rfl,hR,V⟩:=hrel;have I:=AB V;clear V;by_cases d7:m<T.length-(i+1)
       .skip
        obtain⟨u,B,r,U⟩:=JG I.AA;have d8:=AB B;have HF:=AB u;have d6:=AB r;have b5:w.heap.size<wr.heap.size:=by omega
        have R:=AB (HP.AA.keep B);have p0:wr.cell? ⟨b,o,none⟩=some (.slice (some ⟨bO,oO,none⟩) T.length cO):=by rw[B.cell trivial a];exact g.AA.1
        have p1:wr.cell? ⟨b,o+1,none⟩=some (.slice (some ⟨bP,oP,none⟩) T.length cP):=by rw[B.cell trivial a];exact g.AA.2.1
        have p2:wr.cell? ⟨b,o+2,none⟩=some (.slice (some ⟨bC,oC,none⟩) T.length cC):=by rw[B.cell trivial a];exact g.AA.2.2
        have a9:b<wr.heap.size:=by omega
        clear u r;have b7:wr.cell? ⟨bO,oO+i,none⟩=some (.int .i64 (L.o:Int)):=by rw[B.cell trivial i5];exact n5.AA
        have e6:bO<wr.heap.size:=by omega
        have hd:decide ((i:Int)+1+(m:Int)<(T.length:Int))=true:=by simp;omega
        have HU:=AB (show(List.replicate T.length 0).set (i+1+m) 1=pad (i+1) (unit (T.drop (i+1)) m) from(Qv T (i+1) m (by omega)).symm);have h0:=AB (show El (T.drop (i+1)) (unit (T.drop (i+1)) m) from Ip Z.AA.1 m);have e1:=AB (show∀k,El (T.drop (i+1)) (it (img (T.drop (i+1)) L.c) k (unit (T.drop (i+1)) m)) from λk=>GH (El _) _ (λz _=>KZ Z.AA.1 Z.AA.2.2.1 z) k _ h0.AA);clear B;go_wp2_with fail;refine(TI T.length (i+1+m) g9 (by omega) _).mono ?_;rintro e w5 ⟨g5,c5,rfl,b1,b0⟩;rw[HU.AA]at b1 ⊢;have g7:=AB (b1.sl.mono (S':=λ_=>True) (λ_ _=>trivial));have c0:=AB (I.AA.trans (b0.mono U));have p8:w5.cell? ⟨bO,oO+i,none⟩=some (.int .i64 (L.o:Int)):=by rw[(AO (S:=Any) b0).cell trivial e6];exact b7
        have q3:w5.cell? ⟨b,o,none⟩=some (.slice (some ⟨bO,oO,none⟩) T.length cO):=by rw[(AO (S:=Any) b0).cell trivial a9];exact p0
        clear b1 b0 p0 p1 p2 a9 b5 U b7 e6;go_wp2_with fail;go_loopw [12,160] (λxv kv wr=>∃κ:Nat,κ<=L.o/\kv= .int .i64 (κ:Int)/\AP (λ_=>True) wr xv (ints (pad (i+1) (it (img (T.drop (i+1)) L.c) κ (unit (T.drop (i+1)) m))))/\Below (w.heap.size+1) (w.alloc (.cells #[.int .i64 0,.int .i64 0,.int .i64 0,.int .i64 0] 166)) wr) (λ_ kv _=>L.o-(intOf kv).toNat);case atStart=>exact⟨0,AX _,rfl,g7.AA,c0.AA⟩
        case round=>
         clear I c0 g7 R;obtain⟨κ,hκ,rfl,hx,V⟩:=hrel;have I:=AB V;have HX:=AB hx;clear V hx;obtain⟨u,B,r,U⟩:=JG I.AA;have d8:=AB B;have HF:=AB u;have d6:=AB r;have b5:w.heap.size<wr.heap.size:=by omega
         have R:=AB (HP.AA.keep B);have p0:wr.cell? ⟨b,o,none⟩=some (.slice (some ⟨bO,oO,none⟩) T.length cO):=by rw[B.cell trivial a];exact g.AA.1
         have p1:wr.cell? ⟨b,o+1,none⟩=some (.slice (some ⟨bP,oP,none⟩) T.length cP):=by rw[B.cell trivial a];exact g.AA.2.1
         have p2:wr.cell? ⟨b,o+2,none⟩=some (.slice (some ⟨bC,oC,none⟩) T.length cC):=by rw[B.cell trivial a];exact g.AA.2.2
         have a9:b<wr.heap.size:=by omega
         clear u r;have c9:=AB (f4.AA.keep B);clear B;by_cases hκt:κ<L.o
         .skip
          go_wp2_with fail;refine(c1.AA _ _ (pad (i+1) (it (img (T.drop (i+1)) L.c) κ (unit (T.drop (i+1)) m))) R.AA HX.AA (by rw[BS,Ad (e1.AA κ)];simp;omega) (by rw[BJ];exact e1.AA κ)).mono ?_;rintro e w6 ⟨g6,c6,rfl,b3,a6⟩;rw[BJ,<-EX (img (T.drop (i+1)) L.c)]at b3 ⊢;have f8:=AB (b3.sl.mono (S':=λ_=>True) (λ_ _=>trivial));have e3:=AB (I.AA.trans (a6.mono U));clear b3 a6 p0 p1 p2 a9 b5 U;go_wp2_with fail;go_roundw;case rel=>exact⟨κ+1,by omega,by go_num,f8.AA,e3.AA⟩
          case measure=>simp[intOf];omega
         .skip
          obtain rfl:κ=L.o:=by omega
          have k3:=AB (show NN uW from Je f4.AA (by rw[BS];omega));clear hκt hκ;go_wp2_with fail;refine(TI T.length (i+1+m) g9 (by omega) _).mono ?_;rintro e w6 ⟨g6,c6,rfl,b3,a6⟩;rw[HU.AA]at b3 ⊢;have l0:=AB (b3.sl.mono (S':=λ_=>True) (λ_ _=>trivial));have f8:=AB (HX.AA.keep (AO a6));have k5:=AB (c9.AA.keep (AO a6));have k9:=AB (R.AA.keep (AO a6));have e3:=AB (I.AA.trans (a6.mono U));have n1:w.heap.size+1<=w6.heap.size:=Ae U a6.size;clear b3 a6;go_wp2_with fail;refine(e9.AA _ _ _ (unit (T.drop (i+1)) m) L.w k9.AA l0.AA (RL _ _ _) k5.AA k3.AA h0.AA Z.AA.2.2.2.1).mono ?_;rintro e w8 ⟨zc,⟨a5,a4⟩,g8,c8,rfl,h6,e7⟩;have n6:=AB a5;have j8:=AB a4;have l2:=AB (h6.sl.mono (S':=λ_=>True) (λ_ _=>trivial));have n3:=AB (f8.AA.keep (AO e7));have k2:=AB (e3.AA.trans (e7.mono n1));clear a5 a4 h6 e7;go_wp2_with fail;refine(LC _ _ _ _ _ n3.AA l2.AA).mono ?_;rintro e w7 ⟨rfl,n7,rfl⟩;rw[je e8.AA (i+1) Z.AA.2.2.2.1 n6.AA (e1.AA L.o) j8.AA];have X:=AB (Cs k2.AA n7);by_cases F:C4 L (T.drop (i+1)) m
          .skip
           rw[ET (show mul (T.drop (i+1)) L.w (it (img (T.drop (i+1)) L.c) L.o (unit (T.drop (i+1)) m))=mul (T.drop (i+1)) (unit (T.drop (i+1)) m) L.w from F)];have c4:=AB F;clear F;go_wp2_with fail;go_roundw;case rel=>exact⟨m+1,by omega,by go_num,AB (λt ht=>by
            rcases DF.1 ht with h|h
            .exact hR.AA t h
            .subst h;exact c4.AA),X.AA⟩
           case measure=>simp[intOf];omega
          .skip
           rw[ED (show¬mul (T.drop (i+1)) L.w (it (img (T.drop (i+1)) L.c) L.o (unit (T.drop (i+1)) m))=mul (T.drop (i+1)) (unit (T.drop (i+1)) m) L.w from F)];have b6:=AB (show¬Ep L (T.drop (i+1)) from λh=>F ((d0.AA.1 h).2.2.2 m (by simp;omega)));clear F;obtain⟨C,_,s,a8⟩:=JG X.AA;have f0:=Ar _ w.heap.size 0 _ _ (0,0) C;have p:=Ar _ w.heap.size 1 _ _ (0,0) C;have f2:=Ar _ w.heap.size 2 _ _ (0,0) C;have f3:=Ar _ w.heap.size 3 _ _ (0,0) C;have z0:=BP _ w.heap.size 0 _ _ C;have z1:=BP _ w.heap.size 1 _ _ C;have z2:=BP _ w.heap.size 2 _ _ C;have z3:=BP _ w.heap.size 3 _ _ C;have a7:=AB s;clear C s a8;simp at f0 p f2 f3;go_wp2_with fail;exact Au (v:=.agg #[.int .i64 4,.int .i64 (i),.int .i64 ((i:Int)+1+(m:Int)),.int .i64 (0)]) (by simp[results,Tryz.results158,go_sem,f0,p,f2,f3]) rfl
            ⟨4,_,_,_,rfl,⟨λh=>absurd h.1 (by decide),λh=>absurd h b6.AA⟩,(((a7.AA.setCell (by simp) _).setCell (by simp) _).setCell (by simp) _).setCell (by simp) _⟩
       .skip
        obtain rfl:m=T.length-(i+1):=by omega
        have k1:=AB (show Ep L (T.drop (i+1)) from d0.AA.2 ⟨H1.AA,H2.AA,H3.AA,λj hj=>hR.AA j (by simpa using hj)⟩);obtain⟨C,_,s,a8⟩:=JG I.AA;have f0:=Ar _ w.heap.size 0 _ _ (0,0) C;have p:=Ar _ w.heap.size 1 _ _ (0,0) C;have f2:=Ar _ w.heap.size 2 _ _ (0,0) C;have f3:=Ar _ w.heap.size 3 _ _ (0,0) C;have z0:=BP _ w.heap.size 0 _ _ C;have z1:=BP _ w.heap.size 1 _ _ C;have z2:=BP _ w.heap.size 2 _ _ C;have z3:=BP _ w.heap.size 3 _ _ C;have a7:=AB s;clear C s a8;simp at f0 p f2 f3;go_wp2_with fail;exact Au (v:=.agg #[.int .i64 0,.int .i64 (0),.int .i64 (0),.int .i64 (0)]) (by simp[results,Tryz.results158,go_sem,f0,p,f2,f3]) rfl
         ⟨0,_,_,_,rfl,⟨λ_=>k1.AA,λ_=>⟨rfl,rfl,rfl,rfl⟩⟩,(((a7.AA.setCell (by simp) _).setCell (by simp) _).setCell (by simp) _).setCell (by simp) _⟩
     .skip
      have a1:=AB (show decide (ints (pad (i+1) (img (T.drop (i+1)) L.c L.w))=ints (pad (i+1) (L.w)))=false by
       rw[GV];exact ED F)
      have b6:=AB (show¬Ep L (T.drop (i+1)) from λh=>F (d0.AA.1 h).2.2.1);clear F;go_wp2_with fail;refine(LC _ _ _ _ _ (e5.AA.sl.mono (λ_ _=>trivial)) f9.AA).mono ?_;rintro e w7 ⟨rfl,n7,rfl⟩;rw[a1.AA];have X:=AB (Cs c0.AA n7);obtain⟨C,_,s,a8⟩:=JG X.AA;have f0:=Ar _ w.heap.size 0 _ _ (0,0) C;have p:=Ar _ w.heap.size 1 _ _ (0,0) C;have f2:=Ar _ w.heap.size 2 _ _ (0,0) C;have f3:=Ar _ w.heap.size 3 _ _ (0,0) C;have z0:=BP _ w.heap.size 0 _ _ C;have z1:=BP _ w.heap.size 1 _ _ C;have z2:=BP _ w.heap.size 2 _ _ C;have z3:=BP _ w.heap.size 3 _ _ C;have a7:=AB s;clear C s a8;simp at f0 p f2 f3;go_wp2_with fail;exact Au (v:=.agg #[.int .i64 3,.int .i64 (i),.int .i64 (0),.int .i64 (0)]) (by simp[results,Tryz.results158,go_sem,f0,p,f2,f3]) rfl
       ⟨3,_,_,_,rfl,⟨λh=>absurd h.1 (by decide),λh=>absurd h b6.AA⟩,(((a7.AA.setCell (by simp) _).setCell (by simp) _).setCell (by simp) _).setCell (by simp) _⟩
end aK
end Go.Proofs.YtgjadpmbnejaoaaGreat
