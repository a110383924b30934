import Derived.Test.YtgjadpmbnejaoaaGreatZi
/-
  Lemmas for the law FnAutomorphisms, in short spelling.
-/
set_option linter.unusedVariables false
set_option linter.unusedSimpArgs false
set_option maxRecDepth 100000
set_option maxHeartbeats 40000000
namespace Go.Proofs.YtgjadpmbnejaoaaGreat
namespace fK
open RowKit AJ Bv Bl Ch Cr Bj JN EH
theorem mK (m n:Nat)(k1:m+n<=100)(aO aP aC bO bP bC:Value)(w:World)(hA:PT 0 w m aO aP aC)(hB:PT 0 w n bO bP bC):
  Calls Tryz.prog 124 #[.agg #[aO,aP,aC],.agg #[bO,bP,bC]] w (IU (m+n) w):=by
 obtain⟨i0,hi,k3,k5,k4⟩:=Bd Dh;obtain⟨a1,c1,a2,c2,a3,c3,rfl,rfl,rfl⟩:=hA.form;obtain⟨b1,d1,b2,d2,b3,d3,rfl,rfl,rfl⟩:=hB.form;have HA:=AB hA;have HB:=AB hB;clear hA hB;go_enter Tryz.func124,Tryz.ntmps124;go_upto_region 1 with fail;obtain⟨w1,b6⟩:∃w1,w1=(((w.alloc (.cells #[.slice a1 m c1,.slice a2 m c2,.slice a3 m c3] 28)).alloc (.cells #[.slice b1 n d1,.slice b2 n d2,.slice b3 n d3] 28)).alloc (.cells #[.slice none 0 0,.slice none 0 0,.slice none 0 0] 28)):=⟨_,rfl⟩;rw[<-b6];have G1:=AB (show w1.heap[w.heap.size]?=some (.cells #[.slice a1 m c1,.slice a2 m c2,.slice a3 m c3] 28 (0,0)) by rw[b6,Dv _ _ _ (by simp;omega),Dv _ _ _ (by simp)];exact Aj _ _);have G2:=AB (show w1.heap[w.heap.size+1]?=some (.cells #[.slice b1 n d1,.slice b2 n d2,.slice b3 n d3] 28 (0,0)) by rw[b6,Dv _ _ _ (by simp)];exact(by have:=Aj (w.alloc (.cells #[.slice a1 m c1,.slice a2 m c2,.slice a3 m c3] 28)) (.cells #[.slice b1 n d1,.slice b2 n d2,.slice b3 n d3] 28);simpa using this));have G3:=AB (show w1.heap[w.heap.size+1+1]?=some (.cells #[.slice none 0 0,.slice none 0 0,.slice none 0 0] 28 (0,0)) by rw[b6];exact(by have:=Aj ((w.alloc (.cells #[.slice a1 m c1,.slice a2 m c2,.slice a3 m c3] 28)).alloc (.cells #[.slice b1 n d1,.slice b2 n d2,.slice b3 n d3] 28)) (.cells #[.slice none 0 0,.slice none 0 0,.slice none 0 0] 28);simpa using this));have c8:=AB (show w1.heap.size=w.heap.size+3 by rw[b6];simp);have g3:=AB (show Below w.heap.size w w1 by rw[b6];exact(((AY.alloc AV _).alloc (by simp) _).alloc (by simp;omega) _));clear b6;obtain⟨⟨r,q,e2⟩,-⟩:=Aa G1.AA;obtain⟨⟨f0,f1,f2⟩,-⟩:=Aa G2.AA;go_cut [5,6] (λu v W=>u= .int .i64 (m:Int)/\v= .int .i64 (n:Int)/\Below w1.heap.size w1 W/\W.heap.size=w1.heap.size);case first=>
  go_region_law (fail);all_goals
   go_wp2_with fail;go_meet;exact⟨rfl,rfl,AY.drew,rfl⟩
 case rest=>
  obtain⟨rfl,rfl,d6,g5⟩:=hcut;have K1:=AB (Dj d6 (by have:=c8.AA;omega) G1.AA);have K2:=AB (Dj d6 (by have:=c8.AA;omega) G2.AA);have K3:=AB (Dj d6 (by have:=c8.AA;omega) G3.AA);have d8:=AB (show wc.heap.size=w.heap.size+3 from g5.trans c8.AA);have e9:=AB (g3.AA.trans (d6.mono (by have:=c8.AA;omega)));clear G1 G2 G3 c8 g3 d6 g5 r q e2 f0 f1 f2;have g1:=AB (HA.AA.ty (Ty.below e9.AA));have g0:=AB (HB.AA.ty (Ty.below e9.AA));obtain⟨⟨r,q,e2⟩,-⟩:=Aa K1.AA;obtain⟨⟨f0,f1,f2⟩,-⟩:=Aa K2.AA;go_upto_region 2 with fail;obtain⟨B,rfl⟩:∃B,B=wc:=⟨_,rfl⟩;obtain⟨lA,e5,g9⟩:=g1.AA.1.sl;obtain⟨lB,f8,g4⟩:=g0.AA.1.sl;have e8:=AB (g4.mono (S':=Any) λ_ _=>trivial);have f9:=AB (λ(W:World) (hk:Keep Any B W)=>(JW Any (.slice a1 m c1) lA W ((g9.mono λ_ _=>trivial).keep hk) (by omega)).mono (R':=λe w'=>∃g c,e= .returned (.slice (some ⟨g,0,none⟩) m c)/\w'.ownsRow W.heap.size 2 1 (.slice (some ⟨g,0,none⟩) m c) m (vals lA)/\Below W.heap.size W w') (by
   rintro e w2 ⟨g,c,rfl,ho,hb⟩;unfold Own at ho;rw[e5]at ho ⊢;exact⟨g,c,rfl,ho,hb⟩))
  have g2:=AB (λ(W:World) (v:Value) (h:AP Any W v (lA++lB))=>(Qx (lA++lB) v W h (by rw[Bc];omega)).mono (R':=λe w'=>∃V U l Q Y O,e= .returned (.agg #[.slice V (m+n) U,.slice l (m+n) Q,.slice Y (m+n) O])/\PT W.heap.size w' (m+n) (.slice V (m+n) U) (.slice l (m+n) Q) (.slice Y (m+n) O)/\Below W.heap.size W w') (by
   rintro e w2 ⟨vO,vP,vC,rfl,hp,hb⟩;rw[Bc,e5,f8]at hp;obtain⟨V,U,l,Q,Y,O,rfl,rfl,rfl⟩:=hp.form;exact⟨_,_,_,_,_,_,rfl,hp,hb⟩))
  have c7:w.heap.size<B.heap.size:=by have:=d8.AA;omega
  have b0:w.heap.size+1<B.heap.size:=by have:=d8.AA;omega
  have f5:=AB (show lA.length=m/\lB.length=n from⟨e5,f8⟩);clear e5 f8 g9 g4;go_cut [7] (λtv W=>∃g V U l Q Y O,tv= .pointer (some ⟨g,0,none⟩)/\Hid (PX B.heap.size (m+n) W g (.slice V (m+n) U) (.slice l (m+n) Q) (.slice Y (m+n) O))/\Hid (Below B.heap.size B W));case rest=>
   obtain⟨g,V,U,l,Q,Y,O,rfl,hX,g7⟩:=hcut;obtain⟨N,hN⟩:∃N,m+n=N:=⟨_,rfl⟩;rw[hN]at hX;have a:=AB hN;have k6:N<=100:=by omega
   have j8:=K3;have j3:=d8;clear hN f9 g2 e8 HA HB f5 K3 d8 r q e2 f0 f1 f2;go_wp2_with fail;go_loopw [8] (λiv wr=>∃i:Nat,i<=m/\iv= .int .i64 (i:Int)/\Hid (PX B.heap.size N wr g (.slice V N U) (.slice l N Q) (.slice Y N O))/\Hid (Below B.heap.size B wr)) (λiv _=>m-(intOf iv).toNat);case atStart=>exact⟨0,AX _,rfl,hX,g7⟩
   case round=>
    clear hX g7;obtain⟨i,hi,rfl,C,D⟩:=hrel;by_cases b8:i<m
    .have j0:(i:Int)<(m:Int):=by omega
     have j6:(0:Int)<=(i:Int):=by omega
     have d4:(i:Int)<(N:Int):=by have:=a.AA;omega
     have c5:i<N:=by have:=a.AA;omega
     have L1:=AB (Dj D.AA c7 K1.AA);obtain⟨⟨r,q,e2⟩,-⟩:=Aa L1.AA;obtain⟨⟨p0,p1,p2⟩,-⟩:=Aa C.AA.1;have c4:=C.AA.lt;have J:=D.AA.size;have d0:w.heap.size<wr.heap.size:=Ah c7 J;obtain⟨gp,rfl,L⟩:=C.AA.Ki c5;have I:=AB L;have b4:¬w.heap.size=gp:=by have h:=c7;have h2:=L.2.1;omega
     have b7:¬g=gp:=λh=>by
      obtain⟨_,_,_,d5,u0,h4,_⟩:=L;have d:=C.AA.1;rw[h,h4]at d;simp at d
     clear L;obtain⟨ga,aa,s,rfl,Z,X,a0⟩:=dD g1.AA b8;have Z:=((AO (S:=Any) D.AA).cell trivial X).trans Z;have b5:¬ga=gp:=by have:=I.AA.2.1;omega
     have X:=Ah X J;have a4:=AB (λ(W:World) (hk:Keep Any wr W)=>show Calls Tryz.prog 184 #[.int .i64 0,.slice aa m s,.int .i64 (n:Int)] W (ShR N W) from by
      have h:=Pk 0 n m (by omega) (by omega) (by omega) (.slice aa m s) 0 W ((Ty.keep hk (λ_ _=>trivial)).one _ _ ((Ty.below D.AA).one _ _ a0));rw[show 0+m+n=N from by have:=a.AA;omega]at h;exact h)
     clear a0;go_upto_region 6 with fail;go_region_held3 (λw'=>(∀b o,b<wr.heap.size->¬b=gp->w'.cell? ⟨b,o,none⟩=wr.cell? ⟨b,o,none⟩)/\Keep (λk=>k≠gp) wr w')
      (first|exact KF (by repeat(first|exact Ab|exact AL|refine Keep.setCell ?_ (by simp) _|refine AR ?_ ‹_›)))
      (first|(go_at_call 184;refine(a4.AA _ (by repeat(first|exact Ab|exact AL|refine Keep.drew ?_|refine AR ?_ ‹_›))).mono ?_;rintro e w6 ⟨g6,c6,rfl,a5,K⟩;have F:Below wr.heap.size wr w6:=(by first|exact K|exact(AY.drew).trans K);have f6:=(I.AA.below F).1;obtain⟨u6,s6⟩:=(I.AA.below F).cell)|fail)
     rename_i c0;clear c0;obtain⟨w7,a7⟩:∃w7,w6.setCell ⟨gp,i,none⟩ (.slice (some ⟨g6,0,none⟩) N c6)=w7:=⟨_,rfl⟩;have a8:=AB (show PX B.heap.size N w7 g (.slice V N U) (.slice (some ⟨gp,0,none⟩) N Q) (.slice Y N O) from by
      rw[<-a7];exact(I.AA.below F).put (C.AA.below F) (a5.mono (by first|exact J|simpa using J)))
     have a6:=AB (show Below B.heap.size B w7 from by
      rw[<-a7];exact(D.AA.trans (F.mono J)).setCell (p:=⟨gp,i,none⟩) I.AA.2.1 _)
     rw[a7];clear a7 a5 K F f6 s6 a4 Z b5 X b7 b4 I c4 p0 p1 p2 r q e2 L1 C D J d0 d4;obtain⟨R,e6⟩:∃R,m-(i+1)=R:=⟨_,rfl⟩;go_wp2_with fail;go_loopw [9] (λjv wr=>∃j:Nat,j<=R/\jv= .int .i64 (j:Int)/\Hid (PX B.heap.size N wr g (.slice V N U) (.slice (some ⟨gp,0,none⟩) N Q) (.slice Y N O))/\Hid (Below B.heap.size B wr)) (λjv _=>R-(intOf jv).toNat);case atStart=>exact⟨0,AX _,rfl,a8,a6⟩
     case round=>
      clear a8 a6;obtain⟨j,hj,rfl,C,D⟩:=hrel;have L1:=AB (Dj D.AA c7 K1.AA);obtain⟨⟨r,q,e2⟩,-⟩:=Aa L1.AA;have J:=D.AA.size;have d0:w.heap.size<wr.heap.size:=Ah c7 J;obtain⟨gq,aq,cq,rfl,c9,b9,a9⟩:=VS g1.AA b8;have f7:=((AO (S:=Any) D.AA).cell trivial b9).trans c9;rw[e6]at f7 a9;have i4:=Ah b9 J;by_cases f3:j<R
      .have h0:(j:Int)<(R:Int):=by omega
       have i5:(0:Int)<=(j:Int):=by omega
       have d4:(i:Int)<(N:Int):=by have:=a.AA;omega
       obtain⟨⟨p0,p1,p2⟩,-⟩:=Aa C.AA.1;have c4:=C.AA.lt;obtain⟨ni,f4⟩:∃ni,N-(i+1)=ni:=⟨_,rfl⟩;obtain⟨gc,gr,yr,rfl,e7,i3,L⟩:=C.AA.OV (i:=i) (j:=j) c5 (by have:=a.AA;omega);rw[f4]at e7;have j4:(j:Int)<(ni:Int):=by have:=a.AA;omega
       have I:=AB L;have b4:¬w.heap.size=gr:=by have h:=c7;have h2:=L.2.1;omega
       have b7:¬g=gr:=λh=>by
        obtain⟨_,_,_,d5,u0,h4,_⟩:=L;have d:=C.AA.1;rw[h,h4]at d;simp at d
       have h9:¬gc=gr:=λh=>by
        obtain⟨j7,u,e,h1,h2,h3,h4⟩:=C.AA.2.2.2.2.at (MH c5);obtain⟨us,q1,_⟩:=C.AA.2.2.2.2;obtain⟨_,_,_,d5,u0,d,_⟩:=L;exact KX q1 d (by decide) (by rw[h];rfl)
       clear L;obtain⟨ga,aa,s,rfl,Z,X,a0⟩:=OW a9 f3;have Z:=((AO (S:=Any) D.AA).cell trivial X).trans Z;have b5:¬ga=gr:=by have:=I.AA.2.1;omega
       have j1:¬gq=gr:=by have:=I.AA.2.1;omega
       have X:=Ah X J;have a4:=AB (λ(W:World) (hk:Keep Any wr W)=>show Calls Tryz.prog 184 #[.int .i64 0,.slice aa m s,.int .i64 (n:Int)] W (ShR N W) from by
        have h:=Pk 0 n m (by omega) (by omega) (by omega) (.slice aa m s) 0 W ((Ty.keep hk (λ_ _=>trivial)).one _ _ ((Ty.below D.AA).one _ _ a0));rw[show 0+m+n=N from by have:=a.AA;omega]at h;exact h)
       have i8:j<=100:=by omega
       clear a0 a9 c9 b9;go_upto_region 10 with fail;go_region_held3 (λw'=>(∀b o,b<wr.heap.size->¬b=gr->w'.cell? ⟨b,o,none⟩=wr.cell? ⟨b,o,none⟩)/\Keep (λk=>k≠gr) wr w')
        (first|exact KF (by repeat(first|exact Ab|exact AL|refine Keep.setCell ?_ (by simp) _|refine AR ?_ ‹_›)))
        (first|(go_at_call 184;refine(a4.AA _ (by repeat(first|exact Ab|exact AL|refine Keep.drew ?_|refine AR ?_ ‹_›))).mono ?_;rintro e w6 ⟨g6,c6,rfl,a5,K⟩;have F:Below wr.heap.size wr w6:=(by first|exact K|exact(AY.drew).trans K);have f6:=(I.AA.below F).1;obtain⟨u6,s6⟩:=(I.AA.below F).cell)|fail)
       rename_i c0;clear c0;have a8:=AB (show PX B.heap.size N (w6.setCell ⟨gr,j,none⟩ (.slice (some ⟨g6,0,none⟩) N c6)) g (.slice V N U) (.slice (some ⟨gp,0,none⟩) N Q) (.slice (some ⟨gc,0,none⟩) N O) from
        (I.AA.below F).put (C.AA.below F) (a5.mono (by first|exact J|simpa using J)))
       have a6:=AB (show Below B.heap.size B (w6.setCell ⟨gr,j,none⟩ (.slice (some ⟨g6,0,none⟩) N c6)) from
        (D.AA.trans (F.mono J)).setCell (p:=⟨gr,j,none⟩) I.AA.2.1 _)
       clear a5 K F f6 s6 a4 Z b5 X b7 b4 I c4 p0 p1 p2 r q e2 L1 C D;go_wp2_with fail;go_roundw;case rel=>exact⟨j+1,by omega,by go_num,a8,a6⟩
       case measure=>simp[intOf];omega
      .obtain rfl:R=j:=by omega
       have i1:¬(R:Int)<(R:Int):=by omega
       have h6:i<=100:=by omega
       clear a9;go_wp2_with fail;go_roundw;case rel=>exact⟨i+1,by omega,by go_num,C,D⟩
       case measure=>simp[intOf];omega
    .obtain rfl:m=i:=by omega
     have i7:¬(m:Int)<(m:Int):=by omega
     clear b8;go_wp2_with fail;go_loopw [10] (λiv wr=>∃i:Nat,i<=n/\iv= .int .i64 (i:Int)/\Hid (PX B.heap.size N wr g (.slice V N U) (.slice l N Q) (.slice Y N O))/\Hid (Below B.heap.size B wr)) (λiv _=>n-(intOf iv).toNat);case atStart=>exact⟨0,AX _,rfl,C,D⟩
     case round=>
      clear C D;obtain⟨i,hi,rfl,C,D⟩:=hrel;by_cases b8:i<n
      .have j0:(i:Int)<(n:Int):=by omega
       have j6:(0:Int)<=(i:Int):=by omega
       have d4:(m:Int)+(i:Int)<(N:Int):=by have:=a.AA;omega
       have h8:IntKind.i64.wrap ((m:Int)+(i:Int))=(m:Int)+(i:Int):=Ac _ (by omega);have h7:(0:Int)<=(m:Int)+(i:Int):=by omega
       have j9:((m:Int)+(i:Int)).toNat=m+i:=by omega
       have c5:(m+i)<N:=by have:=a.AA;omega
       have L1:=AB (Dj D.AA b0 K2.AA);obtain⟨⟨r,q,e2⟩,-⟩:=Aa L1.AA;obtain⟨⟨p0,p1,p2⟩,-⟩:=Aa C.AA.1;have c4:=C.AA.lt;have J:=D.AA.size;have d0:(w.heap.size+1)<wr.heap.size:=Ah b0 J;obtain⟨gp,rfl,L⟩:=C.AA.Ki c5;have I:=AB L;have b4:¬(w.heap.size+1)=gp:=by have h:=b0;have h2:=L.2.1;omega
       have b7:¬g=gp:=λh=>by
        obtain⟨_,_,_,d5,u0,h4,_⟩:=L;have d:=C.AA.1;rw[h,h4]at d;simp at d
       clear L;obtain⟨ga,aa,s,rfl,Z,X,a0⟩:=dD g0.AA b8;have Z:=((AO (S:=Any) D.AA).cell trivial X).trans Z;have b5:¬ga=gp:=by have:=I.AA.2.1;omega
       have X:=Ah X J;have a4:=AB (λ(W:World) (hk:Keep Any wr W)=>show Calls Tryz.prog 184 #[.int .i64 (m:Int),.slice aa n s,.int .i64 0] W (ShR N W) from by
        have h:=Pk m 0 n (by omega) (by omega) (by omega) (.slice aa n s) 0 W ((Ty.keep hk (λ_ _=>trivial)).one _ _ ((Ty.below D.AA).one _ _ a0));rw[show m+n+0=N from by have:=a.AA;omega]at h;exact h)
       clear a0;go_upto_region 14 with fail;go_region_held3 (λw'=>(∀b o,b<wr.heap.size->¬b=gp->w'.cell? ⟨b,o,none⟩=wr.cell? ⟨b,o,none⟩)/\Keep (λk=>k≠gp) wr w')
        (first|exact KF (by repeat(first|exact Ab|exact AL|refine Keep.setCell ?_ (by simp) _|refine AR ?_ ‹_›)))
        (first|(go_at_call 184;refine(a4.AA _ (by repeat(first|exact Ab|exact AL|refine Keep.drew ?_|refine AR ?_ ‹_›))).mono ?_;rintro e w6 ⟨g6,c6,rfl,a5,K⟩;have F:Below wr.heap.size wr w6:=(by first|exact K|exact(AY.drew).trans K);have f6:=(I.AA.below F).1;obtain⟨u6,s6⟩:=(I.AA.below F).cell)|fail)
       rename_i c0;clear c0;obtain⟨w7,a7⟩:∃w7,w6.setCell ⟨gp,(m+i),none⟩ (.slice (some ⟨g6,0,none⟩) N c6)=w7:=⟨_,rfl⟩;have a8:=AB (show PX B.heap.size N w7 g (.slice V N U) (.slice (some ⟨gp,0,none⟩) N Q) (.slice Y N O) from by
        rw[<-a7];exact(I.AA.below F).put (C.AA.below F) (a5.mono (by first|exact J|simpa using J)))
       have a6:=AB (show Below B.heap.size B w7 from by
        rw[<-a7];exact(D.AA.trans (F.mono J)).setCell (p:=⟨gp,(m+i),none⟩) I.AA.2.1 _)
       rw[a7];clear a7 a5 K F f6 s6 a4 Z b5 X b7 b4 I c4 p0 p1 p2 r q e2 L1 C D J d0 d4;obtain⟨R,e6⟩:∃R,n-(i+1)=R:=⟨_,rfl⟩;go_wp2_with fail;go_loopw [11] (λjv wr=>∃j:Nat,j<=R/\jv= .int .i64 (j:Int)/\Hid (PX B.heap.size N wr g (.slice V N U) (.slice (some ⟨gp,0,none⟩) N Q) (.slice Y N O))/\Hid (Below B.heap.size B wr)) (λjv _=>R-(intOf jv).toNat);case atStart=>exact⟨0,AX _,rfl,a8,a6⟩
       case round=>
        clear a8 a6;obtain⟨j,hj,rfl,C,D⟩:=hrel;have L1:=AB (Dj D.AA b0 K2.AA);obtain⟨⟨r,q,e2⟩,-⟩:=Aa L1.AA;have J:=D.AA.size;have d0:(w.heap.size+1)<wr.heap.size:=Ah b0 J;obtain⟨gq,aq,cq,rfl,c9,b9,a9⟩:=VS g0.AA b8;have f7:=((AO (S:=Any) D.AA).cell trivial b9).trans c9;rw[e6]at f7 a9;have i4:=Ah b9 J;by_cases f3:j<R
        .have h0:(j:Int)<(R:Int):=by omega
         have i5:(0:Int)<=(j:Int):=by omega
         have d4:(m:Int)+(i:Int)<(N:Int):=by have:=a.AA;omega
         have h8:IntKind.i64.wrap ((m:Int)+(i:Int))=(m:Int)+(i:Int):=Ac _ (by omega);have h7:(0:Int)<=(m:Int)+(i:Int):=by omega
         have j9:((m:Int)+(i:Int)).toNat=m+i:=by omega
         obtain⟨⟨p0,p1,p2⟩,-⟩:=Aa C.AA.1;have c4:=C.AA.lt;obtain⟨ni,f4⟩:∃ni,N-((m+i)+1)=ni:=⟨_,rfl⟩;obtain⟨gc,gr,yr,rfl,e7,i3,L⟩:=C.AA.OV (i:=(m+i)) (j:=j) c5 (by have:=a.AA;omega);rw[f4]at e7;have j4:(j:Int)<(ni:Int):=by have:=a.AA;omega
         have I:=AB L;have b4:¬(w.heap.size+1)=gr:=by have h:=b0;have h2:=L.2.1;omega
         have b7:¬g=gr:=λh=>by
          obtain⟨_,_,_,d5,u0,h4,_⟩:=L;have d:=C.AA.1;rw[h,h4]at d;simp at d
         have h9:¬gc=gr:=λh=>by
          obtain⟨j7,u,e,h1,h2,h3,h4⟩:=C.AA.2.2.2.2.at (MH c5);obtain⟨us,q1,_⟩:=C.AA.2.2.2.2;obtain⟨_,_,_,d5,u0,d,_⟩:=L;exact KX q1 d (by decide) (by rw[h];rfl)
         clear L;obtain⟨ga,aa,s,rfl,Z,X,a0⟩:=OW a9 f3;have Z:=((AO (S:=Any) D.AA).cell trivial X).trans Z;have b5:¬ga=gr:=by have:=I.AA.2.1;omega
         have j1:¬gq=gr:=by have:=I.AA.2.1;omega
         have X:=Ah X J;have a4:=AB (λ(W:World) (hk:Keep Any wr W)=>show Calls Tryz.prog 184 #[.int .i64 (m:Int),.slice aa n s,.int .i64 0] W (ShR N W) from by
          have h:=Pk m 0 n (by omega) (by omega) (by omega) (.slice aa n s) 0 W ((Ty.keep hk (λ_ _=>trivial)).one _ _ ((Ty.below D.AA).one _ _ a0));rw[show m+n+0=N from by have:=a.AA;omega]at h;exact h)
         have i8:j<=100:=by omega
         clear a0 a9 c9 b9;go_upto_region 18 with fail;go_region_held3 (λw'=>(∀b o,b<wr.heap.size->¬b=gr->w'.cell? ⟨b,o,none⟩=wr.cell? ⟨b,o,none⟩)/\Keep (λk=>k≠gr) wr w')
          (first|exact KF (by repeat(first|exact Ab|exact AL|refine Keep.setCell ?_ (by simp) _|refine AR ?_ ‹_›)))
          (first|(go_at_call 184;refine(a4.AA _ (by repeat(first|exact Ab|exact AL|refine Keep.drew ?_|refine AR ?_ ‹_›))).mono ?_;rintro e w6 ⟨g6,c6,rfl,a5,K⟩;have F:Below wr.heap.size wr w6:=(by first|exact K|exact(AY.drew).trans K);have f6:=(I.AA.below F).1;obtain⟨u6,s6⟩:=(I.AA.below F).cell)|fail)
         rename_i c0;clear c0;have a8:=AB (show PX B.heap.size N (w6.setCell ⟨gr,j,none⟩ (.slice (some ⟨g6,0,none⟩) N c6)) g (.slice V N U) (.slice (some ⟨gp,0,none⟩) N Q) (.slice (some ⟨gc,0,none⟩) N O) from
          (I.AA.below F).put (C.AA.below F) (a5.mono (by first|exact J|simpa using J)))
         have a6:=AB (show Below B.heap.size B (w6.setCell ⟨gr,j,none⟩ (.slice (some ⟨g6,0,none⟩) N c6)) from
          (D.AA.trans (F.mono J)).setCell (p:=⟨gr,j,none⟩) I.AA.2.1 _)
         clear a5 K F f6 s6 a4 Z b5 X b7 b4 I c4 p0 p1 p2 r q e2 L1 C D;go_wp2_with fail;go_roundw;case rel=>exact⟨j+1,by omega,by go_num,a8,a6⟩
         case measure=>simp[intOf];omega
        .obtain rfl:R=j:=by omega
         have i1:¬(R:Int)<(R:Int):=by omega
         have h6:i<=100:=by omega
         clear a9;go_wp2_with fail;go_roundw;case rel=>exact⟨i+1,by omega,by go_num,C,D⟩
         case measure=>simp[intOf];omega
      .obtain rfl:n=i:=by omega
       have i7:¬(n:Int)<(n:Int):=by omega
       clear b8;have i9:w.heap.size+1+1<B.heap.size:=by have:=j3.AA;omega
       have LG:=AB (Dj D.AA i9 j8.AA);obtain⟨⟨r,q,e2⟩,-⟩:=Aa C.AA.1;obtain⟨⟨f0,f1,f2⟩,q0,q1,q2⟩:=Aa LG.AA;have j5:=AB (show IU (m+n) w (.returned (.agg #[.slice V N U,.slice l N Q,.slice Y N O])) (((wr.setCell ⟨w.heap.size+1+1,0,none⟩ (.slice V N U)).setCell ⟨w.heap.size+1+1,1,none⟩ (.slice l N Q)).setCell ⟨w.heap.size+1+1,2,none⟩ (.slice Y N O)) from by
        rw[a.AA];refine⟨_,_,_,rfl,?_,?_⟩
        .exact(C.AA.2.2.ty (Ty.keep (S:=λk=>B.heap.size<=k) ((((Keep.refl _ wr).setCell (by simp;omega) _).setCell (by simp;omega) _).setCell (by simp;omega) _) λ_ h=>h)).mono (by omega)
        .exact(((e9.AA.trans (D.AA.mono (by omega))).setCell (p:=⟨w.heap.size+1+1,0,none⟩) (by simp;omega) _).setCell (p:=⟨w.heap.size+1+1,1,none⟩) (by simp;omega) _).setCell (p:=⟨w.heap.size+1+1,2,none⟩) (by simp;omega) _)
       clear C D;go_wp2_with fail;obtain⟨⟨z0,z1,z2⟩,-⟩:=Aa (Bi (x:=.slice V N U) (y:=.slice l N Q) (z:=.slice Y N O) LG.AA);exact Au (v:=.agg #[.slice V N U,.slice l N Q,.slice Y N O]) (by simp[results,Tryz.results124,go_sem,z0,z1,z2]) rfl j5.AA
  have j2:=AB (show(lA++lB).length=m+n by rw[Bc,f5.AA.1,f5.AA.2]);go_region_law
   (first|(go_simp;go_at_call 128;refine(f9.AA _ (by repeat(first|exact Ab|exact AL|refine Keep.drew ?_|refine Keep.alloc ?_ _|refine AR ?_ ‹_›))).mono ?_;rintro e w2 ⟨gO,cO,rfl,g8,d7⟩;have k2:=(show Keep Any B w2 from(by repeat(first|exact Ab|exact AL|refine Keep.drew ?_|refine Keep.alloc ?_ _|refine AR ?_ ‹_›)));have x0:=(k2.cell (b:=w.heap.size+1) (o:=0) trivial b0).trans f0;have s2:=k2.size;have k0:w.heap.size+1<w2.heap.size:=Ah b0 s2;have d9:=(Aq g8 gO rfl);have B2:Below B.heap.size B w2:=(by first|exact d7|exact(AY.drew).trans d7|exact((AY.drew).alloc AV _).trans (d7.mono (by simp))|exact(AY.alloc AV _).trans (d7.mono (by simp)));first|(have A2:w2.heap[B.heap.size]?=some CV:=Dj d7 (by simp) (Aj _ _);have i2:B.heap.size≠gO:=(by have:=d9.1;simp at this;omega))|(have N2:True:=trivial))|(refine UC (by rfl) _ _ (by rfl) B.heap.size gO m cO n d1 lA lB b1 (by rfl) (Gp (B':=B.heap.size) (Aw g8 (S:=Any) (by repeat(first|exact Ab|exact AL|refine Keep.drew ?_|refine Keep.alloc ?_ _|refine AR ?_ ‹_›)) (λ_ _=>trivial)) (by first|exact Al _|(simp;done)|(simp;omega))) (by rfl) (e8.AA.keep (by repeat(first|exact Ab|exact AL|refine Keep.drew ?_|refine Keep.alloc ?_ _|refine AR ?_ ‹_›))) (by omega) (by first|exact s2|(simp;omega)) ?_;intro gN cN w5 i6 e4;have B5:Below B.heap.size B w5:=(by first|exact B2.grown e4 s2 (by intro b hb;injection hb with hb;have:=d9.1;simp at this;omega)|exact(B2.alloc s2 _).grown e4 (by simp;omega) (by intro b hb;injection hb with hb;have:=d9.1;simp at this;omega));have s5:=B5.size;first|(have A5:w5.heap[B.heap.size]?=some CV:=(e4.block _ (Bt.1 A2).1 (λh=>i2 (by injection h))).trans A2;have l5:=(Bt.1 A5).1)|(have C5:w5.heap[w2.heap.size]?=some CV:=(e4.block _ (by simp) (λh=>by injection h with h;have:=d9.2;omega)).trans (Aj _ _);have l5:=(Bt.1 C5).1)|(have N5:True:=trivial))|(go_simp;go_at_call 125;refine(g2.AA _ _ ((Gw i6 j2.AA).keep (by repeat(first|exact Ab|exact AL|refine Keep.drew ?_|refine Keep.alloc ?_ _|refine AR ?_ ‹_›)))).mono ?_;rintro e w6 ⟨V,U,l,Q,Y,O,rfl,e3,K⟩;have F:Below B.heap.size B w6:=(by first|exact B5.trans (K.mono s5)|exact(B5.alloc s5 _).trans (K.mono (by simp;omega)));first|(have A6:w6.heap[B.heap.size]?=some CV:=Dj K l5 A5;obtain⟨⟨z0,z1,z2⟩,q0,q1,q2⟩:=Aa A6;have F6:=(show SQ B w6 _ _ _ _ _ from⟨A6,Al _,⟨_,e3,l5⟩,F⟩))|(have C6:w6.heap[w2.heap.size]?=some CV:=Dj K l5 C5;obtain⟨⟨z0,z1,z2⟩,q0,q1,q2⟩:=Aa C6;have F6:=(show SQ B w6 _ _ _ _ _ from⟨C6,s2,⟨_,e3,l5⟩,F⟩))|(have D6:w6.heap[w5.heap.size]?=some CV:=Dj K (by simp) (Aj _ _);obtain⟨⟨z0,z1,z2⟩,q0,q1,q2⟩:=Aa D6;have F6:=(show SQ B w6 _ _ _ _ _ from⟨D6,s5,⟨_,e3,by simp⟩,F⟩))|(have N6:=(show dF B w6 _ _ _ _ from⟨⟨_,e3,s5⟩,F⟩))))
  all_goals
   clear f9 g2 e8;go_wp2_with fail;go_meet;first|exact qZ F6|exact qa N6
end fK
namespace NI
open RowKit AJ Val Bv Bl Ch Cr Bj EH KM KN Ih KL MB
open Ow(Ty.box Ty.JF)
structure Bx (g:Nat)(a:Option Addr)(len cap:Nat)(w w1:World)(g0:Nat):Prop where
 hh:Sr g a len cap w w
 s1:w1.heap.size=g0+1
 z:w.heap.size=g0
 k1:w1.heap[g0]?=some CV
 s:Sr g a len cap w1 w1
 sw:Sr g a len cap w w1
theorem Sr.here {g len cap:Nat}{a:Option Addr}{w W:World}(h:Sr g a len cap w W):Sr g a len cap W W:=⟨h.1,h.2.1,Ez _ _⟩
theorem Bx.new {g len cap:Nat}{a:Option Addr}{w:World}(h:Sr g a len cap w w):Bx g a len cap w (w.alloc CV) w.heap.size:=
 ⟨h,by simp,rfl,Aj _ _,Sr.here (h.alloc _),h.alloc _⟩
theorem Bx.k {g len cap B:Nat}{a:Option Addr}{w D W:World}(h:Bx g a len cap w D B)(C:Sr g a len cap D W):W.heap[B]?=some CV/\B<W.heap.size:=
 ⟨(C.2.2.block B (by rw[h.s1];omega) (λe=>by injection e with e;have:=h.hh.lt;have:=h.z;omega)).trans h.k1,by have:=C.2.2.size;rw[h.s1]at this;omega⟩
theorem Bx.sr {g len cap B:Nat}{a:Option Addr}{w C W:World}(h:Bx g a len cap w C B)(D:Sr g a len cap C W)(x y z:Value):Sr g a len cap w (((W.setCell ⟨B,0,none⟩ x).setCell ⟨B,1,none⟩ y).setCell ⟨B,2,none⟩ z):=
 (h.sw.tr D).NC h.hh (Nat.le_of_eq h.z) _ _ _
theorem Bx.fin {b g len cap B N F C D:Nat}{a K L J:Option Addr}{w I W:World}(h:Bx g a len cap w I B)(O:Sr g a len cap I W)(R:N<=b)(Q:PT I.heap.size W N (.slice K N F) (.slice L N C) (.slice J N D)):
  Ij b g a len cap w (.returned (.agg #[.slice K N F,.slice L N C,.slice J N D])) (((W.setCell ⟨B,0,none⟩ (.slice K N F)).setCell ⟨B,1,none⟩ (.slice L N C)).setCell ⟨B,2,none⟩ (.slice J N D)):=
 ⟨N,_,_,_,_,_,_,R,rfl,(Q.ty (Ty.JF (h.k O).1)).mono (by rw[h.s1,h.z];omega),h.sr O _ _ _⟩
theorem QH {B:Nat}(w:World)(o:Obj):Ty B w (w.alloc o):=Ty.keep (S:=Any) ((Keep.refl _ w).alloc o) λ_ _=>trivial
theorem qm (d4:Int)(g:Nat)(a:Option Addr)(len cap:Nat)(w:World)(h:Sr g a len cap w w):Calls Tryz.prog 67 #[.pointer (some ⟨g,0,none⟩),.int .i64 d4] w (Ij 24 g a len cap w):=by
 obtain⟨B,b4⟩:∃B,B=w.alloc CV:=⟨_,rfl⟩;obtain⟨g0,c6⟩:∃g0,w.heap.size=g0:=⟨_,rfl⟩;have C:=AB (show Bx g a len cap w B g0 by rw[b4,<-c6];exact Bx.new h);have c7:=AB (λ(W:World) (F:Sr g a len cap B W)=>ql g a len cap W (Sr.here F));have b7:=AB (show g<B.heap.size from C.AA.s.lt);clear h;go_enter Tryz.func67,Tryz.ntmps67;go_upto_region 1 with fail;rw[<-b4];clear b4 c6;go_wp2_with fail;go_loopw [5] (λiv wr=>∃i:Nat,i<=12/\iv= .int .i64 (i:Int)/\Hid (Sr g a len cap B wr)) (λiv _=>12-(intOf iv).toNat);case atStart=>exact⟨0,by omega,rfl,AB C.AA.s⟩
 case round=>
  obtain⟨i,hi,rfl,F⟩:=hrel;by_cases e4:i<12
  .have c8:(i:Int)<12:=by omega
   go_upto_region 5 with(go_at_call 123;refine(c7.AA _ F.AA).mono ?_;rintro e w2 ⟨N,X,R,O,U,S,L,hN,rfl,D,J⟩);obtain⟨gp,b8⟩:∃gp,w2.heap.size=gp:=⟨_,rfl⟩;obtain⟨w3,a5⟩:∃w3,w3=w2.alloc (.cells #[.slice X N U,.slice R N S,.slice O N L] 28):=⟨_,rfl⟩;rw[<-a5,b8];have b6:=AB (show Sr g a len cap B w3 by rw[a5];exact(F.AA.tr J).alloc _);have a8:=AB (show PX B.heap.size N w3 gp (.slice X N U) (.slice R N S) (.slice O N L) by rw[a5,<-b8];exact Iq D F.AA.2.2.size (F.AA.tr J).2.2.size);have b3:=AB (show B.heap.size<=gp from a8.AA.2.1);have Y:=AB hN;clear hN D J b8 a5 F;go_upto_if 15 with(go_at_call 68;refine(GX 3 g a len cap B _ b6.AA).mono ?_;rintro e w4 ⟨r,rfl,I,b9⟩;have d:=AB (b6.AA.tr b9);have Z:=AB (GD a8.AA b9.2.2 b7.AA);clear b9);go_cut [6] (λv W=>v= .pointer (some ⟨gp,0,none⟩)/\Hid (∃N X U R S O L,N<=24/\PX B.heap.size N W gp (.slice X N U) (.slice R N S) (.slice O N L))/\Hid (Sr g a len cap B W));case first=>
    by_cases d8:r=0
    .subst d8;obtain⟨⟨d0,d1,d2⟩,f0,f1,f2⟩:=Aa Z.AA.1;have a7:=Z.AA.lt;clear I;go_wp2_with fail;go_region_law
      (first|(go_simp;go_at_call 123;refine(c7.AA _ (by first|exact d.AA|exact d.AA.drew)).mono ?_;rintro e w5 ⟨M,X1,X2,X3,Y1,Y2,Y3,u,rfl,D,J⟩;have c5:=AB (show Sr g a len cap B w5 from(by first|exact d.AA.tr J|exact d.AA.drew.tr J));have a6:=AB (show PX B.heap.size N w5 gp (.slice X N U) (.slice R N S) (.slice O N L) from(by first|exact GD Z.AA J.2.2 b7.AA|exact GD Z.AA (PO J.2.2) b7.AA));have c9:=AB (D.mono (AX _));have HM:=AB u;obtain⟨⟨c0,c1,c2⟩,k0,k1,k2⟩:=Aa a6.AA.1;have e5:=a6.AA.lt;clear D J u)|(go_simp;go_at_call 124;refine((fK.mK N M (by have:=Y.AA;have:=HM.AA;omega) _ _ _ _ _ _ w5 (a6.AA.2.2.mono (AX _)) c9.AA).mono λe w' h=>IU.un (b:=24) h (by have:=Y.AA;have:=HM.AA;omega)).mono ?_;rintro e w6 ⟨K,z1,z2,z3,u1,u2,u3,hK,rfl,D,V⟩;have j:=AB (c5.AA.below V);have a3:=AB (a6.AA.below V);have d6:=AB (D.mono c5.AA.2.2.size);have d5:=AB hK;obtain⟨⟨b0,b1,b2⟩,l0,l1,l2⟩:=Aa a3.AA.1;have d9:=a3.AA.lt;clear D V hK)|(fail))
     all_goals
      go_wp2_with fail;go_meet;exact⟨rfl,AB ⟨K,_,_,_,_,_,_,d5.AA,PX.Bi a3.AA.1 b3.AA d6.AA⟩,AB (j.AA.NC C.AA.s b3.AA _ _ _)⟩
    .have e8:((r:Int)==0)=false:=Hq.2 (by omega);clear I;go_wp2_with fail;go_meet;exact⟨rfl,AB ⟨N,_,_,_,_,_,_,by have:=Y.AA;omega,Z.AA⟩,d⟩
   case rest=>
    obtain⟨rfl,hQ,d7⟩:=hcut;rename World=>p;clear b6 d a8 Z Y I;obtain⟨M,X1,Y1,X2,Y2,X3,Y3,u,c3⟩:=hQ.AA;have HM:=AB u;have a0:=AB c3;clear hQ u c3;obtain⟨P,hP,-⟩:=Jm.ZR a0.AA.2.2;have HV:=AB (hP.mono (S':=Any) λ_ _=>trivial);have c4:=AB (QC.MG p _ _ _ P HV.AA);have d3:=AB (λ(l:Valid P) (W:World) (V:Below p.heap.size p W)=>KE.Jp W _ P.os (HV.AA.keep (AO V)).os l.pr);clear hP;obtain⟨⟨d0,d1,d2⟩,-⟩:=Aa a0.AA.1;have a7:=a0.AA.lt;go_upto_region 7 with fail;go_cut [28] (λv W=>(∃b,v= .bool b)/\Hid (Below p.heap.size p W));case first=>
     by_cases l:Valid P
     .have a4:=AB l;clear l;go_wp2_with (first|(go_at_call 87;refine c4.AA.mono ?_;rintro e w8 ⟨r,rfl,I,a1⟩;obtain rfl:r=true:=I.2 a4.AA;have Q:=AB a1;clear I a1;have b5:=a0.AA.below Q.AA;have e3:=b5.lt;obtain⟨⟨c0,c1,c2⟩,-⟩:=Aa b5.1;clear b5)|(go_at_call 88;refine(d3.AA a4.AA _ Q.AA).mono ?_;rintro e w9 ⟨q,rfl,-, -, rfl⟩));go_meet;exact⟨⟨_,rfl⟩,Q⟩
     .have a4:=AB l;clear l;go_wp2_with (go_at_call 87;refine c4.AA.mono ?_;rintro e w8 ⟨r,rfl,I,a1⟩;obtain rfl:r=false:=(by cases r with|false=>rfl|true=>exact absurd (I.1 rfl) a4.AA);have Q:=AB a1;clear I a1);go_meet;exact⟨⟨_,rfl⟩,Q⟩
    case rest=>
     obtain⟨⟨b,rfl⟩,Q⟩:=hcut;rename World=>w8;have a2:=AB (d7.AA.below Q.AA);clear d0 d1 d2 a7;cases b with
     |true=>
      have a9:=AB (a0.AA.below Q.AA);obtain⟨⟨d0,d1,d2⟩,-⟩:=Aa a9.AA.1;have a7:=a9.AA.lt;obtain⟨⟨e0,e1,e2⟩,f0,f1,f2⟩:=Aa (C.AA.k a2.AA).1;have e7:=(C.AA.k a2.AA).2;have e6:¬gp=g0:=by have h1:=C.AA.s1;have h2:=b3.AA;omega
      go_wp2_with fail;obtain⟨⟨z0,z1,z2⟩,-⟩:=Aa (Bi (x:=.slice X1 M Y1) (y:=.slice X2 M Y2) (z:=.slice X3 M Y3) (C.AA.k a2.AA).1);exact Au (v:=.agg #[.slice X1 M Y1,.slice X2 M Y2,.slice X3 M Y3]) (by simp[results,Tryz.results67,go_sem,z0,z1,z2]) rfl (C.AA.fin a2.AA HM.AA a9.AA.2.2)
     |false=>
      go_wp2_with fail;go_roundw;case rel=>exact⟨i+1,by omega,by go_num,a2⟩
      case measure=>simp[intOf];omega
  .obtain rfl:i=12:=by omega
   have c8:¬((12:Nat):Int)<12:=by omega
   go_wp2_with (go_at_call 125;refine(Ri [2] 1 rfl (by decide) _).mono ?_;rintro e w6 ⟨N,X,R,O,U,S,L,hN,rfl,D,V⟩;have Y:=AB (show N<=24 from Ae hN (by decide));have j:=AB ((F.AA.alloc _).below V);have a3:=AB (D.mono (Ae F.AA.2.2.size (by simp)));obtain⟨⟨e0,e1,e2⟩,f0,f1,f2⟩:=Aa (C.AA.k j.AA).1;have a7:=(C.AA.k j.AA).2;clear hN D V);obtain⟨⟨z0,z1,z2⟩,-⟩:=Aa (Bi (x:=.slice X N U) (y:=.slice R N S) (z:=.slice O N L) (C.AA.k j.AA).1);exact Au (v:=.agg #[.slice X N U,.slice R N S,.slice O N L]) (by simp[results,Tryz.results67,go_sem,z0,z1,z2]) rfl (C.AA.fin j.AA Y.AA a3.AA)
end NI
namespace Ot
open RowKit AJ Val Bv Bl Ch Cr Bj EH KM KN Ih KL MB NI
open Ow(Ty.box Ty.JF)
theorem kc {w w':World}{g b:Nat}(h:w.grownBy w' (some g))(C:g<b)(B:b<w.heap.size)(o:Nat):w'.cell? ⟨b,o,none⟩=w.cell? ⟨b,o,none⟩:=(QG (gp:=g) h).cell (by omega) B
theorem kh {w w':World}{g b:Nat}(h:w.grownBy w' (some g))(C:g<b)(B:b<w.heap.size):w'.heap[b]?=w.heap[b]?:=h.block b B λe=>by injection e with e;omega
theorem PX.set1 {B n b i g:Nat}{w:World}{I D F:Value}{J:Array Value}(h:PX B n w g I D F)(C:w.heap[b]?=some (.cells J 2 (0,0)))(x:Int):PX B n (w.setCell ⟨b,i,none⟩ (.int .i64 x)) g I D F:=
 ⟨by
  rw[JA w ⟨b,i,none⟩ g _ ?_]
  .exact h.1
  .intro e;have e:g=b:=e;subst e;rw[h.1]at C;simp at C,h.2.1,h.2.2.ty (Ty.set1 C x)⟩
theorem OY {B n j c:Nat}{w:World}{a:Option Addr}(h:R1 B w n (.slice a n c))(K:j<n):∃b C x,a=some ⟨b,0,none⟩/\w.heap[b]?=some (.cells C 2 (0,0))/\C[j]?=some (.int .i64 x)/\B<=b/\b<w.heap.size:=by
 obtain⟨b,C,x,rfl,D,L,F,I,J⟩:=Jm.Li h K;rw[Ar w b j C _ (0,0) F]at D;exact⟨b,C,x,rfl,F,D,I,J⟩
theorem OZ {w:World}{b j:Nat}{B:Array Value}{t:TypeId}{u:Value}(h:w.heap[b]?=some (.cells B t (0,0)))(C:B[j]?=some u):w.cell? ⟨b,j,none⟩=some u/\w.frozen? ⟨b,j,none⟩=false/\b<w.heap.size:=
 ⟨(Ar w b j B _ (0,0) h).trans C,BP w b j B _ h,(Bt.1 h).1⟩
theorem Ij.al {b g len cap:Nat}{a:Option Addr}{w w':World}{e:Ending}{o:Obj}(B:Sr g a len cap w w)(h:Ij b g a len cap (w.alloc o) e w'):Ij b g a len cap w e w':=by
 obtain⟨N,O,Q,L,K,I,J,F,rfl,C,D⟩:=h;exact⟨N,_,_,_,_,_,_,F,rfl,C.mono (by simp),(B.alloc o).tr D⟩
theorem mM (N:Nat)(hN:N<=24)(a1 a2 a3:Option Addr)(l c2 c3:Nat)(g:Nat)(a:Option Addr)(len cap:Nat)(w:World)(h:Sr g a len cap w w)(hA:PT 0 w N (.slice a1 N l) (.slice a2 N c2) (.slice a3 N c3)):
  Calls Tryz.prog 70 #[.pointer (some ⟨g,0,none⟩),.agg #[.slice a1 N l,.slice a2 N c2,.slice a3 N c3]] w (Ij 24 g a len cap w):=by
 obtain⟨w0,d⟩:∃w0,w0=w.alloc (.cells #[.slice a1 N l,.slice a2 N c2,.slice a3 N c3] 28):=⟨_,rfl⟩;obtain⟨B,b4⟩:∃B,B=w0.alloc CV:=⟨_,rfl⟩;obtain⟨g0,c9⟩:∃g0,w.heap.size=g0:=⟨_,rfl⟩;have C:=AB (show Bx g a len cap w0 B (g0+1) by
  have:=Bx.new (Sr.here (h.alloc (.cells #[.slice a1 N l,.slice a2 N c2,.slice a3 N c3] 28)));rw[World.size_alloc,<-d,<-b4,c9]at this;exact this)
 have h4:=AB (show PT 0 B N (.slice a1 N l) (.slice a2 N c2) (.slice a3 N c3) by rw[b4,d];exact(hA.ty (QH _ _)).ty (QH _ _));have HP:=AB (show B.heap[g0]?=some (.cells #[.slice a1 N l,.slice a2 N c2,.slice a3 N c3] 28 (0,0)) by rw[b4,Dv _ _ _ (by rw[d,<-c9];simp),d,<-c9];exact Aj _ _);have h3:=AB (λe w' (hf:Ij 24 g a len cap w0 e w')=>show Ij 24 g a len cap w e w' by rw[d]at hf;exact Ij.al h hf);have J:=AB (show g<B.heap.size from C.AA.s.lt);have HN:=AB hN;clear h hA;go_enter Tryz.func70,Tryz.ntmps70;go_upto_region 1 with fail;rw[<-d,<-b4];clear b4 c9 d;obtain⟨⟨p0,p1,p2⟩,-⟩:=Aa HP.AA;go_upto_region 2 with(go_at_call 126;refine(TB.UM N (by omega) a1 a2 a3 l c2 c3 B h4.AA).mono ?_;rintro e w2 ⟨vO,vP,vC,rfl,e3,e8⟩;obtain⟨Q,O,L,K,I,F,rfl,rfl,rfl⟩:=e3.form);obtain⟨X,e7⟩:∃X,w2.heap.size=X:=⟨_,rfl⟩;obtain⟨w3,c8⟩:∃w3,w3=w2.alloc (.cells #[.slice Q N O,.slice L N K,.slice I N F] 28):=⟨_,rfl⟩;rw[<-c8,e7];have e4:=AB (show Sr g a len cap B w3 by rw[c8];exact(C.AA.s.below e8).alloc _);have b9:=AB (show PX B.heap.size N w3 X (.slice Q N O) (.slice L N K) (.slice I N F) by rw[c8,<-e7];exact Iq e3 AV e8.size);have h8:¬X=g0+1:=by have h1:=C.AA.s1;have h2:=b9.AA.2.1;omega
 clear e3 e8 e7 c8 p0 p1 p2;have HE:=AB (λ(W:World) (hS:Sr g a len cap B W) (hP:PX B.heap.size N W X (.slice Q N O) (.slice L N K) (.slice I N F))=>h3.AA _ _ (C.AA.fin hS HN.AA hP.2.2));obtain⟨⟨S,U,Y⟩,-⟩:=Aa b9.AA.1;have Z:=b9.AA.lt;go_upto_region 4 with(go_at_call 68;refine(GX _ g a len cap B _ e4.AA).mono ?_;rintro e w4 ⟨i,rfl,hi,e9⟩;have d5:=AB (e4.AA.tr e9);have f3:=AB (GD b9.AA e9.2.2 J.AA);clear e9);have i2:i<=24:=by omega
 have q1:IntKind.i64.wrap ((N:Int)-1)=(N:Int)-1:=Ac _ (by omega);have q2:IntKind.i64.wrap ((N:Int)-1-(i:Int))=(N:Int)-1-(i:Int):=Ac _ (by omega);have q3:IntKind.i64.wrap ((i:Int)+1)=(i:Int)+1:=Ac _ (by omega);go_upto_region 5 with(go_at_call 68;refine(GX _ g a len cap B _ d5.AA).mono ?_;rintro e w5 ⟨k,rfl,hk,d8⟩;have u:=AB (d5.AA.tr d8);have b5:=AB (GD f3.AA d8.2.2 J.AA);have q4:IntKind.i64.wrap ((i:Int)+1+(k:Int))=(i:Int)+1+(k:Int):=(Ac _ (by omega));clear d8);obtain⟨j,hj⟩:∃j,i+1+k=j:=⟨_,rfl⟩;have f9:(i:Int)+1+(k:Int)=(j:Int):=by omega
 rw[f9];have f6:=AB (And.intro hi (And.intro hk hj));clear hi hk q4 S U Y Z e4 b9 d5 f3 hj f9;obtain⟨⟨S,U,Y⟩,-⟩:=Aa b5.AA.1;have Z:=b5.AA.lt;by_cases h6:N<=j
 .have g3:(N:Int)<=(j:Int):=by omega
  obtain⟨⟨e0,e1,e2⟩,f0,f1,f2⟩:=Aa (C.AA.k u.AA).1;have f4:=(C.AA.k u.AA).2;go_wp2_with fail;obtain⟨⟨z0,z1,z2⟩,-⟩:=Aa (Bi (x:=.slice Q N O) (y:=.slice L N K) (z:=.slice I N F) (C.AA.k u.AA).1);exact Au (v:=.agg #[.slice Q N O,.slice L N K,.slice I N F]) (by simp[results,Tryz.results70,go_sem,z0,z1,z2]) rfl (HE.AA _ u.AA b5.AA)
 .have g3:¬(N:Int)<=(j:Int):=by omega
  have g1:i<N:=by have:=f6.AA.2.2;omega
  go_upto_if 33 with(go_at_call 68;refine(GX _ g a len cap B _ u.AA).mono ?_;rintro e w6 ⟨r,rfl,hr,d6⟩;have a9:=AB (u.AA.tr d6);have b:=AB (GD b5.AA d6.2.2 J.AA);clear d6);clear S U Y Z hr u b5;have c7:j<N:=by omega
  have i1:(i:Int)<(N:Int):=by omega
  have i3:(j:Int)<(N:Int):=by omega
  by_cases h5:r=0
  .subst h5;have g4:=b;obtain⟨gp,u0,-, ep,p1,-, -, -, a6,b3,p⟩:=b.AA.2.2.2.1.at (JX g1);obtain⟨ar,cr,rfl,-⟩:=a6.len;obtain⟨gr,g7,xr,rfl,b8,c5,a5,rl⟩:=OY a6 c7;obtain⟨go,g8,o,eo,b6,c6,d4,-⟩:=OY b.AA.2.2.1 c7;obtain⟨o1,-, ol⟩:=OZ b6 c6;obtain⟨⟨S,U,Y⟩,-⟩:=Aa b.AA.1;have Z:=b.AA.lt;have a8:=AB (And.intro (Ah J.AA b3) (Ah J.AA a5));have b7:=AB (And.intro b8 c5);have e5:=AB a5;clear b6 c6 b8 c5 a6 b3 a5 d4 g4;go_wp2_with fail;go_cut [5] (λv W=>v= .pointer (some ⟨X,0,none⟩)/\Hid (PX B.heap.size N W X (.slice Q N O) (.slice L N K) (.slice I N F))/\Hid (Sr g a len cap B W));case first=>
    subst ep;subst eo;go_region_law
     (first|(go_simp;go_at_call 68;refine(GX _ g a len cap B _ (by first|exact a9.AA|exact Sr.drew a9.AA)).mono ?_;rintro e w8 ⟨r8,rfl,-, R⟩;have D:w6.grownBy w8 (some g):=(by first|exact R.2.2|exact PO R.2.2);have d9:=AB (show Sr g a len cap B w8 from Sr.next a9.AA R.1 D);have a4:=AB (GD b.AA D J.AA);have g2:=(kc D a8.AA.1 p i).trans p1;have h0:=Ah p D.size;have a0:=(kh D a8.AA.2 rl).trans b7.AA.1;obtain⟨k1,k2,g9⟩:=OZ a0 b7.AA.2;have d3:=AB a0;obtain⟨⟨b0,b1,b2⟩,-⟩:=Aa a4.AA.1;have g6:=a4.AA.lt;clear R D a0)|(fail))
    all_goals
     go_wp2_with fail;go_meet;exact⟨rfl,AB (PX.set1 a4.AA d3.AA _),AB (d9.AA.set C.AA.s e5.AA _)⟩
   case rest=>
    obtain⟨rfl,a7,V⟩:=hcut;rename World=>w9;clear p1 p rl o1 ol S U Y Z ep eo;obtain⟨⟨S,U,Y⟩,-⟩:=Aa a7.AA.1;have Z:=a7.AA.lt;obtain⟨⟨e0,e1,e2⟩,f0,f1,f2⟩:=Aa (C.AA.k V.AA).1;have f4:=(C.AA.k V.AA).2;go_wp2_with fail;obtain⟨⟨z0,z1,z2⟩,-⟩:=Aa (Bi (x:=.slice Q N O) (y:=.slice L N K) (z:=.slice I N F) (C.AA.k V.AA).1);exact Au (v:=.agg #[.slice Q N O,.slice L N K,.slice I N F]) (by simp[results,Tryz.results70,go_sem,z0,z1,z2]) rfl (HE.AA _ V.AA a7.AA)
  .have i4:((r:Int)==0)=false:=Hq.2 (by omega);go_upto_region 11 with(go_at_call 68;refine(GX _ g a len cap B _ a9.AA).mono ?_;rintro e w7 ⟨m,rfl,hm,e6⟩;have d7:=AB (a9.AA.tr e6);have c0:=AB (GD b.AA e6.2.2 J.AA);have q4:IntKind.i64.wrap ((i:Int)+1+(m:Int))=(i:Int)+1+(m:Int):=(Ac _ (by omega));clear e6);have i5:i+1+m<N:=by have:=f6.AA;omega
   obtain⟨q,hq⟩:∃q,i+1+m=q:=⟨_,rfl⟩;have f5:(i:Int)+1+(m:Int)=(q:Int):=by omega
   rw[f5];have q5:IntKind.i64.wrap ((q:Int)-(i:Int))=(q:Int)-(i:Int):=Ac _ (by omega);have q6:IntKind.i64.wrap ((q:Int)-(i:Int)-1)=(m:Int):=by rw[Ac _ (by omega)];omega
   obtain⟨ln,f8⟩:∃ln,N-(i+1)=ln:=⟨_,rfl⟩;have g5:m<ln:=by omega
   have h9:(m:Int)<(ln:Int):=by omega
   obtain⟨gc,uc,ec,s1,c4,f7,sl⟩:=c0.AA.2.2.2.2.at (MH g1);obtain⟨ac,cc,rfl,-⟩:=c4.form;rw[Bp]at s1 c4;rw[f8]at s1 c4;obtain⟨gp,u0,-, ep,p1,-, -, -, a6,b3,p⟩:=c4.at (JX g5);obtain⟨ar,cr,rfl,-⟩:=a6.len;obtain⟨gr,g7,xr,rfl,b8,c5,a5,rl⟩:=OY a6 c7;obtain⟨go,g8,o,eo,b6,c6,d4,-⟩:=OY c0.AA.2.2.1 c7;subst ep;obtain⟨o1,-, ol⟩:=OZ b6 c6;obtain⟨⟨S,U,Y⟩,-⟩:=Aa c0.AA.1;have Z:=c0.AA.lt;have a8:=AB (And.intro (Ah J.AA b3) (And.intro (Ah J.AA a5) (Ah J.AA f7)));have b7:=AB (And.intro b8 c5);have e5:=AB a5;clear b6 c6 b8 c5 a6 b3 a5 d4 c4 f7 hm a9 b q4 hq f5 f8;go_upto_region 11 with fail;go_cut [5] (λv W=>v= .pointer (some ⟨X,0,none⟩)/\Hid (PX B.heap.size N W X (.slice Q N O) (.slice L N K) (.slice I N F))/\Hid (Sr g a len cap B W));case first=>
    subst ec;subst eo;go_region_law
     (first|(go_simp;go_at_call 68;refine(GX _ g a len cap B _ (by first|exact d7.AA|exact Sr.drew d7.AA)).mono ?_;rintro e w8 ⟨r8,rfl,-, R⟩;have D:w7.grownBy w8 (some g):=(by first|exact R.2.2|exact PO R.2.2);have d9:=AB (show Sr g a len cap B w8 from Sr.next d7.AA R.1 D);have a4:=AB (GD c0.AA D J.AA);have i0:=(kc D a8.AA.2.2 sl i).trans s1;have h7:=Ah sl D.size;have g2:=(kc D a8.AA.1 p m).trans p1;have h0:=Ah p D.size;have a0:=(kh D a8.AA.2.1 rl).trans b7.AA.1;obtain⟨k1,k2,g9⟩:=OZ a0 b7.AA.2;have d3:=AB a0;obtain⟨⟨b0,b1,b2⟩,-⟩:=Aa a4.AA.1;have g6:=a4.AA.lt;clear R D a0)|(fail))
    all_goals
     go_wp2_with fail;go_meet;exact⟨rfl,AB (PX.set1 a4.AA d3.AA _),AB (d9.AA.set C.AA.s e5.AA _)⟩
   case rest=>
    obtain⟨rfl,a7,V⟩:=hcut;rename World=>w9;clear s1 sl p1 p rl o1 ol S U Y Z ec eo q5 q6;obtain⟨⟨S,U,Y⟩,-⟩:=Aa a7.AA.1;have Z:=a7.AA.lt;obtain⟨⟨e0,e1,e2⟩,f0,f1,f2⟩:=Aa (C.AA.k V.AA).1;have f4:=(C.AA.k V.AA).2;go_wp2_with fail;obtain⟨⟨z0,z1,z2⟩,-⟩:=Aa (Bi (x:=.slice Q N O) (y:=.slice L N K) (z:=.slice I N F) (C.AA.k V.AA).1);exact Au (v:=.agg #[.slice Q N O,.slice L N K,.slice I N F]) (by simp[results,Tryz.results70,go_sem,z0,z1,z2]) rfl (HE.AA _ V.AA a7.AA)
end Ot
namespace QV
open RowKit AJ Val Bv Bl Ch Cr Bj EH QX KM KN Ih KL NI Ot
def Jo (g:Nat)(a:Option Addr)(len cap:Nat)(w:World)(e:Ending)(w':World):Prop:=∃(N K L:Option Addr) (F J C I B D:Nat),e= .returned (.agg #[.slice N F I,.slice K J B,.slice L C D])/\PA w.heap.size w' (.slice N F I) (.slice K J B) (.slice L C D)/\Sr g a len cap w w'
theorem Jo.of {b g len cap:Nat}{a:Option Addr}{w w':World}{e:Ending}(C:b<=100)(h:MB.Ij b g a len cap w e w'):Jo g a len cap w e w':=by
 obtain⟨N,O,Q,L,K,I,J,F,rfl,B,D⟩:=h;exact⟨_,_,_,_,_,_,_,_,_,rfl,PA.of (Ae F C) B,D⟩
theorem Jo.al {g len cap:Nat}{a:Option Addr}{w w':World}{e:Ending}{o:Obj}(B:Sr g a len cap w w)(h:Jo g a len cap (w.alloc o) e w'):Jo g a len cap w e w':=by
 obtain⟨N,R,L,O,Q,I,K,F,J,rfl,C,D⟩:=h;exact⟨_,_,_,_,_,_,_,_,_,rfl,PA.mono C (by simp),(B.alloc o).tr D⟩
def fM (B:Nat)(w:World)(g:Nat)(x y z:Value):Prop:=w.heap[g]?=some (.cells #[x,y,z] 28 (0,0))/\B<=g/\PA B w x y z
abbrev IC (B:Nat)(w:World)(g:Nat):Prop:=∃L J K O N F C I D,fM B w g (.slice L J K) (.slice O N F) (.slice C I D)
theorem IC.of {B n g I D F:Nat}{L J K:Option Addr}{w:World}(C:n<=100)(h:PX B n w g (.slice L n I) (.slice J n D) (.slice K n F)):IC B w g:=⟨_,_,_,_,_,_,_,_,_,h.1,h.2.1,PA.of C h.2.2⟩
theorem PX.lt' {B:Nat}{w:World}{g:Nat}{x y z:Value}(h:fM B w g x y z):g<w.heap.size:=(Bt.1 h.1).1
theorem Za {w:World}{g b i:Nat}{x y z u:Value}(h:w.heap[g]?=some (.cells #[x,y,z] 28 (0,0)))(B:g≠b):(w.setCell ⟨b,i,none⟩ u).heap[g]?=some (.cells #[x,y,z] 28 (0,0)):=
 (JA w ⟨b,i,none⟩ g u B).trans h
theorem Eg.JF {B g:Nat}{w:World}{a b c x y z:Value}(h:w.heap[g]?=some (.cells #[a,b,c] 28 (0,0))):Eg B w (((w.setCell ⟨g,0,none⟩ x).setCell ⟨g,1,none⟩ y).setCell ⟨g,2,none⟩ z):=by
 have C:(w.setCell ⟨g,0,none⟩ x).heap[g]?=some (.cells #[x,b,c] 28 (0,0)):=Gf w g 0 _ _ _ h;have e2:((w.setCell ⟨g,0,none⟩ x).setCell ⟨g,1,none⟩ y).heap[g]?=some (.cells #[x,y,c] 28 (0,0)):=Gf _ g 1 _ _ _ C;exact((Eg.other h (by decide) (by decide) (by decide)).trans (Eg.other C (by decide) (by decide) (by decide))).trans (Eg.other e2 (by decide) (by decide) (by decide))
theorem su {B n g b i I D F:Nat}{K Q J:Option Addr}{w:World}{O:Array Value}{u:Value}(L:n<=100)(h:PX B n w g (.slice K n I) (.slice Q n D) (.slice J n F))(C:w.heap[b]?=some (.cells O 24 (0,0)))(N:A1 B w u):IC B (w.setCell ⟨b,i,none⟩ u) g:=
 ⟨_,_,_,_,_,_,_,_,_,Za h.1 (λe=>by rw[<-e,h.1]at C;simp at C),h.2.1,PA.ty (PA.of L h.2.2) (Eg.set2 C N)⟩
theorem Ns {B n g b i k L F I:Nat}{O U N:Option Addr}{w:World}{S:Array Value}{u:Value}(D:n<=100)(h:PX B n w g (.slice O n L) (.slice U n F) (.slice N n I))(C:w.heap[b]?=some (.cells S 25 (0,0)))(Q:A2 B w k u):IC B (w.setCell ⟨b,i,none⟩ u) g:=by
 obtain⟨K,J⟩:=(PA.of D h.2.2).2.2;exact⟨_,_,_,_,_,_,_,_,_,Za h.1 (λe=>by rw[<-e,h.1]at C;simp at C),h.2.1,⟨_,D,h.2.2.1.other C (by decide)⟩,⟨_,A2.of (h.2.2.2.1.other C (by decide) (by decide)) λm R=>by rw[(GL.1 R).2];exact D⟩,A3.NC C Q J⟩
theorem tC {B n m g c I D F:Nat}{L S K o:Option Addr}{w w':World}(N:n<=100)(Q:m<=100)(h:PX B n w g (.slice L n I) (.slice S n D) (.slice K n F))(J:w'.heap[g]?=w.heap[g]?)(R:Ty B w w')(O:R1 B w' m (.slice o m c)):IC B (w'.setCell ⟨g,0,none⟩ (.slice o m c)) g:=by
 have hg:=J.trans h.1;have t:=Eg.other (B:=B) (i:=0) (c:=.slice o m c) hg (by decide) (by decide) (by decide);have C:=PA.of N (h.2.2.ty R);exact⟨_,_,_,_,_,_,_,_,_,Gf w' g 0 _ _ _ hg,h.2.1,t.one _ ⟨_,Q,O⟩,C.2.1.imp λk h=>t.two k _ h,C.2.2.imp λk h=>t.three k _ h⟩
theorem Bx.SV {g len cap B O C F J D I:Nat}{a N Q L:Option Addr}{w K W:World}(h:Bx g a len cap w K B)(R:Sr g a len cap K W)(S:PA K.heap.size W (.slice N O J) (.slice Q C D) (.slice L F I)):
  Jo g a len cap w (.returned (.agg #[.slice N O J,.slice Q C D,.slice L F I])) (((W.setCell ⟨B,0,none⟩ (.slice N O J)).setCell ⟨B,1,none⟩ (.slice Q C D)).setCell ⟨B,2,none⟩ (.slice L F I)):=
 ⟨_,_,_,_,_,_,_,_,_,rfl,PA.mono (PA.ty S (Eg.JF (h.k R).1)) (by rw[h.s1,h.z];omega),h.sr R _ _ _⟩
theorem Yt {w w':World}{x:Int}(h:Below (w.alloc (.cells #[.int .i64 x] 2)).heap.size (w.alloc (.cells #[.int .i64 x] 2)) w'):w'.cell? ⟨w.heap.size,0,none⟩=some (.int .i64 x):=by
 rw[(AO (S:=Any) h).cell trivial (by simp),Ar _ _ _ _ _ (0,0) (Aj _ _)];rfl
theorem Yu (w:World)(x:Int):(w.alloc (.cells #[.int .i64 x] 2)).cell? ⟨w.heap.size,0,none⟩=some (.int .i64 x):=by
 rw[Ar _ _ _ _ _ (0,0) (Aj _ _)];rfl
theorem vg (L:List Int)(m:Nat)(O:L.length=m)(K:2<=m)(F:m<=12)(g:Nat)(a:Option Addr)(len cap:Nat)(w W V:World)(h:Sr g a len cap w W)(J:V=W.alloc (MB.o1 L)\/V=(W.alloc (MB.o1 L)).drew\/V=W.drew.alloc (MB.o1 L)):
  Calls Tryz.prog 127 #[.pointer (some ⟨g,0,none⟩),.slice (some ⟨W.heap.size,0,none⟩) m m] V λe B=>∃x:Int,x∈L/\e= .returned (.int .i64 x)/\Bl.Src B g a len cap/\W.grownBy B (some g):=by
 subst O;have C:∀V:World,Keep (λk=>k≠g) (W.alloc (MB.o1 L)) V->Sr g a len cap w V->W.grownBy V (some g)->Calls Tryz.prog 127 #[.pointer (some ⟨g,0,none⟩),.slice (some ⟨W.heap.size,0,none⟩) L.length L.length] V λe B=>∃x:Int,x∈L/\e= .returned (.int .i64 x)/\Bl.Src B g a len cap/\W.grownBy B (some g):=λV R D hg=>by
  refine(Xl L _ rfl K F V W.heap.size g a len cap ((ZQ h.lt (by omega)).keep R) D.1 D.2.1).mono ?_;rintro e B ⟨x,I,rfl,N,Q⟩;exact⟨x,I,rfl,N,Jd hg Q⟩
 rcases J with rfl|rfl|rfl
 .exact C _ AL (h.alloc _) (Ch.Il _ _ _)
 .exact C _ AL.drew (h.alloc _).drew (Ju (Ch.Il _ _ _))
 .exact C _ AL.drew (h.drew.alloc _) (Ju (Ch.Il _ _ _))
theorem XI {F:Array Oper}{o:Oper}{a:Act}{w:World}{K:Act->World->Prop}{Q:Exit->Act->World->Prop}{E:Prop}(R:o.guard=none)(s x:Operand)
  (Z:o.op= .call { callee:=.builtin .append,args:= #[s,x],argTypes:= #[24,24] }) (base n g c:Nat) (v:Value) (D:List Value) (y:Int) (L:a.eval s=v) (N:w.ownsRow base 2 1 v n D)
  (U:a.eval x= .slice (some ⟨g,0,none⟩) 1 c) (O:w.cell? ⟨g,0,none⟩=some (.int .i64 y)) (W:n+1<=1000000) (Y:base<=w.heap.size)
  (h:∀C w',w'.ownsRow base 2 1 C (n+1) (D++[.int .i64 y])->w.grownBy w' v.ownBlock->(∀B,Ty B w w')->K (a.put o.dst C) w'):
  if Region.wanted o (yielded F a.tmps)=true then Oper.wp Tryz.prog o a w K Q else E:=by
 have I:Region.wanted o (yielded F a.tmps)=true:=by simp[Region.wanted,R]
 rw[BQ I];obtain⟨C,w',S,V,X,J⟩:=ZZ w base o.type n v D N g c y O W Y;unfold Oper.wp execOp;simp only[Z,resolve,invoke,builtin,Sem.run_bind,Sem.run_pure,Mc,Mf,FC,Jb,L,U,S];exact h C w' V X J
def C6 (w W:World)(n m:Nat)(v:Value):Prop:=Below w.heap.size w W/\∃us:List Value,W.ownsRow w.heap.size 24 1 v n us/\∀(i:Nat) u,us[i]?=some u->R1 w.heap.size W m u
theorem C6.alloc {w W:World}{n m:Nat}{v:Value}(h:C6 w W n m v)(o:Obj):C6 w (W.alloc o) n m v:=by
 obtain⟨B,us,C,D⟩:=h;exact⟨B.alloc B.size _,us,Aw C (S:=Any) ((Keep.refl _ W).alloc _) (λ_ _=>trivial),λi u F=>(Ty.keep (S:=Any) ((Keep.refl _ W).alloc _) λ_ _=>trivial).one _ _ (D i u F)⟩
theorem OG (w V:World)(n m:Nat)(a:Option Addr)(c:Nat)(O:n<=100)(R:m<=100)(C:Below w.heap.size w V)(N:R2 0 w (List.replicate n m) (.slice a n c)):
  Calls Tryz.prog 100 #[.slice a n c] V λe W=>∃F B,e= .returned (.slice F n B)/\C6 w W n m (.slice F n B)/\Keep Any V W:=by
 refine(Rh n m O R a c V ((Ty.below C).two _ _ N)).mono ?_;rintro e W ⟨F,B,rfl,L,J⟩;obtain⟨us,I,Q⟩:=L.mono C.size;rw[Bp]at I;refine⟨F,B,rfl,⟨C.trans (J.mono C.size),us,I,λi u K=>?_⟩,AO J⟩;obtain⟨S,D,e2⟩:=Q i m (JX (by have:=(Ak.1 K).1;have:=I.1;omega));rw[K]at D;injection D with D;rw[D];exact e2
theorem NW {X:Array Oper}{o:Oper}{a:Act}{w U:World}{K:Act->World->Prop}{Q:Exit->Act->World->Prop}{E:Prop}(g:o.guard=none)(s x:Operand)
  (r:o.op= .call { callee:=.builtin .append,args:= #[s,x],argTypes:= #[25,25] }) (n m O F:Nat) (I:Option Addr) (J:Nat) (v:n<=100) (Y:a.eval s= .slice I n J) (V:C6 w U n m (.slice I n J))
  (j:a.eval x= .slice (some ⟨O,0,none⟩) 1 1) (p:U.heap[O]?=some (.cells #[Es m F] 24 (0,0))) (i:R1 w.heap.size U m (Es m F))
  (h:∀D C B,Below w.heap.size w B->R2 w.heap.size B (List.replicate (n+1) m) (.slice (some ⟨D,0,none⟩) (n+1) C)->K (a.put o.dst (.slice (some ⟨D,0,none⟩) (n+1) C)) B):
  if Region.wanted o (yielded X a.tmps)=true then Oper.wp Tryz.prog o a U K Q else E:=by
 obtain⟨N,us,L,l⟩:=V;obtain⟨u,S,b,Z,d⟩:=Bd GJ;refine Ja _ g _ _ _ r w.heap.size 24 u (.slice none 0 0) 1 24 Tryz.underlying25 S b Z d rfl (by omega) (.slice I n J) n us Y L ⟨O,0,none⟩ 1 1 [Es m F] j rfl (Cw (cs:= #[Es m F]) (t:=24) (fr:=(0,0)) p) (by simp[Value.oneCell']) (by omega) (by unfold maxLen;omega) (by omega) N.size _ rfl ?_;intro D C B W R _ _;exact h D C B (N.grown R N.size λq e=>(Aq L q e).1) (R2.push L l i W R)
theorem Oi {w V W:World}{N:Nat}(O:N<=100)(L:Keep Any V W)(I:w.heap.size<V.heap.size)(h:V.heap[w.heap.size]?=(w.alloc (.cells (madeCells #[.int .i64 0] N) 2)).heap[w.heap.size]?):R1 w.heap.size W N (Es N w.heap.size):=by
 refine⟨List.replicate N 0,by simp,?_⟩;have C:=Own.made (B:=w.heap.size) w N AV (by unfold maxLen;omega);unfold Own at C;rw[Bp]at C;refine⟨C.1,?_⟩;rcases C.2 with F|⟨g,cap,K,e,J,hg,r⟩
 .exact .inl F
 .refine .inr ⟨g,cap,K,e,J,?_,r⟩;have D:=Ck Value.ownBlock e;simp[Value.ownBlock]at D;subst D;rw[L.block _ trivial I,h];exact hg
theorem vI (B:Nat)(w:World)(n:Nat)(C:B<=w.heap.size)(D:n<=100):R1 B (w.alloc (.cells (madeCells #[.int .i64 0] n) 2)) n (Es n w.heap.size):=
 ⟨List.replicate n 0,by simp,by
  have h:=Own.made (B:=B) w n C (by unfold maxLen;omega);unfold Own at h;rw[Bp]at h;exact h⟩
theorem VV {B n:Nat}{w w':World}{v:Value}(h:R1 B w n v)(C:Keep Any w w'):R1 B w' n v:=(Ty.keep C λ_ _=>trivial).one _ _ h
theorem tF {B n c:Nat}{e:TypeId}{w:World}{a:Option Addr}{us:List Value}(h:w.ownsRow B e 1 (.slice a n c) n us)(I:0<n):∃b D,a=some ⟨b,0,none⟩/\w.heap[b]?=some (.cells D e (0,0))/\B<=b:=by
 rcases id h.2 with⟨C,J⟩|⟨g,cap,D,C,F,hg,_⟩
 .omega
 .simp only[Du]at C;exact⟨g,D,C.1,hg,F⟩
end QV
end Go.Proofs.YtgjadpmbnejaoaaGreat
