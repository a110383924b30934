import Derived.Test.YtgjadpmbnejaoaaGreatZF
/-
  Lemmas for the law FnAutomorphisms, in short spelling.
-/
set_option linter.unusedVariables false
set_option linter.unusedSimpArgs false
set_option maxRecDepth 100000
set_option maxHeartbeats 40000000
namespace Go.Proofs.YtgjadpmbnejaoaaGreat
namespace dV
section
open RowKit AJ Bv Bl Ch Sy
theorem iQ (w:World)(a:Option Addr)(len cap:Nat)(q:len<=4096)(R:KO w a len):Calls Tryz.prog 14 #[.slice a len cap,.int .u64 14] w (Z0 a len cap w):=by
 have j:=AB R;obtain⟨g,hg⟩:∃g,w.heap.size=g:=⟨_,rfl⟩;have X:IntKind.u64.wrap (14*7607)=106498:=by decide
 have V:IntKind.u64.wrap (len:Int)=(len:Int):=IntWalk.u64_in _ (by omega);have u:IntKind.u64.wrap (106498+(len:Int))=106498+(len:Int):=IntWalk.u64_in _ (by omega);obtain⟨F,I⟩:∃F,F=w.alloc (.cells #[.slice a len cap,.int .i64 0,.int .u64 (106498+(len:Int))] 65):=⟨_,rfl⟩;have d:=AB (show Eu F g a len cap 0 (106498+(len:Int)) by rw[I,<-hg];exact Aj _ _);have Y:=AB (show Below w.heap.size w F by rw[I];exact AY.alloc AV _);have r:=AB q;have N:=AB hg;have a3:(len:Int)<=9223372036854775807:=by omega
 clear R hg;go_enter Tryz.func14,Tryz.ntmps14;go_upto_region 2 with fail;rw[<-I];rw[N.AA];clear I X V u;go_wp2_with fail;go_loopw [6] (λO wr=>∃(i:Nat) (h:Int),i<=len/\O= .int .i64 (i:Int)/\Hid (Eu wr g a len cap 0 h)/\Hid (Below w.heap.size w wr)) (λO _=>len-(intOf O).toNat);case atStart=>exact⟨0,_,AX _,rfl,d,Y⟩
 case round=>
  obtain⟨i,h,hi,rfl,D,C⟩:=hrel;by_cases Q:i<len
  .have a4:(i:Int)<(len:Int):=by omega
   have x:(0:Int)<=(i:Int):=by omega
   obtain⟨⟨c0,c1,c2⟩,f1,f2,a6⟩:=D.AA.cells;obtain⟨b,o,z,rfl,J,U,l⟩:=j.AA i Q;have a1:=((AO (S:=λ_=>True) C.AA).cell (b:=b) (o:=o+i) trivial J).trans U;have a5:=Ah J C.AA.size;obtain⟨L,a0⟩:∃L,IntKind.u64.wrap (h*1099511628211)=L:=⟨_,rfl⟩;obtain⟨K,a2⟩:∃K,IntKind.u64.wrap (L+(z:Int))=K:=⟨_,rfl⟩;obtain⟨B,y⟩:∃B,IntKind.u64.wrap (K+5)=B:=⟨_,rfl⟩;have v:IntKind.u64.wrap (z:Int)=(z:Int):=IntWalk.u64_in _ (by omega);have W:=AB (show Eu ((wr.setCell ⟨g,2,none⟩ (.int .u64 B)).drew) g (some ⟨b,o,none⟩) len cap 0 B from(D.AA.set2 B).drew);have Z:=AB (show Below w.heap.size w ((wr.setCell ⟨g,2,none⟩ (.int .u64 B)).drew) from(C.AA.setCell (p:=⟨g,2,none⟩) (by rw[N.AA];exact Al _) _).drew);clear U J D C l;go_wp2_with fail;go_region_law (fail);all_goals
    go_wp2_with fail;go_roundw;case rel=>exact⟨i+1,B,by omega,by go_num,W,Z⟩
    case measure=>simp[intOf]<;>omega
  .obtain rfl:i=len:=by omega
   have s:=AB (show Z0 a i cap w (.returned (.pointer (some ⟨g,0,none⟩))) wr from⟨g,rfl,by rw[N.AA];exact Al _,⟨0,h,D.AA,AX _,r.AA⟩,C.AA⟩);clear D C Q;go_wp2_with fail;go_ret;exact s.AA
end
open RowKit AJ Val BN CL Ch GK Dk EF Gj IA Gm ek fC Sy Su
open BU(Any)
open Bj(Aa)
theorem qE (a:Option Addr)(len cap:Nat)(w:World):Calls Tryz.prog 5 #[.slice a len cap] w (λe w'=>e= .returned (.bool (decide (4096<len)))/\w'=w):=by
 by_cases h:4096<len
 .have B:(len:Int)>4096:=by omega
  rw[ET h];go_enter Tryz.func5,Tryz.ntmps5;go_wp2_with fail;go_ret;exact⟨rfl,rfl⟩
 .have B:¬(len:Int)>4096:=by omega
  rw[ED h];go_enter Tryz.func5,Tryz.ntmps5;go_wp2_with fail;go_ret;exact⟨rfl,rfl⟩
theorem Yf (w:World)(C B:Value)(l:List (List Int))(ha:AQ Any w C l)(D:AQ Any w B l):Calls Tryz.prog 9 #[C,B] w (Sw.Jn true w):=by
 have h:=Sw.qD w C B l l ha D;rwa[ET rfl]at h
theorem lU {w w':World}{a:Option Addr}{len:Nat}(h:Ch.KO w a len)(C:Below w.heap.size w w'):Ch.KO w' a len:=λi hi=>by
 obtain⟨b,o,z,F,B,D,I⟩:=h i hi;exact⟨b,o,z,F,Ah B C.size,by rw[(AO (S:=Any) C).cell trivial B];exact D,I⟩
def Yes (w:World)(e:Ending)(w':World):Prop:=e= .returned (.bool true)/\Below w.heap.size w w'
theorem law (a:Option Addr)(len cap:Nat)(w:World)(hR:KO w a len):
  Calls Tryz.prog 3 #[.slice a len cap] w (Yes w):=by
 have a9:=AB (qE a len cap w);by_cases b9:4096<len
 .rw[ET b9]at a9;clear hR b9;go_enter Tryz.func3,Tryz.ntmps3;go_wp2_with (go_at_call 5;refine a9.AA.mono ?_;rintro e w1 ⟨rfl,rfl⟩);go_ret;exact⟨rfl,BB _ _⟩
 .rw[ED b9]at a9;have e8:len<=4096:=by omega
  have o4:=AB (pY w a len cap e8 hR);have n5:=AB e8;clear b9 e8;go_enter Tryz.func3,Tryz.ntmps3;go_upto_region 4 with(first|(go_at_call 5;refine a9.AA.mono ?_;rintro e w1 ⟨rfl,f8⟩;have o0:=AB f8;clear f8)|(go_at_call 6;rw[o0.AA];refine o4.AA.mono ?_;rintro e w2 ⟨x1,x2,x3,aA,aV,j,n2,n3,y1,y2,y3,nA,cA,nV,cV,P,la,lb,rfl,hP,hA,hX,c9⟩));obtain⟨g,hg⟩:∃g,w2.heap.size=g:=⟨_,rfl⟩;obtain⟨U,a4⟩:∃U,U=w2.alloc (.cells #[.slice x1 j y1,.slice x2 n2 y2,.slice x3 n3 y3] 28):=⟨_,rfl⟩;have b:Below w2.heap.size w2 U:=by rw[a4];exact AY.alloc AV _
  have m9:U.heap.size=g+1:=by rw[a4,<-hg];simp
  have f6:U.heap[g]?=some (.cells #[.slice x1 j y1,.slice x2 n2 y2,.slice x3 n3 y3] 28 (0,0)):=by rw[a4,<-hg];exact Aj w2 _
  have a2:Below w.heap.size w U:=c9.trans (b.mono c9.size);have Y:=AB (λ(W:World) (Q:Below U.heap.size U W)=>And.intro (Aa ((Q.block g (by omega)).trans f6)).1 (And.intro (show g<W.heap.size by have:=Q.size;omega) (And.intro (a2.trans (Q.mono a2.size)) (And.intro
   ((hP.keep (AO (S:=Any) b)).keep (AO (S:=Any) Q)) (And.intro (AQ.keep (AQ.keep hA (AO (S:=Any) b)) (AO (S:=Any) Q)) (And.intro (AQ.keep (AQ.keep hX (AO (S:=Any) b)) (AO (S:=Any) Q)) (lU hR (a2.trans (Q.mono a2.size)))))))))
  rw[<-a4,hg];clear a4 hg b f6 m9 a2 hP hA hX c9 hR;obtain⟨⟨O,K,J⟩,I,-, B,C,D,-⟩:=Y.AA U AY;have g0:=AB (Gm.WN U _ _ _ _ _ P la lb B C D);clear B C D;go_upto_region 5 with(go_at_call 7;refine g0.AA.mono ?_;rintro e w4 ⟨aC,nC,cC,k,r0,rfl,u,he,d8⟩;have HC:=AB u;have l9:=AB he;have i8:=AB d8;obtain⟨⟨O,K,J⟩,I,-, B,C,D,-⟩:=Y.AA w4 d8);have g9:=AB (eH.gQ w4 _ _ _ _ _ P la lb B C D);clear u he d8 B C D g0;go_upto_region 6 with(go_at_call 8;refine g9.AA.mono ?_;rintro e w5 ⟨aS,nS,cS,k',q2,rfl,u,g1,d6⟩;obtain⟨rfl,rfl⟩:=And.intro (Yd HC.AA u).1.symm (Yd HC.AA u).2.symm;have h0:=i8.AA.trans (d6.mono i8.AA.size);have j3:=AB h0;have d2:=AB (AQ.keep l9.AA (AO (S:=Any) d6));have a0:=AB (Yf w5 (.slice aC nC cC) (.slice aS nS cS) _ d2.AA g1);clear g1 u d6 h0);have e2:(k !=k)=false:=by simp
  clear g9 l9;go_upto_region 8 with(go_at_call 9;refine a0.AA.mono ?_;rintro e w6 ⟨rfl,e6⟩;have a5:=AB (j3.AA.trans (e6.mono j3.AA.size));have d3:=AB (AQ.keep d2.AA (AO (S:=Any) e6));clear e6);have o2:=AB (Y.AA w6 a5.AA).2.2.1;clear a0 d2 O K J I;by_cases p:k=0
  .subst p;obtain⟨T,Z,y0,rfl,rfl,rfl,gT,i7,f9,k2,p5⟩:=qB HC.AA;subst p5;obtain⟨hT,j5,m4,i5⟩:=EM.FJ gT;have F:=AB (And.intro hT (And.intro j5 (And.intro m4 (And.intro i5 gT))));have X:=AB (And.intro i7 (And.intro f9 k2));obtain⟨⟨O,K,J⟩,I,-, B,C,D,-⟩:=Y.AA w6 a5.AA;have g3:=AB (Sn.O7 w6 _ _ _ _ (AZ T) (Z.map ints) B C);clear B C D hT j5 m4 i5 gT i7 f9 k2 HC;go_upto_region 11 with(go_at_call 10;refine g3.AA.mono ?_;rintro e w7 ⟨aB,nB,cB,k7,q3,rfl,h7,i9,f3⟩;obtain⟨rfl,q,hq,rfl⟩:=pu F.AA.2.2.2.2 X.AA.1 h7;have HQ:=AB hq;have d1:=AB (a5.AA.trans (f3.mono a5.AA.size));have i6:=AB (AQ.keep d3.AA (AO (S:=Any) f3));have m3:=AB i9;obtain⟨⟨O,K,J⟩,I,-, B,C,D,-⟩:=Y.AA w7 d1.AA;clear h7 i9 f3 hq);have k1:=AB (Gm.WN w7 _ _ _ _ _ (AZ T) (Z.map ints) ((pw T Z q).map ints) B C m3.AA);clear B C D g3 d3;go_upto_region 12 with(go_at_call 7;refine k1.AA.mono ?_;rintro e w8 ⟨aF,nF,cF,k8,r1,rfl,h8,g4,d9⟩;obtain⟨rfl,rfl⟩:=lT F.AA.2.2.2.2 X.AA.1 HQ.AA h8;have d0:=AB (d1.AA.trans (d9.mono d1.AA.size));have j9:=AB (AQ.keep i6.AA (AO (S:=Any) d9));have l3:=AB g4;obtain⟨⟨O,K,J⟩,I,-, B,C,D,-⟩:=Y.AA w8 d0.AA;clear h8 g4 d9);have i4:=AB (Sn.Gs w8 _ _ _ _ (AZ T) (Z.map ints) B C);clear B C D k1 i6 m3;go_upto_region 13 with(go_at_call 11;refine i4.AA.mono ?_;rintro e w9 ⟨n9,k9,rfl,h9,a7⟩;obtain⟨rfl,m,rfl,c8,y⟩:=pz F.AA.2.2.2.2 X.AA.1 h9;have HM:=AB (And.intro c8 y);have e0:=AB (d0.AA.trans (a7.mono d0.AA.size));have c6:=AB (AQ.keep j9.AA (AO (S:=Any) a7));have h6:=AB (AQ.keep l3.AA (AO (S:=Any) a7));obtain⟨⟨O,K,J⟩,I,-, B,C,D,-⟩:=Y.AA w9 e0.AA;clear h9 a7 c8 y);have g6:=AB (Df.MQ w9 _ _ _ _ (AZ T) ((cmp T Z y0).map ints) B c6.AA);have n0:=AB (show Cc (AZ T) ((cmp T Z y0).map ints) from⟨T,_,rfl,rfl,F.AA.2.2.2.2,X.AA.2.2⟩);have a8:=AB (show T.length=j/\j<=6 by
    obtain⟨_,_,e,_⟩:=Am.form B.os;injection e with _ e _;rw[Jv]at e;exact⟨e.symm,by have:=F.AA.2.1.1;omega⟩)
   have j4:=AB (λV=>Sv.iP j a8.AA.2 V);have p8:=AB (show Sv.JL j j=Az T by rw[<-a8.AA.1];rfl);have p7:((m:Int)<1)=False:=eq_false (by have:=HM.AA.1;omega);clear B C D i4 j9 l3;go_upto_region 15 with(first|(go_at_call 12;refine g6.AA.mono ?_;rintro e j0 ⟨r,rfl,hr,b7⟩;obtain rfl:r=true:=hr.2 n0.AA;have d5:=AB (e0.AA.trans (b7.mono e0.AA.size));have l6:=AB (AQ.keep c6.AA (AO (S:=Any) b7));have l2:=AB (AQ.keep h6.AA (AO (S:=Any) b7));obtain⟨⟨O,K,J⟩,I,-⟩:=Y.AA j0 d5.AA;clear hr b7)|(go_at_call 13;refine(j4.AA j0).mono ?_;rintro e n8 ⟨vu,rfl,hu,b3⟩;rw[p8.AA]at hu;have b4:=AQ.mono (S':=Any) hu.sl (λ_ _=>trivial);obtain⟨aU,cU,rfl,_,_⟩:=Am.form b4;obtain⟨nU,g2⟩:∃n,((Az T).map ints).length=n:=⟨_,rfl⟩;rw[g2]at b4 ⊢; have j1:=AB (d5.AA.trans (b3.mono d5.AA.size));have m5:=AB (AQ.keep l6.AA (AO (S:=Any) b3));have a0:=AB (Yf n8 (.slice aF nF cF) (.slice aU nU cU) _ (AQ.keep l2.AA (AO (S:=Any) b3)) b4);clear hu b4 b3 g2)|(go_at_call 9;refine a0.AA.mono ?_;rintro e c0 ⟨rfl,e1⟩;have e7:=AB (j1.AA.trans (e1.mono j1.AA.size));have n6:=AB (AQ.keep m5.AA (AO (S:=Any) e1));obtain⟨⟨O,K,J⟩,I,-, B,C,D,f1⟩:=Y.AA c0 e7.AA;clear e1));have l7:=AB (iQ c0 a len cap n5.AA f1);have p4:=AB B.os;have p3:=AB f1;clear B C D f1 a0 m5 l6 l2 c6 h6 g6 j4 p7;go_upto_region 16 with(go_at_call 14;refine l7.AA.mono ?_;rintro e l8 ⟨gd,rfl,f4,hD,m8⟩;have c2:=AB (And.intro f4 hD);have v:=AB m8;clear f4 hD m8);have R:=AB (λ(W:World) (Q:Below c0.heap.size c0 W)=>And.intro (Y.AA W (e7.AA.trans (Q.mono e7.AA.size))) (AQ.keep n6.AA (AO (S:=Any) Q)));have j8:=AB (UI T (λi L h=>by have:=F.AA.2.2.2.1 L (Af h);omega) j a8.AA.1 a8.AA.2 l8 gd a len cap x1 y1 (.slice x2 n2 y2) (.slice x3 n3 y3) c2.AA.2 (p3.AA.rd v.AA c2.AA.1) ((AP.mono (NH.Ps p4.AA) (by intro k p e;have h1:=c2.AA.1;have h2:=p.2;omega)).keep (AO v.AA)));clear O K J I l7;obtain⟨⟨⟨O,K,J⟩,I,-⟩,-⟩:=R.AA l8 v.AA;go_upto_region 17 with(go_at_call 15;refine j8.AA.mono ?_;rintro e e9 ⟨gv,cv,x,rfl,e3,k6,-, j6⟩;have f0:=AB (v.AA.grown j6 v.AA.size (by intro k p;cases p;exact c2.AA.1));obtain⟨nX,c5⟩:∃n,x.length=n:=⟨_,rfl⟩;rw[c5]at e3 ⊢; have HX:=AB (show AP Any e9 (.slice (some ⟨gv,0,none⟩) nX cv) (ints x) from EH.Gw e3 (by simp[ints,c5]));have b1:=AB k6;obtain⟨⟨⟨O,K,J⟩,I,-, B,C,D,-⟩,d⟩:=R.AA e9 f0.AA;clear e3 k6 j6 c5);have f7:=AB (Ls.Tn T F.AA.2.2.2.2 e9 _ _ _ _ _ (cmp T Z y0) x B d HX.AA X.AA.2.2 b1.AA);clear B C D d j8;go_upto_region 18 with(go_at_call 16;refine f7.AA.mono ?_;rintro e g8 ⟨aY,nY,cY,rfl,hy,d7⟩;rw[YL F.AA.1 F.AA.2.2.1 X.AA.1 X.AA.2.1]at hy;have g5:=AB hy;have e5:=AB (HX.AA.keep (AO (S:=Any) d7));have c4:=AB (f0.AA.trans (d7.mono f0.AA.size));obtain⟨⟨⟨O,K,J⟩,I,-, B,C,D,-⟩,d⟩:=R.AA g8 c4.AA;clear hy d7);have h3:=AB (Ls.Tn T F.AA.2.2.2.2 g8 _ _ _ _ _ Z x B C e5.AA X.AA.1 b1.AA);clear B C D d f7 HX;go_upto_region 19 with(go_at_call 16;refine h3.AA.mono ?_;rintro e m2 ⟨aZ,nZ,cZ,rfl,s,a6⟩;have m0:=AB s;have m1:=AB (g5.AA.keep (AO (S:=Any) a6));have h4:=AB (e5.AA.keep (AO (S:=Any) a6));have d4:=AB (c4.AA.trans (a6.mono c4.AA.size));obtain⟨⟨⟨O,K,J⟩,I,-, B,C,D,-⟩,d⟩:=R.AA m2 d4.AA;clear s a6);have i0:=AB (Ls.Tn T F.AA.2.2.2.2 m2 _ _ _ _ _ y0 (phi T Z x) B D m0.AA X.AA.2.1 (Vf.Ut F.AA.1 F.AA.2.2.1 X.AA.1 x));clear B C D d h3 e5 g5;go_upto_region 20 with(go_at_call 16;refine i0.AA.mono ?_;rintro e m7 ⟨n7,p6,n4,rfl,hv,b5⟩;have k4:=AB hv;have g7:=AB (m1.AA.keep (AO (S:=Any) b5));have m6:=AB (h4.AA.keep (AO (S:=Any) b5));have f2:=AB (d4.AA.trans (b5.mono d4.AA.size));obtain⟨⟨⟨O,K,J⟩,I,-, B,C,D,-⟩,d⟩:=R.AA m7 f2.AA;clear hv b5);have i3:=AB (dm.jR T F.AA.2.2.2.2 m7 _ _ _ _ x B m6.AA b1.AA);clear B C D d i0 h4 m1 m0;go_upto_region 21 with(go_at_call 17;refine i3.AA.mono ?_;rintro e c1 ⟨aI,nI,cI,rfl,hi,b2⟩;have o7:=AB hi;have l4:=AB (by have h:=Sw.Ye c1 (.slice aY nY cY) (.slice n7 p6 n4) _ _ (g7.AA.keep (AO (S:=Any) b2)) (k4.AA.keep (AO (S:=Any) b2));rw[ET rfl]at h;exact h);have l:=AB (f2.AA.trans (b2.mono f2.AA.size));obtain⟨⟨⟨O,K,J⟩,I,-⟩,-⟩:=R.AA c1 l.AA;clear hi b2);have p9:=AB (show Cc (AZ T) ((inn T x).map ints) from⟨T,_,rfl,rfl,F.AA.2.2.2.2,R4 F.AA.1 F.AA.2.2.1 b1.AA⟩);have l1:=AB (λ(W:World) (Q:Below c1.heap.size c1 W)=>Df.MQ W _ _ _ _ (AZ T) ((inn T x).map ints) (R.AA W (l.AA.trans (Q.mono l.AA.size))).1.2.2.2.1 (AQ.keep o7.AA (AO (S:=Any) Q)));clear i3 m6 g7 k4;go_upto_region 23 with(first|(go_at_call 18;refine l4.AA.mono ?_;rintro e h5 ⟨rfl,b6⟩;have j2:=AB b6;have o6:=AB (l1.AA h5 b6);obtain⟨⟨⟨O,K,J⟩,I,-⟩,-⟩:=R.AA h5 (l.AA.trans (b6.mono l.AA.size));clear b6)|(go_at_call 12;refine o6.AA.mono ?_;rintro e j7 ⟨r,rfl,hr,f5⟩;obtain rfl:r=true:=hr.2 p9.AA;have a3:=AB (l.AA.trans ((j2.AA.trans (f5.mono j2.AA.size)).mono l.AA.size));obtain⟨⟨⟨O,K,J⟩,I,-, B,-⟩,-⟩:=R.AA j7 a3.AA;clear hr f5));have b8:=AB (Sv.jZ T F.AA.2.2.2.2 j7 _ _ _ B);clear B l4 l1;obtain⟨z,s⟩:∃z,sz T=z:=⟨_,rfl⟩;have o3:=AB s;rw[s]at b8;clear s;by_cases l5:12<z
   .have hd:decide ((z:Int)>12)=true:=by simp;omega
    clear l5;go_wp2_with (go_at_call 19;refine b8.AA.mono ?_;rintro e b0 ⟨rfl,a1⟩;have HF:=AB (R.AA b0 (a3.AA.trans (a1.mono a3.AA.size))).1.2.2.1;clear a1);go_ret;exact⟨rfl,HF.AA⟩
   .have hd:decide ((z:Int)>12)=false:=by simp;omega
    have k3:=AB (show sz T<=12 from by have:=o3.AA;omega);clear l5;go_upto_region 25 with(go_at_call 19;refine b8.AA.mono ?_;rintro e b0 ⟨rfl,a1⟩;have e4:=AB (a3.AA.trans (a1.mono a3.AA.size));obtain⟨⟨⟨O,K,J⟩,I,-, B,-⟩,-⟩:=R.AA b0 e4.AA;clear a1);have k5:=AB (VE.jL b0 _ _ _ _ B);clear B b8 hd;go_upto_region 26 with(go_at_call 20;refine k5.AA.mono ?_;rintro e k0 ⟨q9,q5,rfl,l0,i1⟩;obtain⟨rfl,rfl⟩:=qA F.AA.2.2.2.2 (Ae k3.AA (by decide)) l0;have c3:=AB (e4.AA.trans (i1.mono e4.AA.size));obtain⟨⟨⟨O,K,J⟩,I,-, B,-⟩,-⟩:=R.AA k0 c3.AA;clear l0 i1);have c7:=AB (dx.gX T F.AA.2.2.2.2 (Ae k3.AA (by decide)) k0 _ _ _ B);obtain⟨N,hN⟩:∃N,(Bo T T T.length []).length=N:=⟨_,rfl⟩;have hM:=HM.AA;rw[hN]at c7 hM ⊢;obtain⟨c8,y⟩:=hM;clear B k5 hN;go_upto_region 27 with(go_at_call 21;refine c7.AA.mono ?_;rintro e o8 ⟨k,rfl,q7,i2,b⟩;have HF:=AB (R.AA o8 (c3.AA.trans (b.mono c3.AA.size))).1.2.2.1;clear b);have q0:(N:Int)%(k:Int)=0:=Int.emod_eq_zero_of_dvd (Int.natCast_dvd_natCast.2 i2);have q4:(N:Int)%(m:Int)=0:=Int.emod_eq_zero_of_dvd (Int.natCast_dvd_natCast.2 y);have o5:(k:Int)>0:=by omega
    have q6:¬k=0:=by omega
    have q8:¬m=0:=by omega
    have o9:((k:Int)==0)=false:=Hq.2 (by omega);have r2:((m:Int)==0)=false:=Hq.2 (by omega);have q1:decide ((k:Int)>0)=true:=ET o5;clear i2 y c7;go_wp2_with fail;go_ret;exact⟨rfl,HF.AA⟩
  .have o9:(k !=0)=true:=by simp[p]
   obtain⟨rfl,rfl⟩:=sM HC.AA p;obtain rfl:nC=0:=by
    obtain⟨_,_,e,_⟩:=Am.form d3.AA;injection e
   go_wp2_with fail;go_ret;exact⟨rfl,o2.AA⟩
end dV
namespace dU
open RowKit ChangeShapes
theorem WG {w:World}{a:Addr}{v:Value}(h:w.cell? a=some v):a=⟨a.block,a.off,none⟩/\a.block<w.heap.size:=by
 refine⟨?_,World.block_lt_of_cell? w a h⟩;unfold World.cell? at h;split at h
 .next c _ _ hb=>
  split at h
  .cases h
  .next hs=>
   cases a with
   |mk b o s=>
    cases s with
    |none=>rfl
    |some s=>simp at hs
 .cases h
section
variable {H:Type} {enc:TypeId×Value->H} {w:World} {base:Nat} {spare:Nat->Bool} {held:Bool}
theorem iT {α:Type}{E:World->Value->α->Prop}{S:Nat->Prop}{t e:TypeId}{p:Nat}{v:Value}{x:DataW H×List MemPlace}(R:Tryz.prog.underlying t=some (.slice e))(s:Tryz.prog.cellsOf e=1)(r:∀b,base<=b->S b)
  (d:∀(n:Nat) (u:Value) (y:DataW H×List MemPlace),DataW.trod enc Tryz.prog w base spare held n e [u]=some y->∃z:α,E w u z) (h:DataW.trod enc Tryz.prog w base spare held p t [v]=some x):∃l:List α,Am E S w v l:=by
 rcases Go.Deep.open_slice1 R s h with⟨B,_⟩|⟨a,len,cap,m,n,V,D,Pl,B,U,g,q,Q,rfl,C⟩
 .simp only[MZ,and_true]at B;subst B;exact⟨[],none,0,rfl,Al _,AX _,λ_=>rfl,λi x C=>by simp at C⟩
 .simp only[MZ,and_true]at B;subst B;have a0:len<=m:=by rw[Q];split<;>omega
  have J:∀i:Fin len,∃z,E w (V i.1) z:=λi=>d _ _ _ (C i.1 (by have:=i.2;omega)).2;refine⟨(List.finRange len).map λi=>Classical.choose (J i),some a,cap,by simp,by simpa using g,q,by simp,λi y K=>?_⟩;simp only[Bh,Hg]at K;obtain⟨j,N,rfl⟩:=K;have X:=(Ak.1 N).1;simp only[List.length_finRange]at X;have Y:j.1=i:=by
   have:=(Ak.1 N).2;rw[<-this];simp
  have F:=(C 0 (by omega)).1;rw[Addr.add_zero']at F;have L:=WG F;obtain⟨Z,W,a1⟩:=a;simp only[Hr,true_and]at L;obtain⟨rfl,O⟩:=L;have I:=(C i (by omega)).1;rw[addr_add]at I;refine⟨Z,W,rfl,r _ U,O,V i,I,?_⟩;rw[<-Y];exact Kk (J j)
end
section
variable {H:Type} {enc:TypeId×Value->H} {w:World} {base:Nat} {spare:Nat->Bool} {held:Bool}
theorem ja (n:Nat)(u:Value)(y:DataW H×List MemPlace)(h:DataW.trod enc Tryz.prog w base spare held n 5 [u]=some y):∃z:Nat,u= .int .u8 (z:Int)/\z<256:=by
 obtain⟨z,C,_,B⟩:=DataW.trod_int Tryz.underlying5 h;simp only[MZ,and_true]at C;simp only[Lit.wf,Mq,Ms]at B;have F:IntKind.u8.min=0:=rfl;have D:IntKind.u8.max=255:=rfl;rw[F,D]at B;refine⟨z.toNat,?_,by omega⟩;rw[C,Int.toNat_of_nonneg B.1]
theorem iF {a:Option Addr}{len cap:Nat}{d:DataW H}{p:List MemPlace}(h:DataW.Trod enc Tryz.prog w base spare held 22 (.slice a len cap) d p):Ch.KO w a len:=by
 obtain⟨R,B⟩:=h;obtain⟨l,D⟩:=iT (E:=λ_ u (z:Nat)=>u= .int .u8 (z:Int)/\z<256) (S:=λ_=>True) (v:=.slice a len cap) Tryz.underlying22 (by kernel_rfl) (λ_ _=>trivial) (λn u y F=>ja n u y F) B;intro i hi;obtain⟨L,I,e,_,_,_,O⟩:=D;obtain⟨rfl,rfl,_⟩:a=L/\len=l.length/\cap=I:=by simpa using e
 obtain⟨x,J⟩:∃x,l[i]?=some x:=⟨_,AU hi⟩;obtain⟨b,o,K,_,N,u,Q,rfl,C⟩:=O i x J;exact⟨b,o,x,K,N,Q,C⟩
end
end dU
end Go.Proofs.YtgjadpmbnejaoaaGreat
