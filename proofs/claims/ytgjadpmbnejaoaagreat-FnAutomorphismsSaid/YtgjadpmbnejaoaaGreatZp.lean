import Derived.Test.YtgjadpmbnejaoaaGreatZc
/-
  Lemmas for the law FnAutomorphisms, in short spelling.
-/
set_option linter.unusedVariables false
set_option linter.unusedSimpArgs false
set_option maxRecDepth 100000
set_option maxHeartbeats 40000000
namespace Go.Proofs.YtgjadpmbnejaoaaGreat
namespace EO
open RowKit AJ
theorem XL (S:Nat->Prop)(v:Value)(l:List Int)(w:World)(i:AP S w v l)(K:l.length<=1000000):
  Calls Tryz.prog 161 #[v] w (Dz l w):=by
 obtain⟨r,hi,X,V,W⟩:=Bd Dh;obtain⟨B,c,rfl,Q,F,O,N⟩:=i;have I:=AB K;have b:=AB F;clear K F;have J:AP S w (.slice B l.length c) l:=⟨B,c,rfl,Q,b.AA,O,N⟩;have q:=AB J;have g:=DL (base:=w.heap.size) (e:=2) (size:=1) w #[] 0 AV (AX _) rfl;have s:=λ(w:World) (a:Option Addr) (n c R Z:Nat)=>Lib.run_eql_slice_nil (P:=Tryz.prog) w 24 2 a n c R Z Tryz.underlying24;clear J N;cases B with
 |none=>
  obtain rfl:c=0:=O rfl;obtain rfl:l=[]:=Di (by omega);go_enter Tryz.func161,Tryz.ntmps161;go_wp2_with fail;go_ret;exact⟨_,rfl,FY _ _ _ _,BB _ _⟩
 |some ad=>
  have C1:=AB (AP.src (w':=w.alloc (.cells #[] 2)) q.AA (AL.alloc _));have C2:=AB (LH l);have C3:=AB (show 0+l.length<=maxLen from by have:=I.AA;unfold maxLen;omega);have C4:=AB (show(0+l.length)*8<=140737488355328 from by have:=I.AA;omega);have d:=AB (show(vals l).length=l.length*1 by simp[vals]);go_enter Tryz.func161,Tryz.ntmps161;go_wp2_with (at_builtin;refine DR _ rfl _ _ 24 rfl w.heap.size 2 r (.int .i64 0) 1 8 Tryz.underlying24 hi X V W rfl (by decide) _ _ _ rfl g ad l.length c (vals l) rfl d.AA C1.AA C2.AA C3.AA C4.AA (by simp) ?_);intro j C D L U;have p:Own w.heap.size C j l:=by simpa[Own]using D
  have h:Below w.heap.size w C:=(AY.alloc AV _).grown L (by simp) (by intro k Y;simp[Value.ownBlock]at Y;omega);clear D L U;go_wp2_with fail;go_ret;exact⟨_,rfl,p,h⟩
theorem FW {a b c:World}{row:Option Nat}(B:a.grownBy b row)(C:b.grownBy c row):a.grownBy c row:=
 ⟨C.os.trans B.os,C.tape.trans B.tape,C.output.trans B.output,Ae B.size C.size,λk F D=>(C.block k (Ah F B.size) D).trans (B.block k F D)⟩
theorem Qf (a:World)(row:Option Nat):a.grownBy a row:=⟨rfl,rfl,rfl,Al _,λ_ _ _=>rfl⟩
theorem NR {a b:World}{row:Option Nat}(h:Below a.heap.size a b):a.grownBy b row:=⟨h.os,h.tape,h.output,h.size,λk B _=>h.block k B⟩
theorem WU (a:World)(n:Nat)(row:Option Nat):a.grownBy (a.drewN n) row:=⟨rfl,rfl,rfl,Al _,λ_ _ _=>rfl⟩
theorem Kz {S:Nat->Prop}{a b:World}{g:Nat}(h:a.grownBy b (some g))(B:¬S g):Keep S a b:=Keep.grown h (λk C e=>B (by cases e;exact C))
def VY (B g cap:Nat)(x:List Nat)(w:World)(e:Ending)(w':World):Prop:=e= .returned (.tuple #[])/\Own B w' (.slice (some ⟨g,0,none⟩) x.length cap) (ints x)/\w.grownBy w' (some g)
def Rn (T:Tw)(s:Nat):Prop:=∀(S:Nat->Prop) (w:World) (b o B g cap:Nat) (C:Value) (u e f:List Nat),BH S w b o (AZ T)->AP S w C (ints (pad s f))->¬S g->u.length=s->El (T.drop s) e->El (T.drop s) f->
 Own B w (.slice (some ⟨g,0,none⟩) T.length cap) (ints (u++e))->
 Calls Tryz.prog 144 #[.pointer (some ⟨b,o,none⟩),.slice (some ⟨g,0,none⟩) T.length cap,C] w (VY B g cap (u++mul (T.drop s) e f) w)
def Pz (T:Tw)(j:Nat):Prop:=∀(S:Nat->Prop) (w:World) (b o B g cap:Nat) (x:List Nat),BH S w b o (AZ T)->¬S g->x.length=T.length->El (T.drop j) (x.drop j)->
 Own B w (.slice (some ⟨g,0,none⟩) T.length cap) (ints x)->
 Calls Tryz.prog 196 #[.pointer (some ⟨b,o,none⟩),.slice (some ⟨g,0,none⟩) T.length cap,.int .i64 (j:Int)] w (VY B g cap (x.take j++tg (T.drop j) (x.drop j)) w)
theorem aH (T:Tw)(hT:Wf T)(h:Small T)(s:Nat)(a0:s<=T.length)(hg:AJ.Good (T.drop s))(z:∀j,s<=j->j<T.length->Pz T j):Rn T s:=by
 intro S w b o B g cap vf u e f v X Y J N Q hO;have c0:=h.1;obtain⟨aF,cF,rfl,b0⟩:=X.open;have Z:(pad s f).length=T.length:=by rw[BS,Ad Q];simp;omega
 rw[Z]at b0 X ⊢;obtain⟨V,D⟩:∃V:Nat->Nat->List Nat,V=λj k=>vv T s u e f j k:=⟨_,rfl⟩;have U:=AB (show∀j k,El (T.drop s) ((V j k).drop s)/\(V j k).length=T.length from λj k=>by rw[D];exact⟨uZ hT J N f j k,jd hT a0 J N f j k⟩);have a6:=AB (show V 0 0=u++e by rw[D];exact lh T s u e f);have a2:=AB (show∀j,j<s->V (j+1) 0=V j 0 from λj hj=>by rw[D];exact qK T s u e f j hj);have a8:=AB (show∀j k,s<=j->j<T.length->(V j k).take j++tg (T.drop j) ((V j k).drop j)=V j (k+1) from λj k L l=>by rw[D];exact qL hT hg J N f L l k);have b1:=AB (show∀j a,s<=j->j<T.length->f[j-s]?=some a->V j a=V (j+1) 0 from λj a L l h3=>by rw[D];exact qM L l h3);have a5:=AB (show V T.length 0=u++mul (T.drop s) e f by rw[D];exact sO hT a0 hg N Q);have HO:=AB hO;have HP:=AB v;have HF:=AB X;have a4:=AB z;have a3:=AB h;have a9:=AB Q;have b5:=AB Z;have b8:=AB J;clear hO v X z D N Q h Z J;go_enter Tryz.func144,Tryz.ntmps144;go_wp2_with fail;go_loopw [10] (λj wr=>∃m:Nat,m<=T.length/\j= .int .i64 (m:Int)/\Own B wr (.slice (some ⟨g,0,none⟩) T.length cap) (ints (V m 0))/\w.grownBy wr (some g)) (λj _=>T.length-(intOf j).toNat);case atStart=>exact⟨0,AX _,rfl,by rw[a6.AA];exact HO.AA,Qf _ _⟩
 case round=>
  obtain⟨m,hm,rfl,O,K⟩:=hrel;have F:=AB O;have C:=AB K;clear O K;by_cases R:m<T.length
  .obtain⟨a,ha⟩:∃a,(pad s f)[m]?=some a:=⟨_,AU (by rw[b5.AA];exact R)⟩;obtain⟨bF,oF,rfl,b2,b3,r⟩:=HF.AA.at ha;have b6:a<7:=by
    by_cases I:m<s
    .rw[pad,DK (by simp;omega)]at ha;simp[I]at ha;omega
    .exact a3.AA.lt (s:=s) (x:=pad s f) (by rw[BJ];exact a9.AA) (by omega) ha
   have p:=Kz C.AA Y;have b9:wr.cell? ⟨bF,oF+m,none⟩=some (.int .i64 (a:Int)):=by rw[p.cell b2 b3];exact r
   have d:=AB ha;clear ha r p;go_wp2_with fail;go_loopw [16] (λk y=>∃q:Nat,q<=a/\k= .int .i64 (q:Int)/\Own B y (.slice (some ⟨g,0,none⟩) T.length cap) (ints (V m q))/\w.grownBy y (some g)) (λk _=>a-(intOf k).toNat);case atStart=>exact⟨0,AX _,rfl,F.AA,C.AA⟩
   case round=>
    clear F C;obtain⟨q,hq,rfl,O,K⟩:=hrel;have F:=AB O;have C:=AB K;clear O K;by_cases b7:q<a
    .have i:s<=m:=by
      apply Nat.le_of_not_lt;intro I;have ha:=d.AA;rw[pad,DK (by simp;omega)]at ha;simp[I]at ha;omega
     go_wp2_with fail;refine(a4.AA m i R S _ b o B g cap (V m q) (HP.AA.keep (Kz C.AA Y)) Y (U.AA m q).2 (by have:=Gu (U.AA m q).1 (m-s);rwa[EK,EK,IV i]at this) F.AA).mono ?_;rintro e' w5 ⟨rfl,W,a1⟩;rw[a8.AA m q i R]at W;rw[show(V m (q+1)).length=T.length from(U.AA m (q+1)).2]at W;have b4:=AB W;have a7:=AB (FW C.AA a1);clear W a1;go_wp2_with fail;go_roundw;case rel=>exact⟨q+1,by omega,by go_num,b4.AA,a7.AA⟩
     case measure=>simp[intOf];omega
    .obtain rfl:q=a:=by omega
     have HN:=AB (show V m q=V (m+1) 0 from by
      by_cases I:m<s
      .have ha:=d.AA;rw[pad,DK (by simp;omega)]at ha;simp[I]at ha;rw[<-ha,a2.AA m I]
      .exact b1.AA m q (by omega) R (by have ha:=d.AA;rw[pad,DC (by simp;omega)]at ha;simpa using ha))
     go_wp2_with fail;go_roundw;case rel=>exact⟨m+1,by omega,by go_num,by rw[<-HN.AA];exact F.AA,C.AA⟩
     case measure=>simp[intOf];omega
  .obtain rfl:m=T.length:=by omega
   go_wp2_with fail;go_end0;exact⟨rfl,by rw[<-a5.AA];have L:=F.AA;rw[show(V T.length 0).length=T.length from(U.AA _ 0).2];exact L,C.AA⟩
end EO
namespace Ob
open RowKit AJ EO
theorem Y4 {B:Nat}{w:World}{g n cap:Nat}{x:List Int}(h:Own B w (.slice (some ⟨g,0,none⟩) n cap) x):n=x.length/\n<=cap/\cap<=maxLen/\g<w.heap.size:=by
 rcases h.2 with⟨e,_⟩|⟨K,F,I,e,_,J,C,D,_⟩
 .simp at e
 .simp only[Du,EQ,Hr,and_true,true_and]at e;obtain⟨rfl,rfl,rfl⟩:=e;exact⟨rfl,C,D,(h.lt).2⟩
theorem mY {B:Nat}{w:World}{g n cap:Nat}{x:List Nat}(h:Own B w (.slice (some ⟨g,0,none⟩) n cap) (ints x))(s:Nat)(J:s<=n):AP (λ_=>True) w (.slice (some ⟨g,s,none⟩) (n-s) (cap-s)) (ints (x.drop s)):=by
 obtain⟨D,I,K,F⟩:=Y4 h;rw[BK]at D;refine⟨some ⟨g,s,none⟩,cap-s,by rw[BK,Cv,D],by rw[BK,Cv];omega,by omega,λe=>absurd e (by simp),λi y C=>⟨g,s,rfl,trivial,F,.int .i64 y,?_,rfl⟩⟩;exact(h.cell (j:=s+i) (a:=y) (by rw[Dt]at C ⊢; rw[Fa]at C;exact C)).1
theorem mZ (w:World)(g:Nat):AP (λ_=>True) w (.slice (some ⟨g,0,none⟩) 0 0) (ints []):=
 ⟨_,0,rfl,Al _,AX _,λe=>absurd e (by simp),λi y B=>by simp[ints]at B⟩
theorem vK (T:Tw)(hT:Wf T)(hs:Small T)(j:Nat)(L:Lv)(l:T[j]?=some L)(hg:AJ.Good (T.drop (j+1)))(h9:Rn T (j+1)):Pz T j:=by
 intro S w b o B g cap x hP W e5 e7 hO;have hj:j<T.length:=(Ak.1 l).1;have l2:=hs.1;have D:=AB (En hT l);obtain⟨l0,h6,k5⟩:=(Y4 hO).2;have l7:=AB h6;clear h6;obtain⟨u,a3,vO,vP,vC,b0,a5,e6,J⟩:=hP;obtain⟨aO,cO,aP,cP,aC,cC,rfl,rfl,rfl,l4,l8,l3⟩:=J.open;obtain⟨bO,oO,rfl,i3,j0,b5⟩:=J.ord l;obtain⟨bP,oP,uP,rfl,i2,k2,b4,i7⟩:=J.pow l;obtain⟨bC,oC,a2,c2,rfl,d6,g5,g6,l1,g1⟩:=J.JM l;obtain⟨a,ha⟩:∃a,x[j]?=some a:=⟨_,AU (by omega)⟩;have k8:a<7:=hs.lt e7 AV ha;have k9:L.o<=7:=hs.2 L (Af l);have HR:=AB (show x.drop j=a::x.drop (j+1) by rw[Dp (by omega),(Ak.1 ha).2]);obtain⟨r,hr⟩:∃r,r=x.drop (j+1):=⟨_,rfl⟩;have i1:r.length=T.length-(j+1):=by rw[hr,Cv,e5]
 have m2:¬b=g:=λe=>W (e▸u);have m0:¬bO=g:=λe=>W (e▸i3);have m1:¬bP=g:=λe=>W (e▸i2);have l5:¬bC=g:=λe=>W (e▸d6);have j8:=AB b5;have k1:=AB b4;have i5:=AB g6;have a9:=AB (And.intro b0 (And.intro a5 e6));have HP:=AB (show BH S w b o (AZ T) from⟨u,a3,_,_,_,b0,a5,e6,J⟩);have k0:=AB i7;have i0:=AB g1;have HO:=AB hO;have HL:=AB l;have HX:=AB ha;have c9:=AB e5;have h5:=AB (show El (T.drop (j+1)) r by rw[hr];have:=Gu e7 1;rwa[EK,EK]at this);have a6:=AB hr;have g9:=AB i1;have f3:=AB h9;have HG:=AB (BA D.AA.1 hg);have f9:=AB hs;have l9:g<w.heap.size:=k5;have h0:=AB (show AP (λ_=>True) w (.slice (some ⟨g,j+1,none⟩) (T.length-(j+1)) (cap-(j+1))) (ints r) by rw[hr];exact mY HO.AA (j+1) (by omega));clear b5 b4 g6 b0 a5 e6 i7 g1 hO l ha e5 e7 hr h9 hg hs J;go_enter Tryz.func196,Tryz.ntmps196;go_upto_region 0 with fail;go_cut [6] (λv1 wx=>Own w.heap.size wx v1 (ints r)/\Below w.heap.size w wx);case first=>
  by_cases h3:cap=j+1
  .subst h3;go_wp2_with fail;refine(XL (λ_=>True) _ (ints r) _ (by rw[show r=[] from Di (by omega)];exact mZ _ _) (by rw[BK];omega)).mono ?_;rintro e w5 ⟨v5,rfl,I,b6⟩;have a1:=AB I;have f4:=AB b6;clear I b6;go_wp2_with fail;go_meet;exact⟨a1.AA,f4.AA⟩
  .have l6:¬j+1=cap:=λe=>h3 e.symm;go_wp2_with fail;refine(XL (λ_=>True) _ (ints r) _ (h0.AA) (by rw[BK];omega)).mono ?_;rintro e w5 ⟨v5,rfl,I,b6⟩;have a1:=AB I;have f4:=AB b6;clear I b6;go_wp2_with fail;go_meet;exact⟨a1.AA,f4.AA⟩
 case rest=>
  obtain⟨d1,c8⟩:=hcut;obtain⟨aR,cR,rfl,k6⟩:=d1.sl.open;rw[i1]at k6 d1 ⊢;have i8:=AB (show AP (λk=>w.heap.size<=k) wc (.slice aR (T.length-(j+1)) cR) (ints r) from d1.sl);have k7:=AB (HO.AA.of_below c8);have h7:=AB (NR (row:=some g) c8);have e2:=AB c8;clear d1 c8 h0;obtain⟨Z,hZ⟩:∃Z:Nat->List Nat,Z=λk=>x.take (j+1)++List.replicate k 0++x.drop (j+1+k):=⟨_,rfl⟩;have j5:=AB (show Z 0=x by rw[hZ];simp);have j3:=AB (show∀k,k<=T.length-(j+1)->(Z k).length=T.length from λk hk=>by rw[hZ];simp[c9.AA];omega);have j9:=AB (show∀k,k<T.length-(j+1)->(Z k).set (j+1+k) 0=Z (k+1) from λk hk=>by
   rw[hZ];have hl:=c9.AA;show(x.take (j+1)++List.replicate k 0++x.drop (j+1+k)).set (j+1+k) 0=x.take (j+1)++List.replicate (k+1) 0++x.drop (j+1+(k+1));rw[List.set_append_right _ _ (by simp;omega),Dp (show j+1+k<x.length by omega)];simp only[Bc,Ec,Bp,hl];rw[show j+1+k-(min (j+1) T.length+k)=0 by omega,Bq,IK];simp[Nat.add_assoc])
  have j2:=AB (show Z (T.length-(j+1))=x.take j++a::AJ.one (T.drop (j+1)) from by
   rw[hZ];have hl:=c9.AA;show x.take (j+1)++List.replicate (T.length-(j+1)) 0++x.drop (j+1+(T.length-(j+1)))=_;rw[P6 (by omega),FP,EL,HX.AA];simp[AJ.one])
  have k3:=AB (show∀k,k<T.length-(j+1)->∃y,(Z k)[j+1+k]?=some y from λk hk=>⟨_,AU (by rw[j3.AA k (by omega)];omega)⟩);clear hZ;go_wp2_with fail;go_loopw [17] (λX wr=>∃k:Nat,k<=T.length-(j+1)/\X= .int .i64 (k:Int)/\Own B wr (.slice (some ⟨g,0,none⟩) T.length cap) (ints (Z k))/\wc.grownBy wr (some g)) (λX _=>T.length-(intOf X).toNat);case atStart=>exact⟨0,AX _,rfl,by rw[j5.AA];exact k7.AA,Qf _ _⟩
  case round=>
   obtain⟨k,hk,rfl,O,Q⟩:=hrel;by_cases c1:k<T.length-(j+1)
   .obtain⟨y,C⟩:=k3.AA k c1;obtain⟨s1,f1⟩:=O.cell (j:=j+1+k) (a:=(y:Int)) (by rw[Dt,C];rfl);obtain⟨Y,z⟩:=O.Iz (j+1+k) 0;rw[j9.AA k c1]at Y;have H1:=AB Y;have H2:=AB (FW Q z);clear O Q C Y z;go_wp2_with fail;go_roundw;case rel=>exact⟨k+1,by omega,by go_num,H1.AA,H2.AA⟩
    case measure=>simp[intOf];omega
   .obtain rfl:k=T.length-(j+1):=by omega
    have N:=AB O;have K:=AB Q;clear O Q c1 hk;rw[j2.AA]at N;have g7:(x.take j).length=j:=by rw[Ec,c9.AA];omega
    have U:=AB g7;clear g7;have g8:(x.take j++a::AJ.one (T.drop (j+1)))[j]?=some a:=by rw[DC (by rw[U.AA];exact Al _),U.AA];simp
    obtain⟨s1,f1⟩:=N.AA.cell (j:=j) (a:=(a:Int)) (by rw[Dt,g8];rfl);obtain⟨Y,z⟩:=N.AA.Iz j (a+1);have b9:∀y,(x.take j++a::AJ.one (T.drop (j+1))).set j y=x.take j++y::AJ.one (T.drop (j+1)):=λy=>by
     rw[List.set_append_right _ _ (by rw[U.AA];exact Al _),U.AA,Gy,Bq]
    rw[b9]at Y;have a7:=AB (show Own B (wr.setCell ⟨g,j,none⟩ (.int .i64 ((a:Int)+1))) (.slice (some ⟨g,0,none⟩) T.length cap) (ints (x.take j++(a+1)::AJ.one (T.drop (j+1)))) from Y);have a8:=AB (show wc.grownBy (wr.setCell ⟨g,j,none⟩ (.int .i64 ((a:Int)+1))) (some g) from FW K.AA z);clear b9 Y z g8;go_upto_region 7 with fail;clear s1 f1 N K;generalize wr.setCell ⟨g,j,none⟩ (.int .i64 ((a:Int)+1))=w3 at a7 a8 ⊢;obtain⟨F,i4⟩:∃F,F=if a+1=L.o then 0 else a+1:=⟨_,rfl⟩;obtain⟨i,d9⟩:∃i,i=if a+1=L.o then L.w else AJ.one (T.drop (j+1)):=⟨_,rfl⟩;have c7:=AB i4;have d0:=AB d9;have i6:=AB (show El (T.drop (j+1)) i by rw[d9];split;exact D.AA.2.2.2.1;exact CR D.AA.1);clear i4 d9;have a0:=Keep.trans (AO (S:=S) e2.AA) (Kz a8.AA W);have b0:w3.cell? ⟨b,o,none⟩=some (.slice (some ⟨bO,oO,none⟩) T.length cO):=by rw[a0.cell u a3];exact a9.AA.1
    have a5:w3.cell? ⟨b,o+1,none⟩=some (.slice (some ⟨bP,oP,none⟩) T.length cP):=by rw[a0.cell u a3];exact a9.AA.2.1
    have b5:w3.cell? ⟨bO,oO+j,none⟩=some (.int .i64 (L.o:Int)):=by rw[a0.cell i3 j0];exact j8.AA
    have b4:w3.cell? ⟨bP,oP+j,none⟩=some uP:=by rw[a0.cell i2 k2];exact k1.AA
    obtain⟨s1,f1⟩:=a7.AA.cell (j:=j) (a:=(a:Int)+1) (by rw[Dt,DC (by rw[U.AA];exact Al _),U.AA];simp);have w6:(j:Int)<(T.length:Int):=by omega
    have w7:(0:Int)<=(j:Int):=by omega
    have e4:=AB (HP.AA.keep a0);have d3:=AB (k0.AA.keep a0);clear a0;by_cases c6:a+1=L.o
    .have j4:((a:Int)+1==(L.o:Int))=true:=by simp;omega
     have b3:=AB c6;clear c6;go_wp2_with fail;go_quiet (fail);obtain⟨Y,z⟩:=(a7.AA.drewN nq).Iz j 0;have b9:(x.take j++(a+1)::AJ.one (T.drop (j+1))).set j 0=(x.take j++[0])++AJ.one (T.drop (j+1)):=by
      rw[List.set_append_right _ _ (by rw[U.AA];exact Al _),U.AA,Gy,Bq];simp
     rw[b9]at Y;have h4:=AB Y;have h8:=AB z;clear b9 Y z;go_wp2_with fail;refine(f3.AA S _ b o B g cap uP (x.take j++[0]) (AJ.one (T.drop (j+1))) L.w (e4.AA.keep ((AL.drewN nq).setCell W _)) (d3.AA.keep ((AL.drewN nq).setCell W _)) W (by rw[Bc,U.AA];rfl) (CR D.AA.1) D.AA.2.2.2.1 h4.AA).mono ?_;rintro e w5 ⟨rfl,I,v⟩;rw[HG.AA.eL D.AA.2.2.2.1]at I;have c4:=AB (show Own B w5 (.slice (some ⟨g,0,none⟩) T.length cap) (ints (x.take j++F::i)) from by
      rw[c7.AA,d0.AA,BQ b3.AA,BQ b3.AA];have d:(x.take j++[0]++L.w).length=T.length:=by rw[Bc,Bc,U.AA,Ad D.AA.2.2.2.1,Cv];simp;omega
      rw[d]at I;simpa using I)
     have b8:=AB (FW a8.AA (FW (WU _ nq _) (FW h8.AA v)));clear I v s1 f1 b0 a5 b5 b4 a7 a8 h4 h8 e4 d3;go_wp2_with fail;have c0:(x.take j++[F]).length=j+1:=by rw[Bc,U.AA];rfl
     have b7:=AB c0;have f7:=AB (show∀k y,r[k]?=some y->y<7 from λk y C=>f9.AA.lt (s:=j+1) (x:=x) (by rw[<-a6.AA];exact h5.AA) (j:=j+1+k) (by omega) (by rw[a6.AA,Fa]at C;exact C));obtain⟨V,J⟩:∃V:Nat->Nat->List Nat,V=λm q=>Fs (mul (T.drop (j+1))) i (AJ.one (T.drop (j+1))) L.c r m q:=⟨_,rfl⟩;have a4:=AB (show∀m q,El (T.drop (j+1)) (V m q) from λm q=>by rw[J];exact Nq (El _) (mul _) (λ_ _ p q=>Bz D.AA.1 p q) _ _ _ _ i6.AA (CR D.AA.1) D.AA.2.2.1 m q);have d4:=AB (show V 0 0=i by rw[J];exact MK _ _ _ _ _);have f2:=AB (show∀m q y,L.c[m]?=some y->mul (T.drop (j+1)) (V m q) y=V m (q+1) from λm q y C=>by rw[J];simp only[Na];rw[BG,C];rfl);have f6:=AB (show∀m y,m<T.length-(j+1)->r[m]?=some y->V m y=V (m+1) 0 from λm y hm C=>by rw[J];exact Nb _ _ _ _ _ _ _ (by rw[D.AA.2.1];omega) C);have e8:=AB (show F::V (T.length-(j+1)) 0=tg (T.drop j) (x.drop j) from by
      rw[J];simp only[];rw[Np _ _ _ _ _ _ (by rw[D.AA.2.1];exact Al _) (by rw[g9.AA];exact Al _),EB HL.AA,HR.AA,<-a6.AA,tg,<-c7.AA,<-d0.AA])
     clear J c0;go_loopw [60] (λX wr=>∃m:Nat,m<=T.length-(j+1)/\X= .int .i64 (m:Int)/\Own B wr (.slice (some ⟨g,0,none⟩) T.length cap) (ints (x.take j++F::V m 0))/\wc.grownBy wr (some g)) (λX _=>T.length-(intOf X).toNat);case atStart=>exact⟨0,AX _,rfl,by rw[d4.AA];exact c4.AA,b8.AA⟩
     case round=>
      clear c4 b8;obtain⟨m,hm,rfl,O,Q⟩:=hrel;have N:=AB O;have K:=AB Q;clear O Q;by_cases c1:m<T.length-(j+1)
      .obtain⟨y,C⟩:∃y,r[m]?=some y:=⟨_,AU (by omega)⟩;obtain⟨bR,oR,rfl,k4,d7,c5⟩:=i8.AA.at C;obtain⟨c,h⟩:∃c,L.c[m]?=some c:=⟨_,AU (by rw[D.AA.2.1];omega)⟩;obtain⟨b2,o2,uc,rfl,f0,f8,b1,c3⟩:=i0.AA m c h;have i9:=f7.AA m y C;have f5:¬bR=g:=by omega
       have j7:wr.cell? ⟨bR,oR+m,none⟩=some (.int .i64 (y:Int)):=by rw[(Kz (S:=λk=>¬k=g) K.AA (by simp)).cell f5 d7];exact c5
       have hd:decide ((m:Int)<((T.length-(j+1):Nat):Int))=true:=by simp;omega
       have HY:=AB C;have HC:=AB h;have d8:=AB b1;have e9:=AB c3;have e0:=AB (D.AA.2.2.1 c (Af h));have j6:L.c.length=T.length-(j+1):=D.AA.2.1;clear C h b1 c3 c5;go_wp2_with fail;go_loopw [66] (λqv wi=>∃q:Nat,q<=y/\qv= .int .i64 (q:Int)/\Own B wi (.slice (some ⟨g,0,none⟩) T.length cap) (ints (x.take j++F::V m q))/\wc.grownBy wi (some g)) (λqv _=>y-(intOf qv).toNat);case atStart=>exact⟨0,AX _,rfl,N.AA,K.AA⟩
       case round=>
        clear N K;obtain⟨q,hq,rfl,O,Q⟩:=hrel;have N:=AB O;have K:=AB Q;clear O Q;by_cases j1:q<y
        .have R:=Keep.trans (AO (S:=S) e2.AA) (Kz K.AA W);have g0:wr.cell? ⟨b,o,none⟩=some (.slice (some ⟨bO,oO,none⟩) T.length cO):=by rw[R.cell u a3];exact a9.AA.1
         have g2:wr.cell? ⟨b,o+2,none⟩=some (.slice (some ⟨bC,oC,none⟩) T.length cC):=by rw[R.cell u a3];exact a9.AA.2.2
         have g3:wr.cell? ⟨bC,oC+j,none⟩=some (.slice (some ⟨b2,o2,none⟩) L.c.length c2):=by rw[R.cell d6 g5];exact i5.AA
         have g4:wr.cell? ⟨b2,o2+m,none⟩=some uc:=by rw[R.cell f0 f8];exact d8.AA
         have d2:=AB (HP.AA.keep R);have e3:=AB (e9.AA.keep R);clear R;go_wp2_with fail;refine(f3.AA S _ b o B g cap uc (x.take j++[F]) (V m q) c d2.AA e3.AA W b7.AA (a4.AA m q) e0.AA (by simpa using N.AA)).mono ?_;rintro e w5 ⟨rfl,I,v⟩;rw[f2.AA m q c HC.AA]at I;have a1:=AB (show Own B w5 (.slice (some ⟨g,0,none⟩) T.length cap) (ints (x.take j++F::V m (q+1))) from by
          have d:(x.take j++[F]++V m (q+1)).length=T.length:=by rw[Bc,b7.AA,Ad (a4.AA m (q+1)),Cv];omega
          rw[d]at I;simpa using I)
         have d5:=AB (FW K.AA v);clear I v;go_wp2_with fail;go_roundw;case rel=>exact⟨q+1,by omega,by go_num,a1.AA,d5.AA⟩
         case measure=>simp[intOf];omega
        .obtain rfl:q=y:=by omega
         go_wp2_with fail;go_roundw;case rel=>exact⟨m+1,by omega,by go_num,by rw[<-f6.AA m q (by omega) HY.AA];exact N.AA,K.AA⟩
         case measure=>simp[intOf];omega
      .obtain rfl:m=T.length-(j+1):=by omega
       go_wp2_with fail;go_end0;refine⟨rfl,?_,FW h7.AA K.AA⟩;rw[<-e8.AA];have d:(x.take j++F::V (T.length-(j+1)) 0).length=T.length:=by rw[Bc,U.AA,DX,Ad (a4.AA _ 0),Cv];omega
       rw[d];exact N.AA
    .have j4:((a:Int)+1==(L.o:Int))=false:=by simp;omega
     have b3:=AB c6;clear c6;go_wp2_with fail;go_quiet (fail);have c4:=AB (show Own B (w3.drewN nq) (.slice (some ⟨g,0,none⟩) T.length cap) (ints (x.take j++F::i)) from by
      rw[c7.AA,d0.AA,BF b3.AA,BF b3.AA];exact a7.AA.drewN nq)
     have b8:=AB (FW a8.AA (WU _ nq _));clear s1 f1 b0 a5 b5 b4 a7 a8 e4 d3;go_wp2_with fail;have c0:(x.take j++[F]).length=j+1:=by rw[Bc,U.AA];rfl
     have b7:=AB c0;have f7:=AB (show∀k y,r[k]?=some y->y<7 from λk y C=>f9.AA.lt (s:=j+1) (x:=x) (by rw[<-a6.AA];exact h5.AA) (j:=j+1+k) (by omega) (by rw[a6.AA,Fa]at C;exact C));obtain⟨V,J⟩:∃V:Nat->Nat->List Nat,V=λm q=>Fs (mul (T.drop (j+1))) i (AJ.one (T.drop (j+1))) L.c r m q:=⟨_,rfl⟩;have a4:=AB (show∀m q,El (T.drop (j+1)) (V m q) from λm q=>by rw[J];exact Nq (El _) (mul _) (λ_ _ p q=>Bz D.AA.1 p q) _ _ _ _ i6.AA (CR D.AA.1) D.AA.2.2.1 m q);have d4:=AB (show V 0 0=i by rw[J];exact MK _ _ _ _ _);have f2:=AB (show∀m q y,L.c[m]?=some y->mul (T.drop (j+1)) (V m q) y=V m (q+1) from λm q y C=>by rw[J];simp only[Na];rw[BG,C];rfl);have f6:=AB (show∀m y,m<T.length-(j+1)->r[m]?=some y->V m y=V (m+1) 0 from λm y hm C=>by rw[J];exact Nb _ _ _ _ _ _ _ (by rw[D.AA.2.1];omega) C);have e8:=AB (show F::V (T.length-(j+1)) 0=tg (T.drop j) (x.drop j) from by
      rw[J];simp only[];rw[Np _ _ _ _ _ _ (by rw[D.AA.2.1];exact Al _) (by rw[g9.AA];exact Al _),EB HL.AA,HR.AA,<-a6.AA,tg,<-c7.AA,<-d0.AA])
     clear J c0;go_loopw [60] (λX wr=>∃m:Nat,m<=T.length-(j+1)/\X= .int .i64 (m:Int)/\Own B wr (.slice (some ⟨g,0,none⟩) T.length cap) (ints (x.take j++F::V m 0))/\wc.grownBy wr (some g)) (λX _=>T.length-(intOf X).toNat);case atStart=>exact⟨0,AX _,rfl,by rw[d4.AA];exact c4.AA,b8.AA⟩
     case round=>
      clear c4 b8;obtain⟨m,hm,rfl,O,Q⟩:=hrel;have N:=AB O;have K:=AB Q;clear O Q;by_cases c1:m<T.length-(j+1)
      .obtain⟨y,C⟩:∃y,r[m]?=some y:=⟨_,AU (by omega)⟩;obtain⟨bR,oR,rfl,k4,d7,c5⟩:=i8.AA.at C;obtain⟨c,h⟩:∃c,L.c[m]?=some c:=⟨_,AU (by rw[D.AA.2.1];omega)⟩;obtain⟨b2,o2,uc,rfl,f0,f8,b1,c3⟩:=i0.AA m c h;have i9:=f7.AA m y C;have f5:¬bR=g:=by omega
       have j7:wr.cell? ⟨bR,oR+m,none⟩=some (.int .i64 (y:Int)):=by rw[(Kz (S:=λk=>¬k=g) K.AA (by simp)).cell f5 d7];exact c5
       have hd:decide ((m:Int)<((T.length-(j+1):Nat):Int))=true:=by simp;omega
       have HY:=AB C;have HC:=AB h;have d8:=AB b1;have e9:=AB c3;have e0:=AB (D.AA.2.2.1 c (Af h));have j6:L.c.length=T.length-(j+1):=D.AA.2.1;clear C h b1 c3 c5;go_wp2_with fail;go_loopw [66] (λqv wi=>∃q:Nat,q<=y/\qv= .int .i64 (q:Int)/\Own B wi (.slice (some ⟨g,0,none⟩) T.length cap) (ints (x.take j++F::V m q))/\wc.grownBy wi (some g)) (λqv _=>y-(intOf qv).toNat);case atStart=>exact⟨0,AX _,rfl,N.AA,K.AA⟩
       case round=>
        clear N K;obtain⟨q,hq,rfl,O,Q⟩:=hrel;have N:=AB O;have K:=AB Q;clear O Q;by_cases j1:q<y
        .have R:=Keep.trans (AO (S:=S) e2.AA) (Kz K.AA W);have g0:wr.cell? ⟨b,o,none⟩=some (.slice (some ⟨bO,oO,none⟩) T.length cO):=by rw[R.cell u a3];exact a9.AA.1
         have g2:wr.cell? ⟨b,o+2,none⟩=some (.slice (some ⟨bC,oC,none⟩) T.length cC):=by rw[R.cell u a3];exact a9.AA.2.2
         have g3:wr.cell? ⟨bC,oC+j,none⟩=some (.slice (some ⟨b2,o2,none⟩) L.c.length c2):=by rw[R.cell d6 g5];exact i5.AA
         have g4:wr.cell? ⟨b2,o2+m,none⟩=some uc:=by rw[R.cell f0 f8];exact d8.AA
         have d2:=AB (HP.AA.keep R);have e3:=AB (e9.AA.keep R);clear R;go_wp2_with fail;refine(f3.AA S _ b o B g cap uc (x.take j++[F]) (V m q) c d2.AA e3.AA W b7.AA (a4.AA m q) e0.AA (by simpa using N.AA)).mono ?_;rintro e w5 ⟨rfl,I,v⟩;rw[f2.AA m q c HC.AA]at I;have a1:=AB (show Own B w5 (.slice (some ⟨g,0,none⟩) T.length cap) (ints (x.take j++F::V m (q+1))) from by
          have d:(x.take j++[F]++V m (q+1)).length=T.length:=by rw[Bc,b7.AA,Ad (a4.AA m (q+1)),Cv];omega
          rw[d]at I;simpa using I)
         have d5:=AB (FW K.AA v);clear I v;go_wp2_with fail;go_roundw;case rel=>exact⟨q+1,by omega,by go_num,a1.AA,d5.AA⟩
         case measure=>simp[intOf];omega
        .obtain rfl:q=y:=by omega
         go_wp2_with fail;go_roundw;case rel=>exact⟨m+1,by omega,by go_num,by rw[<-f6.AA m q (by omega) HY.AA];exact N.AA,K.AA⟩
         case measure=>simp[intOf];omega
      .obtain rfl:m=T.length-(j+1):=by omega
       go_wp2_with fail;go_end0;refine⟨rfl,?_,FW h7.AA K.AA⟩;rw[<-e8.AA];have d:(x.take j++F::V (T.length-(j+1)) 0).length=T.length:=by rw[Bc,U.AA,DX,Ad (a4.AA _ 0),Cv];omega
       rw[d];exact N.AA
end Ob
namespace DW
open RowKit AJ EO Ob
theorem Y5 (T:Tw)(hT:Wf T)(C:Small T)(m:Nat):∀s,s<=T.length->T.length-s<=m->AJ.Good (T.drop s)->Rn T s/\(s<T.length->Pz T s):=by
 induction m with
 |zero=>
  intro s B J hg;exact⟨aH T hT C s B hg (λj a b=>by omega),λh=>by omega⟩
 |succ m ih=>
  intro s B J hg;have F:AJ.Good (T.drop (s+1)):=by have:=KQ hg 1;rwa[EK]at this
  have D:s<T.length->Pz T s:=λI=>
   vK T hT C s _ (AU I) F (ih (s+1) (by omega) (by omega) F).1
  refine⟨aH T hT C s B hg (λj a b=>?_),D⟩;by_cases K:j=s
  .subst K;exact D b
  .exact(ih j (by omega) (by omega) (by have:=KQ hg (j-s);rwa[EK,IV a]at this)).2 b
theorem Nu (T:Tw)(hT:Wf T)(B:Small T)(s:Nat)(h:s<=T.length)(hg:AJ.Good (T.drop s)):Rn T s:=(Y5 T hT B _ s h AV hg).1
theorem tL (T:Tw)(hT:Wf T)(B:Small T)(s:Nat)(h:s<T.length)(hg:AJ.Good (T.drop s)):Pz T s:=(Y5 T hT B _ s (Ci h) AV hg).2 h
def NN (v:Value):Prop:=∀n c,v≠.slice none n c
theorem OH {S:Nat->Prop}{w:World}{v:Value}{l:List Int}(h:AP S w v l):AP (λk=>k<w.heap.size) w v l:=by
 obtain⟨O,c,F,I,K,L,J⟩:=h;exact⟨O,c,F,I,K,L,λi x C=>by obtain⟨b,o,D,_,B,N⟩:=J i x C;exact⟨b,o,D,B,B,N⟩⟩
theorem U8 {S:Nat->Prop}{w:World}{v:Value}{l:List (List Int)}(h:AQ S w v l):AQ (λk=>k<w.heap.size) w v l:=by
 obtain⟨Q,c,F,I,L,N,J⟩:=h;exact⟨Q,c,F,I,L,N,λi x C=>by obtain⟨b,o,D,_,B,u,O,K⟩:=J i x C;exact⟨b,o,D,B,B,u,O,OH K⟩⟩
theorem tN {S:Nat->Prop}{w:World}{v:Value}{l:List (List (List Int))}(h:FR S w v l):FR (λk=>k<w.heap.size) w v l:=by
 obtain⟨Q,c,F,I,L,N,J⟩:=h;exact⟨Q,c,F,I,L,N,λi x C=>by obtain⟨b,o,D,_,B,u,O,K⟩:=J i x C;exact⟨b,o,D,B,B,u,O,U8 K⟩⟩
theorem LQ {S:Nat->Prop}{w:World}{b o:Nat}{P:BZ}(h:BH S w b o P):BH (λk=>k<w.heap.size) w b o P:=by
 obtain⟨N,C,L,D,K,F,I,J,B⟩:=h;exact⟨C,C,L,D,K,F,I,J,⟨OH B.os,U8 B.ps,tN B.cs⟩⟩
theorem Je {S:Nat->Prop}{w:World}{v:Value}{x:List Nat}(h:AP S w v (ints x))(C:0<x.length):NN v:=by
 obtain⟨D,c,rfl,_,_,_,B⟩:=h;obtain⟨b,o,rfl,_⟩:=B 0 (x[0]:Int) (by rw[Dt,AU C];rfl);intro n c e;simp at e
theorem RL (g cap n:Nat):NN (.slice (some ⟨g,0,none⟩) n cap):=λn c e=>by simp at e
theorem Te (S:Nat->Prop)(v:Value)(l:List Int)(w:World)(s:AP S w v l)(Q:NN v)(L:l.length<=1000000):
  Calls Tryz.prog 161 #[v] w (CX l w):=by
 obtain⟨u,hi,b,Y,Z⟩:=Bd Dh;obtain⟨B,c,rfl,W,F,_,O⟩:=s;have J:=AB L;have i:=AB F;clear L F;have K:AP S w (.slice B l.length c) l:=⟨B,c,rfl,W,i.AA,by assumption,O⟩;have V:=AB K;have p:=DL (base:=w.heap.size) (e:=2) (size:=1) w #[] 0 AV (AX _) rfl;have x:=λ(w:World) (a:Option Addr) (n c X h:Nat)=>Lib.run_eql_slice_nil (P:=Tryz.prog) w 24 2 a n c X h Tryz.underlying24;cases B with
 |none=>exact absurd rfl (Q _ _)
 |some ad=>
  have C1:=AB (AP.src (w':=w.alloc (.cells #[] 2)) V.AA (AL.alloc _));have C2:=AB (LH l);have C3:=AB (show 0+l.length<=maxLen from by have:=J.AA;unfold maxLen;omega);have C4:=AB (show(0+l.length)*8<=140737488355328 from by have:=J.AA;omega);have j:=AB (show(vals l).length=l.length*1 by simp[vals]);clear K O Q;go_enter Tryz.func161,Tryz.ntmps161;go_wp2_with (at_builtin;refine DR _ rfl _ _ 24 rfl w.heap.size 2 u (.int .i64 0) 1 8 Tryz.underlying24 hi b Y Z rfl (by decide) _ _ _ rfl p ad l.length c (vals l) rfl j.AA C1.AA C2.AA C3.AA C4.AA (by simp) ?_);intro R C D N I;have U:Own w.heap.size C R l:=by simpa[Own]using D
  have r:Below w.heap.size w C:=(AY.alloc AV _).grown N (by simp) (by intro k d;simp[Value.ownBlock]at d;omega);have q:R≠.slice none 0 0:=I;clear D N I;go_wp2_with fail;go_ret;obtain⟨g,cap,rfl⟩:=U.head q;exact⟨g,cap,rfl,U,r⟩
abbrev Any:Nat->Prop:=λ_=>True
theorem Qc (T:Tw)(hT:Wf T)(L:Small T)(s:Nat)(h:s<=T.length)(hg:AJ.Good (T.drop s))(w:World)(b o:Nat)(I F:Value)(x y:List Nat)(K:BH Any w b o (AZ T))(ha:AP Any w I (ints (pad s x)))(W:NN I)(U:AP Any w F (ints (pad s y)))
  (J:El (T.drop s) x) (O:El (T.drop s) y):
  Calls Tryz.prog 145 #[.pointer (some ⟨b,o,none⟩),I,F] w (CX (ints (pad s (mul (T.drop s) x y))) w):=by
 have d:=AB (Nu T hT L s h hg);have R:(ints (pad s x)).length=T.length:=by rw[BK,BS,Ad J,Cv];omega
 have N:=AB R;have r:=AB K;have u:=AB ha;have V:=AB U;have i:=AB W;have a0:=L.1;clear K ha U W R;go_enter Tryz.func145,Tryz.ntmps145;go_wp2_with fail;refine(Te Any _ _ _ u.AA i.AA (by rw[N.AA];omega)).mono ?_;rintro e v ⟨g,cap,rfl,C,S⟩;rw[N.AA]at C ⊢;have j:=AB C;have B:=AB S;have z:=C.lt;clear C S;go_wp2_with fail;have Q:=(LQ r.AA).keep (AO B.AA);have a:=V.AA.keep (AO B.AA);refine(d.AA (λk=>k<w.heap.size) _ b o w.heap.size g cap F (List.replicate s 0) x y Q ((OH V.AA).keep (AO B.AA)) (by omega) (by simp) J O j.AA).mono ?_;rintro e w2 ⟨rfl,X,Z⟩;have l:=AB X;have q:=AB (B.AA.grown Z (by have:=B.AA.size;omega) (by intro k p;cases p;omega));clear X Z Q a;go_wp2_with fail;go_ret;have D:(ints (pad s (mul (T.drop s) x y))).length=T.length:=by rw[BK,BS,Ad (Bz (DJ hT s) J O),Cv];omega
 have e2:(List.replicate s 0++mul (T.drop s) x y).length=T.length:=by rw[<-BK];exact D
 have Y:=l.AA;rw[e2]at Y;exact⟨g,cap,by rw[D];rfl,by rw[D];exact Y,q.AA⟩
end DW
namespace Oc
open RowKit AJ EO Ob DW
theorem Fb (n:Nat)(B:n<=6)(w:World):(Instr.makeSlice 24 (.int .i64 (n:Int)) (.int .i64 (n:Int))).run Tryz.prog w= .ok (.slice (some ⟨w.heap.size,0,none⟩) n n) (w.alloc (.cells (madeCells #[.int .i64 0] n) 2)):=
 run_make_row' (P:=Tryz.prog) 24 2 (.int .i64 0) 8 Tryz.underlying24 Dh rfl .i64 .i64 n (by omega) (by omega) w
theorem NV (T:Tw)(hT:Wf T)(U:Small T)(s:Nat)(h:s<=T.length)(hg:AJ.Good (T.drop s))(w:World)(b o:Nat)(W:Value)(x:List Nat)(K:Nat)(hK:K<=1000)(Q:BH Any w b o (AZ T))(ha:AP Any w W (ints (pad s x)))
  (L:El (T.drop s) x):
  Calls Tryz.prog 172 #[.pointer (some ⟨b,o,none⟩),W,.int .i64 (K:Int)] w (CX (ints (pad s (npow (mul (T.drop s)) (AJ.one (T.drop s)) x K))) w):=by
 have a:=AB (Nu T hT U s h hg);have D:=AB (BA (DJ hT s) hg);have J:(pad s x).length=T.length:=by rw[BS,Ad L,Cv];omega
 have HL:=AB J;have i:=U.1;have a0:=Fb T.length i;have q:=AB Q;obtain⟨r,p,rfl,v⟩:=ha.open;rw[J]at v ha ⊢;have y:=AB ha;have C:=AB L;have d:=AB (Own.made (B:=w.heap.size) w T.length AV (by unfold maxLen;omega));clear Q ha J L;go_enter Tryz.func172,Tryz.ntmps172;go_wp2_with fail;go_loopw [12] (λI wr=>∃k:Nat,k<=K/\I= .int .i64 (k:Int)/\Own w.heap.size wr (.slice (some ⟨w.heap.size,0,none⟩) T.length T.length) (ints (pad s (npow (mul (T.drop s)) (AJ.one (T.drop s)) x k)))/\Below w.heap.size w wr/\w.heap.size<wr.heap.size) (λI _=>K-(intOf I).toNat);case atStart=>
  refine⟨0,AX _,rfl,?_,AY.alloc AV _,by simp⟩;have:=d.AA;rw[JS]at this;rw[GR,Pj T s h];exact this
 case round=>
  obtain⟨k,V,rfl,Y,X,l⟩:=hrel;have S:=AB Y;have F:=AB X;clear Y X;by_cases z:k<K
  .go_wp2_with fail;refine(a.AA (λk=>k<w.heap.size) _ b o w.heap.size w.heap.size T.length (.slice r T.length p) (List.replicate s 0) (npow (mul (T.drop s)) (AJ.one (T.drop s)) x k) x ((LQ q.AA).keep (AO F.AA)) ((OH y.AA).keep (AO F.AA)) (by omega) (by simp) (D.AA.npow C.AA k) C.AA S.AA).mono ?_;rintro e u ⟨rfl,N,O⟩;have e2:(List.replicate s 0++mul (T.drop s) (npow (mul (T.drop s)) (AJ.one (T.drop s)) x k) x).length=T.length:=by
    rw[Bc,Ad (D.AA.cl (D.AA.npow C.AA k) C.AA),Cv,Bp];omega
   rw[e2,<-Cu (mul (T.drop s))]at N;have g:=AB N;have j:=AB (F.AA.grown O (by omega) (by intro k V;cases V;omega));have Z:w.heap.size<u.heap.size:=Ah l O.size;clear N O e2;go_wp2_with fail;go_roundw;case rel=>exact⟨k+1,by omega,by go_num,g.AA,j.AA,Z⟩
   case measure=>simp[intOf];omega
  .obtain rfl:k=K:=by omega
   go_wp2_with fail;go_ret;have R:(ints (pad s (npow (mul (T.drop s)) (AJ.one (T.drop s)) x k))).length=T.length:=by rw[BK,BS,Ad (D.AA.npow C.AA k),Cv];omega
   exact⟨w.heap.size,T.length,by rw[R];rfl,by rw[R];exact S.AA,F.AA⟩
theorem iB (T:Tw)(hT:Wf T)(W:Small T)(i:Nat)(L:Lv)(R:T[i]?=some L)(hg:AJ.Good (T.drop (i+1)))(w:World)(b o:Nat)(v:Value)(x:List Nat)(hP:BH Any w b o (AZ T))(X:AP Any w v (ints x))
  (O:x.length=T.length) (a0:El (T.drop (i+1)) (x.drop (i+1))):
  Calls Tryz.prog 211 #[.pointer (some ⟨b,o,none⟩),.int .i64 (i:Int),v] w (CX (ints (pad (i+1) (img (T.drop (i+1)) L.c (x.drop (i+1))))) w):=by
 have hi:i<T.length:=(Ak.1 R).1;have b4:=AB (Nu T hT W (i+1) (by omega) hg);have b7:=W.1;have d0:=Fb T.length b7;have D:=AB (En hT R);have HP:=AB hP;obtain⟨d7,c9,vO,vP,vC,d9,d4,d1,a⟩:=hP;obtain⟨aO,cO,aP,cP,aC,cC,rfl,rfl,rfl,e3,d3,e0⟩:=a.open;obtain⟨bC,oC,a2,c2,rfl,d5,c6,c8,d8,r⟩:=a.JM R;obtain⟨aX,cX,rfl,c0⟩:=X.open;rw[O]at c0 X ⊢;have d6:L.c.length=T.length-(i+1):=D.AA.2.1;have HX:=AB X;have c4:=AB r;have a5:=AB W;have b5:=AB a0;have a4:=AB O;have HO:=AB (Own.made (B:=w.heap.size) w T.length AV (by unfold maxLen;omega));obtain⟨V,J⟩:∃V:Nat->Nat->List Nat,V=λm q=>Fs (mul (T.drop (i+1))) (AJ.one (T.drop (i+1))) (AJ.one (T.drop (i+1))) L.c (x.drop (i+1)) m q:=⟨_,rfl⟩;have j:=AB (show∀m q,El (T.drop (i+1)) (V m q) from λm q=>by rw[J];exact Nq (El _) (mul _) (λ_ _ p q=>Bz D.AA.1 p q) _ _ _ _ (CR D.AA.1) (CR D.AA.1) D.AA.2.2.1 m q);have a9:=AB (show V 0 0=AJ.one (T.drop (i+1)) by rw[J];exact MK _ _ _ _ _);have b3:=AB (show∀m q y,L.c[m]?=some y->mul (T.drop (i+1)) (V m q) y=V m (q+1) from λm q y C=>by rw[J];simp only[Na];rw[BG,C];rfl);have b6:=AB (show∀m y,m<T.length-(i+1)->x[i+1+m]?=some y->V m y=V (m+1) 0 from λm y hm C=>by rw[J];exact Nb _ _ _ _ _ _ _ (by rw[D.AA.2.1];omega) (by rw[Fa];exact C));have a8:=AB (show V (T.length-(i+1)) 0=img (T.drop (i+1)) L.c (x.drop (i+1)) from by rw[J];exact Np _ _ _ _ _ _ (by rw[D.AA.2.1];exact Al _) (by rw[Cv,O];exact Al _));clear X a0 O W r a J R hT hg;go_enter Tryz.func211,Tryz.ntmps211;go_wp2_with fail;go_loopw [21] (λg wr=>∃m:Nat,m<=T.length-(i+1)/\g= .int .i64 (m:Int)/\Own w.heap.size wr (.slice (some ⟨w.heap.size,0,none⟩) T.length T.length) (ints (pad (i+1) (V m 0)))/\Below w.heap.size w wr/\w.heap.size<wr.heap.size) (λg _=>T.length-(intOf g).toNat);case atStart=>
  refine⟨0,AX _,rfl,?_,AY.alloc AV _,by simp⟩;have:=HO.AA;rw[JS]at this;rw[a9.AA,Pj T (i+1) (by omega)];exact this
 case round=>
  obtain⟨m,hm,rfl,N,K,Q⟩:=hrel;have I:=AB N;have F:=AB K;have d:=AB (AO (S:=Any) K);clear N K;by_cases c7:m<T.length-(i+1)
  .obtain⟨y,C⟩:∃y,x[i+1+m]?=some y:=⟨_,AU (by rw[a4.AA];omega)⟩;obtain⟨bX,oX,rfl,_,c1,s⟩:=HX.AA.at C;obtain⟨c,U⟩:∃c,L.c[m]?=some c:=⟨_,AU (by omega)⟩;obtain⟨b2,o2,uc,rfl,_,c3,a1,z⟩:=c4.AA m c U;have c5:y<7:=a5.AA.lt b5.AA (by omega) C;have b8:wr.cell? ⟨bX,oX+(i+1+m),none⟩=some (.int .i64 (y:Int)):=by rw[d.AA.cell trivial c1];exact s
   have b1:wr.cell? ⟨b2,o2+m,none⟩=some uc:=by rw[d.AA.cell trivial c3];exact a1
   have hd:decide ((m:Int)<((T.length-(i+1):Nat):Int))=true:=by simp;omega
   have HY:=AB C;have HC:=AB U;have b0:=AB z;have b9:=AB (D.AA.2.2.1 c (Af U));clear C U z s a1;go_wp2_with fail;go_loopw [33] (λZ h=>∃q:Nat,q<=y/\Z= .int .i64 (q:Int)/\Own w.heap.size h (.slice (some ⟨w.heap.size,0,none⟩) T.length T.length) (ints (pad (i+1) (V m q)))/\Below w.heap.size w h/\w.heap.size<h.heap.size) (λZ _=>y-(intOf Z).toNat);case atStart=>exact⟨0,AX _,rfl,I.AA,F.AA,Q⟩
   case round=>
    clear I F d b8 b1;obtain⟨q,hq,rfl,N,K,Q⟩:=hrel;have I:=AB N;have F:=AB K;clear N K;by_cases d2:q<y
    .go_wp2_with fail;refine(b4.AA (λk=>k<w.heap.size) _ b o w.heap.size w.heap.size T.length uc (List.replicate (i+1) 0) (V m q) c ((LQ HP.AA).keep (AO F.AA)) ((OH b0.AA).keep (AO F.AA)) (by omega) (by simp) (j.AA m q) b9.AA I.AA).mono ?_;rintro e w2 ⟨rfl,Y,l⟩;rw[b3.AA m q c HC.AA]at Y;have e2:(List.replicate (i+1) 0++V m (q+1)).length=T.length:=by
      rw[Bc,Ad (j.AA m (q+1)),Cv,Bp];omega
     rw[e2]at Y;have a6:=AB Y;have a7:=AB (F.AA.grown l (by omega) (by intro k hk;cases hk;omega));have a3:w.heap.size<w2.heap.size:=Ah Q l.size;clear Y l e2;go_wp2_with fail;go_roundw;case rel=>exact⟨q+1,by omega,by go_num,a6.AA,a7.AA,a3⟩
     case measure=>simp[intOf];omega
    .obtain rfl:q=y:=by omega
     go_wp2_with fail;go_roundw;case rel=>exact⟨m+1,by omega,by go_num,by rw[<-b6.AA m q (by omega) HY.AA];exact I.AA,F.AA,Q⟩
     case measure=>simp[intOf];omega
  .obtain rfl:m=T.length-(i+1):=by omega
   go_wp2_with fail;go_ret;rw[<-a8.AA];have u:(ints (pad (i+1) (V (T.length-(i+1)) 0))).length=T.length:=by rw[BK,BS,Ad (j.AA _ 0),Cv];omega
   exact⟨w.heap.size,T.length,by rw[u];rfl,by rw[u];exact I.AA,F.AA⟩
end Oc
namespace QA
open RowKit AJ EO Ob DW Oc
theorem qz {T:Tw}(h:Wf T){s j:Nat}(N:s<=j)(L:j<T.length)(hg:AJ.Good (T.drop (j+1))){v:List Nat}(I:El (T.drop s) v):
  (pad s v).take j++tg (T.drop j) ((pad s v).drop j)=pad s (mul (T.drop s) v (unit (T.drop s) (j-s)))/\mul (T.drop s) v (unit (T.drop s) (j-s))=v.take (j-s)++tg (T.drop j) (v.drop (j-s)):=by
 obtain⟨t,rfl⟩:∃t,j=s+t:=⟨j-s,by omega⟩;rw[Nat.add_sub_cancel_left];have D:=DJ h s;have C:(T.drop s).drop t=T.drop (s+t):=by rw[EK]
 have J:T.drop (s+t)=T[s+t]::T.drop (s+t+1):=Dp L;have B:=Gu I t;rw[C]at B;have F:mul (T.drop s) v (unit (T.drop s) t)=v.take t++tg (T.drop (s+t)) (v.drop t):=by
  rw[show unit (T.drop s) t=pad t (unit ((T.drop s).drop t) 0) from(Qv (T.drop s) t 0 (by simp;omega)).symm,RF D t I (Ip (DJ D t) 0) (by simp;omega),C];rw[J]at B ⊢;rw[Pw (by rw[<-J];exact DJ h (s+t)) hg B]
 refine⟨?_,F⟩;have K:(pad s v).take (s+t)=List.replicate s 0++v.take t:=by simp[pad,List.take_append]
 have e2:(pad s v).drop (s+t)=v.drop t:=by simp[pad,List.drop_append]
 rw[K,e2,Dy,F];rfl
def Lf (T:Tw)(s:Nat)(x:List Nat)(w:World)(e:Ending)(w':World):Prop:=∃y,(El (T.drop s) y/\mul (T.drop s) x y=AJ.one (T.drop s))/\CX (ints (pad s y)) w e w'
theorem mg {T:Tw}{i:Nat}{L:Lv}(D:T[i]?=some L){s:Nat}(F:s<=i){R:List Nat}{a:Nat}(ha:R[i-s]?=some a):
  (R.take (i-s)++tg (T.drop i) (R.drop (i-s)))[i-s]?=some (if a+1=L.o then 0 else a+1)/\(R.take (i-s)++tg (T.drop i) (R.drop (i-s))).take (i-s)=R.take (i-s):=by
 have B:i-s<R.length:=(Ak.1 ha).1;have C:(R.take (i-s)).length=i-s:=by rw[Ec];omega
 rw[EB D,Dp B,(Ak.1 ha).2,tg];constructor
 .rw[DC (by omega),C,Gy];rfl
 .rw[List.take_append_of_le_length (by omega),Jh (by omega)]
def left (o a:Nat):Nat:=if a=0 then 0 else o-a
theorem O7 (T:Tw)(hT:Wf T)(hs:Small T)(s:Nat)(h:s<=T.length)(hg:AJ.Good (T.drop s))(w:World)(b o:Nat)(va:Value)(x:List Nat)(hP:BH Any w b o (AZ T))(ha:AP Any w va (ints (pad s x)))(hn:NN va)
  (hx:El (T.drop s) x):
  Calls Tryz.prog 143 #[.pointer (some ⟨b,o,none⟩),va] w (Lf T s x w):=by
 have u:∀j,s<=j->AJ.Good (T.drop j):=λj hj=>by have:=KQ hg (j-s);rwa[EK,IV hj]at this
 have b1:=AB (λj (h1:s<=j) (h2:j<T.length)=>tL T hT hs j h2 (u j h1));have b7:=AB (λj (h1:s<=j) (h2:j<T.length) {v:List Nat} (hv:El (T.drop s) v)=>qz hT h1 h2 (u (j+1) (by omega)) hv);have J:=AB (BA (DJ hT s) hg);have z:(pad s x).length=T.length:=by rw[BS,Ad hx,Cv];omega
 have HL:=AB (show(ints (pad s x)).length=T.length by rw[BK];exact z);have d1:=hs.1;have d6:=Fb T.length d1;have HP:=AB hP;have HN:=AB hn;obtain⟨aA,cA,rfl,c7⟩:=ha.open;rw[z]at c7 ha ⊢;rw[z]at HN;have W:=AB ha;have HX:=AB hx;have c0:=AB hs;have HT:=AB hT;have d9:=AB u;clear hP ha z hx hn hs hT hg u;go_enter Tryz.func143,Tryz.ntmps143;go_wp2_with fail;refine(Te Any _ (ints (pad s x)) _ W.AA HN.AA (by rw[HL.AA];omega)).mono ?_;rintro e I ⟨r,c1,rfl,a2,Y⟩;rw[HL.AA]at a2 ⊢;have d7:=a2.lt;have b5:=AB (a2.alloc (.cells (madeCells #[.int .i64 0] T.length) 2));have p:=AB (Own.made (B:=w.heap.size) I T.length Y.size (by unfold maxLen;omega));have b8:=AB (Y.alloc Y.size (.cells (madeCells #[.int .i64 0] T.length) 2));have d5:=Y.size;clear a2 Y;go_wp2_with fail;go_loopw [15] (λiv wr=>∃i:Nat,i<=T.length/\iv= .int .i64 (i:Int)/\∃R O:List Nat,Own w.heap.size wr (.slice (some ⟨r,0,none⟩) T.length c1) (ints (pad s R))/\Own w.heap.size wr (.slice (some ⟨I.heap.size,0,none⟩) T.length T.length) (ints (pad s O))/\
   Hid (El (T.drop s) R/\El (T.drop s) O/\mul (T.drop s) x O=R/\R.take (i-s)=List.replicate (i-s) 0)/\Below w.heap.size w wr/\I.heap.size<wr.heap.size) (λiv _=>T.length-(intOf iv).toNat)
 case atStart=>
  refine⟨0,AX _,rfl,x,AJ.one (T.drop s),b5.AA,?_,AB ⟨HX.AA,J.AA.me,J.AA.eR HX.AA,by simp⟩,b8.AA,by simp⟩;have:=p.AA;rw[JS]at this;rw[Pj T s h];exact this
 case round=>
  obtain⟨i,hi,rfl,R,O,Q,Z,C,l,a0⟩:=hrel;have d:=AB Q;have N:=AB Z;have K:=AB l;clear Q Z l b5 p b8;by_cases V:i<T.length
  .have hd:decide ((i:Int)<(T.length:Int))=true:=by simp;omega
   obtain⟨L,hL⟩:∃L,T[i]?=some L:=⟨_,AU V⟩;have d8:L.o<=7:=c0.AA.2 L (Af hL);have b0:=AB hL;clear hL;go_wp2_with fail;go_loopg [18] (left L.o ((pad s R).getD i 0)) (λk _ wi=>∃R O:List Nat,Own w.heap.size wi (.slice (some ⟨r,0,none⟩) T.length c1) (ints (pad s R))/\Own w.heap.size wi (.slice (some ⟨I.heap.size,0,none⟩) T.length T.length) (ints (pad s O))/\
    Hid (El (T.drop s) R/\El (T.drop s) O/\mul (T.drop s) x O=R/\R.take (i-s)=List.replicate (i-s) 0/\k=left L.o ((pad s R).getD i 0))/\Below w.heap.size w wi/\I.heap.size<wi.heap.size)
   case atStart=>exact⟨R,O,d.AA,N.AA,AB ⟨C.AA.1,C.AA.2.1,C.AA.2.2.1,C.AA.2.2.2,rfl⟩,K.AA,a0⟩
   case round=>
    clear d N K C;obtain⟨R,O,Q,Z,C,l,a0⟩:=hrel;have c8:(pad s R).length=T.length:=by rw[BS,Ad C.AA.1,Cv];omega
    obtain⟨a,ha⟩:∃a,(pad s R)[i]?=some a:=⟨_,AU (by omega)⟩;obtain⟨s1,f1⟩:=Q.cell (j:=i) (a:=(a:Int)) (by rw[Dt,ha];rfl);have b4:(pad s R).getD i 0=a:=by rw[BG,ha];rfl
    have d4:=AB b4;have W:=AB ha;have d:=AB Q;have N:=AB Z;have K:=AB l;clear Q Z l ha b4 c8;by_cases q:a=0
    .subst q;have c3:=AB (show R.take (i+1-s)=List.replicate (i+1-s) 0 from by
      by_cases F:i<s
      .rw[show i+1-s=0 by omega];rfl
      .have ha:=W.AA;rw[pad,DC (by simp;omega)]at ha;simp only[Bp]at ha;rw[show i+1-s=(i-s)+1 by omega,EL,C.AA.2.2.2.1,ha,IK];rfl)
     go_wp2_with fail;go_roundw;case rel=>exact⟨i+1,by omega,by go_num,R,O,d.AA,N.AA,AB ⟨C.AA.1,C.AA.2.1,C.AA.2.2.1,c3.AA⟩,K.AA,a0⟩
     case measure=>simp[intOf];omega
    .have h1:((a:Int) !=0)=true:=by simpa using q
     have F:s<=i:=by
      apply Nat.le_of_not_lt;intro F;have ha:=W.AA;rw[pad,DK (by simp;omega)]at ha;simp[F]at ha;omega
     have y:R[i-s]?=some a:=by
      have ha:=W.AA;rw[pad,DC (by simp;omega)]at ha;simpa using ha
     have e0:a<L.o:=by
      obtain⟨L',b2,c6⟩:=Gb C.AA.1 y;rw[Fa,IV F,b0.AA]at b2;cases b2;exact c6
     have e3:=AB y;have a5:=(b7.AA i F V C.AA.1);have a6:=(b7.AA i F V C.AA.2.1);obtain⟨U,hU⟩:∃U,U=unit (T.drop s) (i-s):=⟨_,rfl⟩;rw[<-hU]at a5 a6;have g:=AB (show El (T.drop s) U by rw[hU];exact Ip (DJ HT.AA s) _);have b6:=AB (mg b0.AA F y);have a9:=AB a5;have p:=AB a6;have a1:=AB (show∀X:List Nat,El (T.drop s) X->(pad s X).length=T.length from λX hX=>by rw[BS,Ad hX,Cv];omega);clear y a5 a6 hU;go_wp2_with fail;refine(b1.AA i F V (λk=>k<w.heap.size) _ b o w.heap.size r c1 (pad s R) ((LQ HP.AA).keep (AO K.AA)) (by omega) (a1.AA R C.AA.1) (by have:=Gu C.AA.1 (i-s);rw[EK,IV F]at this;rw[show(pad s R).drop i=R.drop (i-s) by simp[pad,List.drop_append];omega];exact this) d.AA).mono ?_;rintro e w2 ⟨rfl,a8,a4⟩;rw[a9.AA.1,a1.AA _ (J.AA.cl C.AA.1 g.AA)]at a8;have c2:=AB a8;have d2:=AB (N.AA.keep (S:=λk=>¬k=r) (Keep.grown a4 (λk D e=>D (IL e))) (λk D=>by simp[Value.ownBlock]at D;omega));have b3:=AB (K.AA.grown a4 (by omega) (by intro k D;cases D;omega));have b9:I.heap.size<w2.heap.size:=Ah a0 a4.size;clear a8 a4 s1 f1;go_wp2_with fail;refine(b1.AA i F V (λk=>k<w.heap.size) _ b o w.heap.size I.heap.size T.length (pad s O) ((LQ HP.AA).keep (AO b3.AA)) (by omega) (a1.AA O C.AA.2.1) (by have:=Gu C.AA.2.1 (i-s);rw[EK,IV F]at this;rw[show(pad s O).drop i=O.drop (i-s) by simp[pad,List.drop_append];omega];exact this) d2.AA).mono ?_;rintro e w3 ⟨rfl,a7,a3⟩;rw[p.AA.1,a1.AA _ (J.AA.cl C.AA.2.1 g.AA)]at a7;have c9:=AB a7;have d3:=AB (c2.AA.keep (S:=λk=>¬k=I.heap.size) (Keep.grown a3 (λk D e=>D (IL e))) (λk D=>by simp[Value.ownBlock]at D;omega));have c5:=AB (b3.AA.grown a3 (by omega) (by intro k D;cases D;omega));have c4:I.heap.size<w3.heap.size:=Ah b9 a3.size;clear a7 a3;go_wp2_with fail;go_roundg (left L.o ((pad s (mul (T.drop s) R U)).getD i 0));case measure=>
      have d0:(pad s (mul (T.drop s) R U)).getD i 0=if a+1=L.o then 0 else a+1:=by
       rw[BG,pad,DC (by simp;omega),Bp,a9.AA.2,b6.AA.1];rfl
      rw[C.AA.2.2.2.2,d4.AA,d0];unfold left;by_cases hc:a+1=L.o
      .rw[BQ hc,BQ rfl,BF q];omega
      .rw[BF hc,BF (by omega),BF q];omega
     case rel=>
      exact⟨mul (T.drop s) R U,mul (T.drop s) O U,d3.AA,c9.AA,AB ⟨J.AA.cl C.AA.1 g.AA,J.AA.cl C.AA.2.1 g.AA,by rw[<-J.AA.Ag HX.AA C.AA.2.1 g.AA,C.AA.2.2.1],by rw[a9.AA.2,b6.AA.2];exact C.AA.2.2.2.1,rfl⟩,c5.AA,c4⟩
  .obtain rfl:i=T.length:=by omega
   go_wp2_with fail;go_ret;have e1:(ints (pad s O)).length=T.length:=by rw[BK,BS,Ad C.AA.2.1,Cv];omega
   have e2:R=AJ.one (T.drop s):=by
    have:=C.AA.2.2.2;rw[Jh (by rw[Ad C.AA.1,Cv];exact Al _)]at this;rw[this];simp[AJ.one]
   exact⟨O,⟨C.AA.2.1,by rw[C.AA.2.2.1,e2]⟩,I.heap.size,T.length,by rw[e1];rfl,by rw[e1];exact N.AA,K.AA⟩
end QA
namespace OQ
open RowKit AJ EO Ob DW Oc QA
def Jn (a b:List Int)(w:World)(e:Ending)(w':World):Prop:=e= .returned (.bool (decide (a=b)))/\∃n,w'=w.drewN n
def xH (T:Tw)(s:Nat)(a c:List Nat)(w:World)(e:Ending)(w':World):Prop:=∃z,(El (T.drop s) z/\mul (T.drop s) c z=mul (T.drop s) a c)/\CX (ints (pad s z)) w e w'
theorem TJ (T:Tw)(hT:Wf T)(Y:Small T)(s:Nat)(h:s<=T.length)(hg:AJ.Good (T.drop s))(w:World)(b o:Nat)(I K:Value)(x y:List Nat)(F:BH Any w b o (AZ T))(ha:AP Any w I (ints (pad s x)))(J:NN I)(O:AP Any w K (ints (pad s y)))(g:NN K)
  (D:El (T.drop s) x) (B:El (T.drop s) y):
  Calls Tryz.prog 86 #[.pointer (some ⟨b,o,none⟩),I,K] w (xH T s x y w):=by
 have G:=BA (DJ hT s) hg;have HI:=AB (λW F ha J=>O7 T hT Y s h hg W b o K y F ha J B);have i:=AB (λW I r x y F ha J O D B=>Qc T hT Y s h hg W b o I r x y F ha J O D B);have C:=AB G;have R:=AB F;have HA:=AB ha;have j:=AB O;have U:=AB (And.intro J g);clear F ha O J g G;go_enter Tryz.func86,Tryz.ntmps86;go_wp2_with fail;refine(HI.AA _ R.AA j.AA U.AA.2).mono ?_;rintro e w1 ⟨z,⟨Z,a⟩,g1,c1,rfl,d,V⟩;have a1:=AB d;have L:=AB V;have Q:=AB (And.intro Z a);clear d V Z a;go_wp2_with fail;refine(i.AA _ I K x y (R.AA.keep (AO L.AA)) (HA.AA.keep (AO L.AA)) U.AA.1 (j.AA.keep (AO L.AA)) D B).mono ?_;rintro e w2 ⟨g2,c2,rfl,l,S⟩;have u:=AB l;have N:=AB (L.AA.trans (S.mono L.AA.size));have a0:=AB (a1.AA.of_below S);clear l S;go_wp2_with fail;refine(i.AA _ _ _ z (mul (T.drop s) x y) (R.AA.keep (AO N.AA)) (a0.AA.sl.mono (λ_ _=>trivial)) (RL _ _ _) (u.AA.sl.mono (λ_ _=>trivial)) Q.AA.1 (C.AA.cl D B)).mono ?_;rintro e w3 ⟨q,c3,rfl,X,p⟩;have v:=AB (X.mono (B':=w.heap.size) N.AA.size);have a2:=AB (N.AA.trans (p.mono N.AA.size));clear X p;go_wp2_with fail;go_ret;exact⟨mul (T.drop s) z (mul (T.drop s) x y),⟨C.AA.cl Q.AA.1 (C.AA.cl D B),by rw[<-C.AA.Ag B Q.AA.1 (C.AA.cl D B),Q.AA.2,C.AA.eL (C.AA.cl D B)]⟩,q,c3,rfl,v.AA,a2.AA⟩
theorem TI (n k:Nat)(I:n<=6)(K:k<n)(w:World):
  Calls Tryz.prog 77 #[.int .i64 (n:Int),.int .i64 (k:Int)] w (CX (ints ((List.replicate n 0).set k 1)) w):=by
 have O:=Fb n I;have D:=Own.made (B:=w.heap.size) w n AV (by unfold maxLen;omega);obtain⟨N,L⟩:=D.cell (j:=k) (a:=0) (by simp[K]);have C:=JD (base:=w.heap.size) (e:=2) (size:=1) w ((madeCells #[.int .i64 0] n).setIfInBounds k (.int .i64 1)) n AV (by unfold maxLen;omega) (by simp[madeCells]);have J:=AB (show Own w.heap.size (w.alloc (.cells ((madeCells #[.int .i64 0] n).setIfInBounds k (.int .i64 1)) 2)) (.slice (some ⟨w.heap.size,0,none⟩) n n) (ints ((List.replicate n 0).set k 1)) from by
  unfold Own;rw[Array.toList_setIfInBounds,Kc]at C;simpa[vals,ints]using C)
 clear D C;go_enter Tryz.func77,Tryz.ntmps77;go_wp2_with fail;go_ret;have F:(ints ((List.replicate n 0).set k 1)).length=n:=by simp[ints]
 exact⟨w.heap.size,n,by rw[F];rfl,by rw[F];exact J.AA,AY.alloc AV _⟩
theorem LC (w:World)(X W:Value)(a b:List Int)(ha:AP Any w X a)(g:AP Any w W b):
  Calls Tryz.prog 79 #[X,W] w (Jn a b w):=by
 obtain⟨aA,cA,rfl,_,C,_,N⟩:=ha;obtain⟨aB,cB,rfl,_,O,_,S⟩:=g;unfold maxLen at C O;have q:(a.length:Int)<=9223372036854775807:=by omega
 have a1:=AB C;have a4:=AB O;clear C O;by_cases L:a.length=b.length
 .have Z:((a.length:Int) !=(b.length:Int))=false:=by simp;omega
  have d:=AB N;have l:=AB S;have I:=AB L;clear N S L;go_enter Tryz.func79,Tryz.ntmps79;go_wp2_with fail;go_loopw [13] (λi wr=>∃k:Nat,k<=a.length/\i= .int .i64 (k:Int)/\Hid ((∀j,j<k->a[j]?=b[j]?)/\∃n,wr=w.drewN n)) (λi _=>a.length-(intOf i).toNat);case atStart=>exact⟨0,AX _,rfl,AB ⟨λj h=>absurd h (CS _),0,rfl⟩⟩
  case round=>
   obtain⟨k,hk,rfl,Q⟩:=hrel;obtain⟨m,Y⟩:=Q.AA.2;subst Y;by_cases F:k<a.length
   .obtain⟨x,R⟩:∃x,a[k]?=some x:=⟨_,AU F⟩;obtain⟨y,J⟩:∃y,b[k]?=some y:=⟨_,AU (by rw[<-I.AA];exact F)⟩;obtain⟨bA,oA,rfl,_,a3,u,r,rfl⟩:=d.AA k x R;obtain⟨bB,oB,rfl,_,a2,u,z,rfl⟩:=l.AA k y J;have a0:k<b.length:=by rw[<-I.AA];exact F
    have K:=AB R;have V:=AB J;have v:(k:Int)<(a.length:Int):=by omega
    have s:(0:Int)<=(k:Int):=by omega
    have w6:(k:Int)<(b.length:Int):=by omega
    clear R J;by_cases B:x=y
    .have p:(x !=y)=false:=by simp[B]
     have D:=AB B;clear B;go_wp2_with fail;go_quiet (fail);go_wp2_with fail;go_roundw;case rel=>exact⟨k+1,by omega,by go_num,AB ⟨λj U=>by
       rcases DF.1 U with h|h
       .exact Q.AA.1 j h
       .subst h;rw[K.AA,V.AA,D.AA],m+nq,by first|rfl|rw[Kg]⟩⟩
     case measure=>simp[intOf];omega
    .have p:(x !=y)=true:=by simpa using B
     have D:=AB B;clear B;go_wp2_with fail;go_quiet (fail);go_wp2_with fail;go_ret;refine⟨OT ?_,m+nq,by first|rfl|rw[Kg]⟩
     symm
     rw[decide_eq_false_iff_not];intro e;rw[e,V.AA]at K;exact D.AA (IL K.AA).symm
   .obtain rfl:k=a.length:=by omega
    go_wp2_with fail;go_ret;refine⟨OT ?_,m,rfl⟩
    symm
    rw[Lc];apply GN;intro j;by_cases U:j<a.length
    .exact Q.AA.1 j U
    .rw[Dq (by omega),Dq (by rw[<-I.AA];omega)]
 .have Z:((a.length:Int) !=(b.length:Int))=true:=by simp;omega
  clear N S;go_enter Tryz.func79,Tryz.ntmps79;go_wp2_with fail;go_ret;refine⟨OT ?_,0,rfl⟩
  symm
  rw[decide_eq_false_iff_not];intro e;exact L (by rw[e])
end OQ
end Go.Proofs.YtgjadpmbnejaoaaGreat
