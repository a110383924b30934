import Derived.Test.YtgjadpmbnejaoaaGreatZC
/-
  Lemmas for the law FnAutomorphisms, in short spelling.
-/
set_option linter.unusedVariables false
set_option linter.unusedSimpArgs false
set_option maxRecDepth 100000
set_option maxHeartbeats 40000000
namespace Go.Proofs.YtgjadpmbnejaoaaGreat
namespace Vh
open RowKit AJ BN CP Fe Dr BU QS Dk Lr
theorem WZ (T:Tw)(hs:Small T)(w:World)(b o:Nat)(Q:Value)(us:List (List Nat))(x:BH Any w b o (AZ T))(B:AQ Any w Q (us.map ints))(z:us.length<=1000)(C:∀u∈us,El T u/\dep u<T.length)(p:sz (BI T us)<=729):
  Calls Tryz.prog 49 #[.pointer (some ⟨b,o,none⟩),Q] w λe w'=>e= .returned (.int .i64 (sz (BI T us):Int))/\Below w.heap.size w w':=by
 have b1:=hs.1;have HP:=AB x;have F:=AB C;have HZ:=AB p;have a6:=AB (Wd w Q us B z (λu B=>by have h:=C u B;have:=Ad h.1;omega));obtain⟨m,Z⟩:∃m,us.length=m:=⟨_,rfl⟩;have R:=AB Z;have a5:=AB (show∀V:List (List Nat),(∀u∈V,dep u<T.length/\∃L,T[dep u]?=some L/\0<L.o)->0<sz (BI T V) from λV=>by
  induction V with
  |nil=>intro _;simp[BI,sz]
  |cons v V ih=>
   intro h;obtain⟨_,L,D,I⟩:=h v CJ;have K:=ih λu B=>h u (CW _ B);rw[BI,sz];show 0<oF T (dep v)*_;rw[He D];exact Nat.mul_pos I K)
 have a0:=AB (λu (h:u∈us)=>show∃L,T[dep u]?=some L from⟨_,AU (C u h).2⟩);rw[Z]at z;clear x B C p Z;go_enter Tryz.func49,Tryz.ntmps49;go_wp2_with fail;refine a6.AA.mono ?_;rintro e w1 ⟨vp,rfl,O,g⟩;obtain⟨aP,cP,rfl,_⟩:=O.open;rw[BC,R.AA]at O ⊢;have a8:=AB O;have a4:=AB g;obtain⟨-, b2,vO,vP,vC,p0,p1,p2,W⟩:=HP.AA.keep (AO g);obtain⟨aO,cO,b9,b0,aC,cC,rfl,rfl,rfl,-, -, -⟩:=W.open;have HV:=AB W;clear O g W p1 p2;go_wp2_with fail;go_loop [5,11] (λsv X=>∃k s:Nat,k<=m/\X= .int .i64 (k:Int)/\sv= .int .i64 (s:Int)/\Hid (s*sz (BI T (us.drop k))=sz (BI T us))) (λ_ X=>m-(intOf X).toNat);case atStart=>exact⟨0,1,AX _,rfl,rfl,AB (by simp)⟩
 case round=>
  obtain⟨k,s,hk,rfl,rfl,a⟩:=hrel;by_cases y:k<m
  .obtain⟨u,B⟩:∃u,us[k]?=some u:=⟨_,AU (by rw[R.AA];exact y)⟩;obtain⟨L,C⟩:=a0.AA u (Af B);obtain⟨bP,oP,rfl,_,b4,a7⟩:=AP.at a8.AA (j:=k) (q:=dep u) (by rw[Bh,B];rfl);obtain⟨bO,oO,rfl,-, a9,a3⟩:=HV.AA.ord C;obtain⟨d,Y⟩:∃d,dep u=d:=⟨_,rfl⟩;rw[Y]at a7 a3;have c0:d<T.length:=by rw[<-Y];exact(F.AA u (Af B)).2
   have N:=AB (show s*L.o*sz (BI T (us.drop (k+1)))=sz (BI T us) from by
    have J:=a.AA;obtain⟨K,e⟩:=Ak.1 B;rw[Dp K,e,BI,sz]at J;have U:s*(oF T (dep u)*sz (BI T (us.drop (k+1))))=sz (BI T us):=J;rw[He C,<-Nat.mul_assoc]at U;exact U)
   obtain⟨t,S⟩:∃t,s*L.o=t:=⟨_,rfl⟩;rw[S]at N;have b5:t<=729:=by
    rcases Nat.eq_zero_or_pos (sz (BI T (us.drop (k+1))))with I|I
    .have J:=N.AA;rw[I,Nat.mul_zero]at J;exfalso;have b8:=a5.AA us (λu B=>?_)
     .omega
     .obtain⟨L2,a1⟩:=a0.AA u B;refine⟨(F.AA u B).2,L2,a1,?_⟩;obtain⟨L',D,b6⟩:=Gb (F.AA u B).1 (AU (l:=u) (i:=dep u) (by rw[Ad (F.AA u B).1];exact(F.AA u B).2));rw[a1]at D;injection D with D;subst D;omega
    .have J:=N.AA;have K:=HZ.AA;have U:t*1<=t*sz (BI T (us.drop (k+1))):=Nat.mul_le_mul AV I;omega
   have hw:IntKind.i64.wrap ((s:Int)*(L.o:Int))=(t:Int):=by
    have h:((s:Int)*(L.o:Int))=((t:Nat):Int):=by rw[<-S];push_cast;rfl
    rw[h,Ac _ (by omega)]
   have b3:(d:Int)<(T.length:Int):=by omega
   have b7:(0:Int)<=(d:Int):=by omega
   have a2:decide ((k:Int)<(m:Int))=true:=by simp;omega
   have r:=AB y;clear B C S Y;go_wp2_with fail;go_round;case rel=>exact⟨k+1,t,by have:=r.AA;omega,by go_num,by first|rfl|simp[hw],N⟩
   case measure=>have:=r.AA;simp[intOf];omega
  .obtain rfl:k=m:=by omega
   have a2:decide ((k:Int)<(k:Int))=false:=by simp
   have HE:=AB (show s=sz (BI T us) from by
    have h:=a.AA;rw[P6 (by rw[R.AA];exact Al _)]at h;simpa[BI,sz]using h)
   clear a;go_wp2_with fail;go_ret;exact⟨by rw[HE.AA];rfl,a4.AA⟩
end Vh
namespace IA
open RowKit AJ Val BN Dk Lr Sk Sl Dn NF Lp Hz
open BU(Any)
open Bj(Aa)
theorem Ra {T:Tw}(hT:Wf T)(F:Small T):(∀r∈Db T,(∀l∈r,DZ T.length l)/\r.length<=1000)/\(Db T).length<=1000:=by
 have K:=F.1;refine⟨λr D=>?_,?_⟩
 .rcases DY.1 D with D|D
  .obtain⟨i,hi,rfl⟩:=BX.1 D;have hi:=Cg.1 hi;obtain⟨L,C⟩:∃L,T[i]?=some L:=⟨_,AU hi⟩;obtain⟨R,I,Q⟩:=Nz hT F (GG hT C).1 (LB hT F C).1;have S:=F.2 L (Af C);rw[Uv C];refine⟨λl B=>?_,by rw[Bc,Bp];omega⟩;rcases DY.1 B with B|B
   .rw[List.eq_of_mem_replicate B];exact .inl ⟨by omega,by omega⟩
   .exact Nj I l B
  .obtain⟨i,hi,D⟩:=List.mem_flatMap.1 D;obtain⟨k,N,rfl⟩:=BX.1 D;have hi:=Cg.1 hi;have N:=Cg.1 N;obtain⟨L,C⟩:∃L,T[i]?=some L:=⟨_,AU hi⟩;obtain⟨y,J⟩:∃y,L.c[k]?=some y:=⟨_,AU (by have:=(GG hT C).2.1;omega)⟩;have O:=Af J;obtain⟨R,I,Q⟩:=Nz hT F ((GG hT C).2.2 y O) ((LB hT F C).2 y O);rw[Uw C J];refine⟨λl B=>?_,by rw[Bc];simp;omega⟩;rcases DY.1 B with B|B
   .simp only[EE,List.not_mem_nil,or_false]at B;rcases B with rfl|rfl|rfl
    .exact .inr ⟨by omega,by omega⟩
    .exact .inl ⟨by omega,by omega⟩
    .exact .inl ⟨by omega,by omega⟩
   .exact Nj I l B
 .have V:=Vg.Nn T T.length;have U:T.length*T.length<=6*6:=Nat.mul_le_mul K K;rw[Db,Bc,BC,List.length_range,List.length_flatMap];omega
theorem uV {T:Tw}{l:List Int}(h:Be (AZ T).os 0 l):∃x,l=ints x/\El T x:=by
 have F:∀(j:Nat) (x o:Int),l[j]?=some x->(AZ T).os[j]?=some o->0<=x/\x<o:=λj x o D C=>⟨(h.2 j x o D C).1,(h.2 j x o D C).2.1⟩;refine⟨Eo l,(Tm (λy K=>?_)).symm,YV rfl h.1 F⟩;obtain⟨j,B⟩:=Eb K;have J:=(Ak.1 B).1;obtain⟨o,I⟩:∃o,(AZ T).os[j]?=some o:=⟨_,AU (by rw[<-h.1];exact J)⟩;exact(F j y o B I).1
theorem Ph {T:Tw}{x:List Nat}(h:El T x):Be (AZ T).os 0 (ints x):=by
 refine⟨by rw[BK,Jv,Ad h],λj y q C B=>?_⟩;rw[Dt,Hg]at C;obtain⟨a,ha,rfl⟩:=C;obtain⟨L,D,F⟩:=Gb h ha;rw[NQ T j L D]at B;cases B;exact⟨by simp,by simp;omega,λh=>absurd h (CS _)⟩
def Cc (P:BZ)(ls:List (List Int)):Prop:=∃T a,P=AZ T/\ls=a.map ints/\Ba.BR P/\BD T T a
theorem Uf {T:Tw}:∀{ls:List (List Int)},(∀l∈ls,Be (AZ T).os 0 l)->∃a:List (List Nat),ls=a.map ints/\∀c∈a,El T c
 |[],_=>⟨[],rfl,by simp⟩
 |l::ls,h=>by
  obtain⟨a,e,D⟩:=Uf (ls:=ls) λx C=>h x (CW _ C);obtain⟨x,rfl,C⟩:=uV (h l CJ);exact⟨x::a,by rw[e];rfl,λc B=>by
   rcases EE.1 B with rfl|B
   .exact C
   .exact D c B⟩
theorem Cc.parts {T:Tw}{a:List (List Nat)}(h:Cc (AZ T) (a.map ints)):BD T T a:=by
 obtain⟨F,D,B,e2,_,h⟩:=h;obtain rfl:=Ba.FK B;have C:a=D:=List.map_inj_right (λx y e=>Km.LJ.1 e) |>.1 e2;rw[C];exact h
theorem pJ (w:World)(vO vP z vi:Value)(P:BZ)(ls:List (List Int))(hP:Av Any w vO vP z P)(hi:AQ Any w vi ls):
  Calls Tryz.prog 38 #[.agg #[vO,vP,z],.agg #[vO,vP,z],vi] w (Ff (Cc P ls) w):=by
 obtain⟨aI,cI,rfl,_,_⟩:=Am.form hi;obtain⟨y,a0⟩:∃n,ls.length=n:=⟨_,rfl⟩;rw[a0]at hi ⊢;obtain⟨aO,cO,rfl,_,_⟩:=Am.form hP.os;obtain⟨x,a5⟩:∃n,P.os.length=n:=⟨_,rfl⟩;rw[a5]at hP ⊢;obtain⟨g,hg⟩:∃g,w.heap.size=g:=⟨_,rfl⟩;obtain⟨B,a7⟩:∃B,B=(w.alloc (.cells #[.slice aO x cO,vP,z] 28)).alloc (.cells #[.slice aO x cO,vP,z] 28):=⟨_,rfl⟩;have b1:Below w.heap.size w B:=by rw[a7];exact(AY.alloc AV _).alloc (by simp) _
 have e8:B.heap.size=g+2:=by rw[a7,<-hg];simp
 have e0:B.heap[g]?=some (.cells #[.slice aO x cO,vP,z] 28 (0,0)):=by rw[a7,<-hg];exact(Ji _ _ (by simp)).trans (Aj w _)
 have d2:B.heap[g+1]?=some (.cells #[.slice aO x cO,vP,z] 28 (0,0)):=by rw[a7,<-hg];exact Bj.IZ w _ _
 have I:=AB (λ(W:World) (D:Below B.heap.size B W)=>And.intro (Aa ((D.block g (by omega)).trans e0)).1 (And.intro (Aa ((D.block (g+1) (by omega)).trans d2)).1 (And.intro (show g+1<W.heap.size by have:=D.size;omega) (And.intro ((hP.keep (AO b1)).keep (AO (S:=Any) D)) ((hi.keep (AO b1)).keep (AO (S:=Any) D))))));have a6:=AB (λ(W:World) (D:Below B.heap.size B W)=>show BH Any W g 0 P/\BH Any W (g+1) 0 P by
  obtain⟨⟨Z,Y,O⟩,⟨V,X,U⟩,Q,i,-⟩:=I.AA W D;exact⟨⟨trivial,by omega,_,_,_,Z,Y,O,i⟩,⟨trivial,Q,_,_,_,V,X,U,i⟩⟩)
 have HB:=AB (λ(W:World) (D:Below B.heap.size B W)=>b1.trans (D.mono b1.size));have f5:=AB a0;have e7:=AB a5;have a9:=AB (Mi.LA B _ _ _ P (I.AA B AY).2.2.2.1);have b6:=AB (λ(W:World) (D:Below B.heap.size B W)=>Kq.V5 W (g+1) 0 P (.slice aI y cI) ls (a6.AA W D).2 (I.AA W D).2.2.2.2);have a8:=AB (λ(W:World) (D:Below B.heap.size B W) (h:¬Cc P ls)=>show Ff (Cc P ls) w (.returned (.bool false)) W from⟨false,rfl,⟨λe=>Bool.noConfusion e,λh'=>absurd h' h⟩,HB.AA W D⟩);clear hP hi b1 e8 e0 d2 a0 a5;go_enter Tryz.func38,Tryz.ntmps38;go_upto_region 1 with fail;rw[<-a7];obtain⟨⟨Z,Y,O⟩,⟨V,X,U⟩,Q,-⟩:=I.AA B AY;have q:g<B.heap.size:=by omega
 clear a7 hg;by_cases R:Ba.BR P
 .by_cases hE:∀l∈ls,Be P.os 0 l
  .obtain⟨T,eT,gT⟩:∃T,P=AZ T/\Ba.BR (AZ T):=by
    obtain⟨T,_,_,e,_⟩:=id R;exact⟨T,e,by rw[<-e];exact R⟩
   subst eT;obtain⟨a,rfl,a3⟩:=Uf hE;obtain⟨hT,K,j,a4⟩:=EM.FJ gT;have b4:=(QL.RU gT).2;have a2:=AB gT;have c1:=AB (And.intro R hE);have f8:=AB a3;have a5:T.length=x:=by rw[<-e7.AA,Jv]
   have a0:a.length=y:=by rw[<-f5.AA,BC]
   have g1:=AB (And.intro a5 a0);have b7:=AB (λ(W:World) (D:Below B.heap.size B W)=>And.intro (Gz.Gs T hT K.1 b4 W g 0 (a6.AA W D).1) (Gz.Gs T hT K.1 b4 W (g+1) 0 (a6.AA W D).2));have d1:=AB (λ(W:World) (D:Below B.heap.size B W)=>Vg.kg T gT hT K W _ _ _ (I.AA W D).2.2.2.1);have f9:=AB (And.intro hT (And.intro K (And.intro j a4)));have HZ:=AB b4;by_cases c2:y=x
   .subst c2;have h6:y<=6:=by have:=K.1;omega
    have c8:=AB (λ(W:World) (D:Below B.heap.size B W) (v:Value) (i:AQ Any W v (Db T))=>gL T hT K j W (g+1) 0 (a6.AA W D).2 v (.slice aI y cI) (Db T) a i (I.AA W D).2.2.2.2 a3 (λr C=>by rw[show a.length=T.length by omega];exact(Ra hT K).1 r C) (Ra hT K).2 (by omega));have e9:=AB (λ(W:World) (D:Below B.heap.size B W)=>Sm.pK T hT K j a4 W (g+1) 0 (.slice aI y cI) a (a6.AA W D).2 (I.AA W D).2.2.2.2 a3 (by omega));have f6:=AB (λ(W:World) (D:Below B.heap.size B W) (v:Value) (us:List (List Nat)) (b:Hy.Dl T a us) (i:AQ Any W v (us.map ints))=>Vh.WZ T K W (g+1) 0 v us (a6.AA W D).2 i (by have:=b.le;have:=K.1;omega) (λu hu=>⟨b.el u hu,b.dep u hu⟩) (by
     have h:=(RY hT us 0 (AX _) (QR.Pg hT j a4 b).1 λ_ _=>AX _).2.1;rw[List.drop_zero]at h;omega))
    have e3:=AB (YS hT j a3 (by omega));have f7:=AB (λus (hR:Rel (mul T) (AJ.one T) T a) (b:Hy.Dl T a us)=>And.intro (Xa hT j a4 a3 hR b) (pE hT j a4 b));clear hT K j a4 b4 gT R hE a3 a5 a0;go_upto_region 3 with(first|(go_at_call 47;refine a9.AA.mono ?_;rintro e J ⟨r,rfl,C,F⟩;obtain rfl:r=true:=C.2 a2.AA;have N:=AB F;obtain⟨⟨Z,Y,O⟩,⟨V,X,U⟩,Q,-⟩:=I.AA J F;have q:g<J.heap.size:=(by omega);clear C F)|(go_at_call 43;refine(b6.AA J N.AA).mono ?_;rintro e p ⟨r,rfl,C,s⟩;obtain rfl:r=true:=C.2 c1.AA;have a1:=AB (N.AA.trans (s.mono N.AA.size));obtain⟨⟨Z,Y,O⟩,⟨V,X,U⟩,Q,-⟩:=I.AA p a1.AA;have q:g<p.heap.size:=(by omega);clear C s)|(go_at_call 48;refine(b7.AA w3 b9.AA).2.mono ?_;rintro e w4 ⟨rfl,e6⟩;have c0:=AB (b9.AA.trans (e6.mono b9.AA.size));obtain⟨⟨Z,Y,O⟩,⟨V,X,U⟩,Q,-⟩:=I.AA w4 c0.AA;have q:g<w4.heap.size:=(by omega);clear e6)|(go_at_call 48;refine(b7.AA p a1.AA).1.mono ?_;rintro e w3 ⟨rfl,d5⟩;have b9:=AB (a1.AA.trans (d5.mono a1.AA.size));obtain⟨⟨Z,Y,O⟩,⟨V,X,U⟩,Q,-⟩:=I.AA w3 b9.AA;have q:g<w3.heap.size:=(by omega);clear d5));have d3:=AB (d1.AA w4 c0.AA);clear a9 b6;go_upto_region 4 with(go_at_call 80;refine d3.AA.mono ?_;rintro e w5 ⟨v,rfl,i,d9⟩;have b8:=AQ.mono (S':=Any) i.sl (λ_ _=>trivial);obtain⟨aR,cR,rfl,_,_⟩:=Am.form b8;obtain⟨nR,d0⟩:∃n,(Db T).length=n:=⟨_,rfl⟩;rw[d0]at b8 ⊢; have f4:=AB b8;have b5:=AB (c0.AA.trans (d9.mono c0.AA.size));clear i d9 b8 d0);have e5:=AB (c8.AA w5 b5.AA _ f4.AA);clear Z Y O V X U Q q d3 c8;by_cases hR:Rel (mul T) (AJ.one T) T a
    .have HR:=AB hR;clear hR;go_wp2_with (first|(go_at_call 81;refine e5.AA.mono ?_;rintro e w6 ⟨r,rfl,C,b3⟩;obtain rfl:r=true:=C.2 (e3.AA.1 HR.AA);have c3:=AB (b5.AA.trans (b3.mono b5.AA.size));clear C b3)|(go_at_call 82;refine(e9.AA w6 c3.AA).mono ?_;rintro e w7 ⟨v,us,rfl,d7,d8,e4⟩;have d4:=AB d7;have f0:=AB d8;have c5:=AB (c3.AA.trans (e4.mono c3.AA.size));clear d7 d8 e4));refine(f6.AA w7 c5.AA v us d4.AA f0.AA).mono ?_;rintro e w8 ⟨rfl,c9⟩;have b2:=AB (c5.AA.trans (c9.mono c5.AA.size));obtain⟨f1,f2⟩:=f7.AA us HR.AA d4.AA;obtain⟨m1,c6⟩:∃m,sz (BI T us)=m:=⟨_,rfl⟩;obtain⟨m2,c4⟩:∃m,sz T=m:=⟨_,rfl⟩;rw[c6,c4]at f2;have c7:=AB (b7.AA w8 b2.AA).2;rw[c4]at c7;rw[c6];have d6:=AB (show m1=m2↔BD T T a from f2.symm.trans f1);clear f1 f2 c6 c4 c9;by_cases hq:m1=m2
     .subst hq;have HE:=AB (d6.AA.1 rfl);go_wp2_with (go_at_call 48;refine c7.AA.mono ?_;rintro e w9 ⟨rfl,b0⟩;have L:=AB (show Ff (Cc (AZ T) (a.map ints)) w (.returned (.bool true)) w9 from⟨true,rfl,⟨λ_=>⟨T,a,rfl,rfl,a2.AA,HE.AA⟩,λ_=>rfl⟩,HB.AA w9 (b2.AA.trans (b0.mono b2.AA.size))⟩);clear b0);go_ret;exact L.AA
     .have g3:((m1:Int)==(m2:Int))=false:=Hq.2 (by omega);have d:=AB (show¬Cc (AZ T) (a.map ints) from λh=>hq (d6.AA.2 h.parts));clear hq;go_wp2_with (go_at_call 48;refine c7.AA.mono ?_;rintro e w9 ⟨rfl,b0⟩;have L:=AB (a8.AA w9 (b2.AA.trans (b0.mono b2.AA.size)) d.AA);clear b0);go_ret;exact L.AA
    .have f3:=AB hR;have d:=AB (show¬Cc (AZ T) (a.map ints) from λh=>hR h.parts.rel);clear hR;go_wp2_with (go_at_call 81;refine e5.AA.mono ?_;rintro e w6 ⟨r,rfl,C,b3⟩;obtain rfl:r=false:=(by cases r with|false=>rfl|true=>exact absurd (e3.AA.2 (C.1 rfl)) f3.AA);have L:=AB (a8.AA w6 (b5.AA.trans (b3.mono b5.AA.size)) d.AA);clear C b3);go_ret;exact L.AA
   .have d:=AB (show¬Cc (AZ T) (a.map ints) from λh=>c2 (by have:=h.parts.len;omega));have g4:((y:Int)==(x:Int))=false:=Hq.2 (by omega);have g2:((y:Int) !=(x:Int))=true:=by simp;omega
    clear hT K j a4 b4 gT R hE a3 a5 a0 d1 b7;have g0:=AB c2;go_wp2_with (first|(go_at_call 47;refine a9.AA.mono ?_;rintro e J ⟨r,rfl,C,F⟩;obtain rfl:r=true:=C.2 a2.AA;have N:=AB F;obtain⟨⟨Z,Y,O⟩,⟨V,X,U⟩,Q,-⟩:=I.AA J F;have q:g<J.heap.size:=(by omega);clear C F)|(go_at_call 43;refine(b6.AA J N.AA).mono ?_;rintro e p ⟨r,rfl,C,s⟩;obtain rfl:r=true:=C.2 c1.AA;have a1:=AB (N.AA.trans (s.mono N.AA.size));obtain⟨⟨Z,Y,O⟩,⟨V,X,U⟩,Q,-⟩:=I.AA p a1.AA;have q:g<p.heap.size:=(by omega);have L:=AB (a8.AA p a1.AA d.AA);clear C s));go_ret;exact L.AA
  .have a2:=AB R;have d:=AB (show¬Cc P ls from λ⟨T,a,e1,e2,_,h⟩=>hE λl hl=>by
    rw[e2]at hl;obtain⟨c,b,rfl⟩:=BX.1 hl;rw[e1];exact Ph (h.el c b))
   have c1:=AB hE;clear R hE;go_wp2_with (first|(go_at_call 47;refine a9.AA.mono ?_;rintro e J ⟨r,rfl,C,F⟩;obtain rfl:r=true:=C.2 a2.AA;have N:=AB F;obtain⟨⟨Z,Y,O⟩,⟨V,X,U⟩,Q,-⟩:=I.AA J F;have q:g<J.heap.size:=(by omega);clear C F)|(go_at_call 43;refine(b6.AA J N.AA).mono ?_;rintro e p ⟨r,rfl,C,s⟩;obtain rfl:r=false:=(by cases r with|false=>rfl|true=>exact absurd (C.1 rfl).2 c1.AA);have L:=AB (a8.AA p (N.AA.trans (s.mono N.AA.size)) d.AA);clear C s));go_ret;exact L.AA
 .have d:=AB (show¬Cc P ls from λ⟨_,_,_,_,h,_⟩=>R h);have a2:=AB R;clear R;go_wp2_with (go_at_call 47;refine a9.AA.mono ?_;rintro e J ⟨r,rfl,C,F⟩;obtain rfl:r=false:=(by cases r with|false=>rfl|true=>exact absurd (C.1 rfl) a2.AA);have L:=AB (a8.AA J F d.AA);clear C F);go_ret;exact L.AA
end IA
namespace QT
open RowKit AJ BN CL BU Ga GK
open CP(Br)
open Kr(Ay)
open DW(NN)
theorem rz {T:Tw}(hT:Wf T)(hg:AJ.Good T){u a z:List Nat}(B:El T u)(ha:El T a)(C:El T z)(h:mul T u z=mul T a u):z=Ay T a u:=by
 have G:=BA hT hg;obtain⟨hi,F,D⟩:=Br hT hg B;unfold Ay;rw[<-h,<-G.Ag hi B C,D,G.eL C]
theorem UE (T:Tw)(hT:Wf T)(L:Small T)(hg:AJ.Good T)(W:World)(b o:Nat)(B C:Value)(x y:List Nat)(Q:BH Any W b o (AZ T))(ha:AP Any W B (ints x))(O:NN B)(N:AP Any W C (ints y))(J:NN C)(F:El T x)(D:El T y):
  Calls Tryz.prog 86 #[.pointer (some ⟨b,o,none⟩),B,C] W (CX (ints (Ay T x y)) W):=
 (OQ.TJ T hT L 0 (AX _) hg W b o B C x y Q ha O N J F D).mono λe w' h=>by
  obtain⟨z,⟨R,I⟩,K⟩:=h;have S:z=Ay T x y:=rz hT hg D F R I;rw[<-S];exact K
theorem UF (T:Tw)(hs:T.length<=6)(w:World)(b o:Nat)(z:BH Any w b o (AZ T)):
  Calls Tryz.prog 36 #[.pointer (some ⟨b,o,none⟩)] w (VN ((Az T).map ints) w):=by
 obtain⟨i0,hi,b1,b2,a8⟩:=Bd GJ;obtain⟨n,J⟩:∃n,T.length=n:=⟨_,rfl⟩;have HP:=AB z;have HN:=AB J;have b5:n<=6:=by omega
 have a5:=AB (λW k (hk:k<n)=>OQ.TI n k (by omega) hk W);have a4:=AB (show(AZ T).os.length=n by rw[Jv,J]);have a3:∀k,unit T k=(List.replicate n 0).set k 1:=λk=>by rw[unit,AJ.one,J]
 have a6:=AB a3;have a7:=AB (show∀k,k<n->(List.range (k+1)).map (λi=>ints (unit T i))=(List.range k).map (λi=>ints (unit T i))++[ints (unit T k)] from λk _=>by rw[FB,IM];rfl);have b3:=AB (show(Az T).map ints=(List.range n).map (λi=>ints (unit T i)) by rw[Az,List.map_map,J];rfl);obtain⟨_,Q,vO,vP,vC,K,p1,q,y⟩:=z;obtain⟨aO,cO,rfl,_,_⟩:=Am.form y.os;rw[a4.AA]at K;clear y J hs a3;have Y:=AB (And.intro Q (And.intro K (And.intro p1 q)));go_enter Tryz.func36,Tryz.ntmps36;go_wp2_with fail;go_loopw [3,10] (λov X wr=>∃(k:Nat) (L:List (Nat×List Int)),k<=n/\X= .int .i64 (k:Int)/\Hid (Ee w.heap.size wr ov L/\L.map (·.2)=(List.range k).map (λi=>ints (unit T i))/\(L.map (·.1)).Nodup)/\Hid (Below w.heap.size w wr)) (λ_ X _=>n-(intOf X).toNat);case atStart=>exact⟨0,[],AX _,rfl,AB ⟨Ee.nil _ _,by simp,by simp⟩,AB AY⟩
 case round=>
  clear K p1 q Q;obtain⟨k,L,hk,rfl,B,C⟩:=hrel;by_cases a1:k<n
  .have s:=AO (S:=Any) C.AA;have K:=(s.cell (b:=b) (o:=o) trivial Y.AA.1).trans Y.AA.2.1;have Q:=Ah Y.AA.1 C.AA.size;have HC:=AB (a5.AA wr k a1);have a2:L.length=k:=by
    have:=Ck List.length B.AA.2.1;rw[BC,BC,List.length_range]at this;omega
   have v:=AB a2;have D:=AB a1;clear a2 s;go_wp2_with fail;refine HC.AA.mono ?_;rintro e w1 ⟨g,c,rfl,N,Z⟩;rw[<-a6.AA]at N ⊢;have O:=AB (C.AA.trans (Z.mono C.AA.size));have HG:=AB (show wr.heap.size<=g from N.lt.1);have HO:=AB (N.mono (B':=w.heap.size) C.AA.size);have a9:=AB (B.AA.1.lt);have h:=AB B.AA.2;obtain⟨us,I,l,x⟩:=B.AA.1.keep Z;have V:=AB (And.intro l x);rw[v.AA]at I;clear N Z l x B K Q;go_wp2_with (at_builtin;(refine DR _ rfl _ _ 25 rfl w.heap.size 24 i0 (.slice none 0 0) 1 24 Tryz.underlying25 hi b1 b2 a8 rfl (by decide) _ _ _ rfl (I.alloc _) ⟨w1.heap.size,0,none⟩ 1 1 [.slice (some ⟨g,0,none⟩) (ints (unit T k)).length c] rfl rfl ?c1 ?c2 ?c3 ?c4 ?c5 ?_));case c1=>
    intro j u R
    match j,R with
    |0,R=>simp at R;subst R;simp[Addr.add]
   case c2=>intro u F;simp at F;subst F;rfl
   case c3=>have:=D.AA;unfold maxLen;omega
   case c4=>have:=D.AA;omega
   case c5=>have:=O.AA.size;simp;omega
   .intro v' w2 a0 d _;have b0:=AB (show Ee w.heap.size w2 v' (L++[(g,ints (unit T k))])/\(L++[(g,ints (unit T k))]).map (·.2)=(List.range (k+1)).map (λi=>ints (unit T i))/\((L++[(g,ints (unit T k))]).map (·.1)).Nodup from by
     refine⟨Ee.push (w:=w1.alloc _) (us:=us) v.AA (I.alloc _) V.AA.1 (λi p u U F=>⟨(V.AA.2 i p u U F).1,(V.AA.2 i p u U F).2.alloc _⟩) ⟨⟨c,rfl⟩,HO.AA.alloc _⟩ a0 d,?_,?_⟩
     .rw[a7.AA k D.AA,IM,h.AA.1];rfl
     .rw[IM,List.nodup_append];refine⟨h.AA.2,by simp,λa ha b r=>?_⟩;obtain⟨p,U,rfl⟩:=BX.1 ha;simp at r;subst r;have:=(a9.AA p U).2;have:=HG.AA;omega)
    have b4:=AB (show Below w.heap.size w w2 from(O.AA.alloc (by have:=O.AA.size;omega) _).grown d (by simp;have:=O.AA.size;omega) (λg hg=>(Aq I g hg).1));have b6:(k:Int)<=1000:=by have:=D.AA;omega
    clear a0 d I V HO;go_wp2_with fail;go_roundw;case rel=>exact⟨k+1,_,D.AA,by go_num,b0,b4⟩
    case measure=>have:=D.AA;simp[intOf];omega
  .obtain rfl:k=n:=by omega
   have HR:=AB (show VN ((Az T).map ints) w (.returned _) wr from⟨_,rfl,⟨L,B.AA.1,by rw[B.AA.2.1,b3.AA],B.AA.2.2⟩,C.AA⟩);clear B C;go_wp2_with fail;go_ret;exact HR.AA
end QT
namespace Df
open RowKit AJ Val BN CL Dk EF Gj Dn Hz IA
open BU(Any)
open Bj(Aa)
def CO (p:Prop)(w:World)(e:Ending)(w':World):Prop:=∃r:Bool,e= .returned (.bool r)/\(r=true↔p)/\Below w.heap.size w w'
theorem CO.t {p:Prop}{w w':World}(h:p)(B:Below w.heap.size w w'):CO p w (.returned (.bool true)) w':=⟨true,rfl,⟨λ_=>h,λ_=>rfl⟩,B⟩
theorem CO.f {p:Prop}{w w':World}(h:¬p)(C:Below w.heap.size w w'):CO p w (.returned (.bool false)) w':=⟨false,rfl,⟨λh=>Bool.noConfusion h,λB=>absurd B h⟩,C⟩
theorem GA {B:Nat}{a w w':World}(C:Below B a w)(h:∃n,w'=w.drewN n):Below B a w':=by
 obtain⟨n,rfl⟩:=h;exact Cs C n
theorem pM (w:World)(q vb:Value)(a b:List (List Int))(ha:AQ Any w q a)(N:AQ Any w vb b):
  Calls Tryz.prog 78 #[q,vb,.func (.func 79) #[] #[]] w (CO (a=b) w):=by
 obtain⟨aA,cA,rfl,s,g⟩:=Am.form ha;obtain⟨aB,cB,rfl,a1,a3⟩:=Am.form N;unfold maxLen at g a3;obtain⟨n,Z⟩:∃n,a.length=n:=⟨_,rfl⟩;have l:=AB ha;have HB:=AB N;have Q:=AB Z;have a8:=AB (λW u v x y (K:AP Any W u x) (L:AP Any W v y)=>OQ.LC W u v x y K L);rw[Z]at l s ⊢;have a9:(n:Int)<=9223372036854775807:=by omega
 obtain⟨J,X⟩:∃J,b.length=J:=⟨_,rfl⟩;have d:=AB X;rw[X]at HB a1 ⊢;clear ha N Z X g a3 s a1;by_cases O:n=J
 .subst O;have a6:((n:Int) !=(n:Int))=false:=by simp
  go_enter Tryz.func78,Tryz.ntmps78;go_wp2_with fail;go_loopw [17] (λV wr=>∃k:Nat,k<=n/\V= .int .i64 (k:Int)/\Hid (∀j,j<k->a[j]?=b[j]?)/\Hid (Below w.heap.size w wr)) (λV _=>n-(intOf V).toNat);case atStart=>exact⟨0,AX _,rfl,AB (λj h=>absurd h (CS _)),AB AY⟩
  case round=>
   obtain⟨k,hk,rfl,I,C⟩:=hrel;by_cases b4:k<n
   .obtain⟨x,R⟩:∃x,a[k]?=some x:=⟨_,AU (by rw[Q.AA];omega)⟩;obtain⟨y,Y⟩:∃y,b[k]?=some y:=⟨_,AU (by rw[d.AA];omega)⟩;obtain⟨bA,oA,u,rfl,_,a2,i,r⟩:=Am.get l.AA R;obtain⟨bB,oB,v,rfl,_,a0,a5,hv⟩:=Am.get HB.AA Y;have B:=AO (S:=Any) C.AA;have b3:=(B.cell (b:=bA) (o:=oA+k) trivial a2).trans i;have b1:=(B.cell (b:=bB) (o:=oB+k) trivial a0).trans a5;have b2:=Ah a2 B.size;have b0:=Ah a0 B.size;have z:=AB (a8.AA wr u v x y (AP.keep r B) (AP.keep hv B));have HX:=AB R;have p:=AB Y;have b5:(k:Int)<(n:Int):=by omega
    clear R Y i a5 r hv B;go_wp2_with fail;refine z.AA.mono ?_;rintro e w2 ⟨rfl,hq⟩;have a4:=AB (C.AA.trans ((GA (BB wr.heap.size wr) hq).mono C.AA.size));clear hq z;by_cases D:x=y
    .have L:decide (x=y)=true:=by simpa using D
     have a7:=AB (show∀j,j<k+1->a[j]?=b[j]? from λj U=>by
      rcases DF.1 U with h|h
      .exact I.AA j h
      .subst h;rw[HX.AA,p.AA,D])
     clear D I C;go_wp2_with fail;go_roundw;case rel=>exact⟨k+1,by omega,by go_num,a7,a4⟩
     case measure=>simp[intOf];omega
    .have L:decide (x=y)=false:=by simpa using D
     have F:=AB (show CO (a=b) w (.returned (.bool false)) w2 from CO.f (λe=>D (by
      have K:=HX.AA;rw[e,p.AA]at K;exact(IL K).symm)) a4.AA)
     clear D I C;go_wp2_with fail;go_ret;exact F.AA
   .obtain rfl:k=n:=by omega
    have F:=AB (show CO (a=b) w (.returned (.bool true)) wr from CO.t (GN λj=>by
     by_cases U:j<k
     .exact I.AA j U
     .rw[Dq (by rw[Q.AA];omega),Dq (by rw[d.AA];omega)]) C.AA)
    clear I C;go_wp2_with fail;go_ret;exact F.AA
 .have a6:((n:Int) !=(J:Int))=true:=by simp;omega
  have F:=AB (show CO (a=b) w (.returned (.bool false)) w from CO.f (λe=>O (by rw[<-Q.AA,<-d.AA,e])) AY);clear O;go_enter Tryz.func78,Tryz.ntmps78;go_wp2_with fail;go_ret;exact F.AA
theorem WE (w:World)(D C:Value)(a b:List (List Int))(ha:AQ Any w D a)(B:AQ Any w C b):
  Calls Tryz.prog 37 #[D,C] w (CO (a=b) w):=by
 have F:=AB (pM w D C a b ha B);clear ha B;go_enter Tryz.func37,Tryz.ntmps37;go_wp2_with fail;refine F.AA.mono ?_;rintro e J ⟨r,rfl,I,B⟩;have K:=AB (show CO (a=b) w (.returned (.bool r)) J from⟨r,rfl,I,B⟩);clear I B F;go_wp2_with fail;go_ret;exact K.AA
theorem Iu:(Tryz.prog.info? 24).map (λi=>(i.zero,i.size,i.bytes))=some (some (.slice none 0 0),1,24):=by kernel_rfl
def KJ (L:List (List Int))(w:World)(e:Ending)(w':World):Prop:=∃u,e= .returned u/\BL w.heap.size w' u L/\Below w.heap.size w w'
theorem Xd (T:Tw)(hT:Wf T)(R:Small T)(hg:AJ.Good T)(w:World)(b o:Nat)(va Q:Value)(x y:List (List Nat))(hP:BH Any w b o (AZ T))(ha:AQ Any w va (x.map ints))(hb:AQ Any w Q (y.map ints))(hx:∀c∈x,El T c)(p:∀c∈y,El T c)(a1:y.length=T.length)(a8:x.length<=1000):
  Calls Tryz.prog 32 #[.pointer (some ⟨b,o,none⟩),va,Q] w (KJ ((cmp T x y).map ints) w):=by
 obtain⟨j0,D,a6,a3,b0⟩:=Bd Iu;obtain⟨aA,cA,rfl,_,_⟩:=Am.form ha;obtain⟨n,S⟩:∃n,x.length=n:=⟨_,rfl⟩;rw[BC,S]at ha ⊢;rw[S]at a8;have HA:=AB ha;have X:=AB S;have G:=BA hT hg;have a9:=AB (λ(V:World) (O:Keep Any w V) (v:Value) (c:List Nat) (F:c∈x) (hv:AP Any V v (ints c))=>show Calls Tryz.prog 42 #[.pointer (some ⟨b,o,none⟩),Q,v] V (CX (ints (phi T y c)) V) from by
  have l:=hx c F;have h:=Kl.PD T hT R hg V b o (hP.keep O) Q v y c (hb.keep O) hv p (by rw[Ad l,a1]) (by rw[Ad l];exact R.1) (λa ha=>by
   obtain⟨k,O⟩:=Eb ha;obtain⟨L,hL,K⟩:=Gb l O;have:=R.2 L (Af hL);omega)
  rwa[G.IJ p]at h)
 have a4:=AB (show∀k c,x[k]?=some c->(cmp T (x.take (k+1)) y).map ints=(cmp T (x.take k) y).map ints++[ints (phi T y c)] from λk c h=>by
  unfold cmp;rw[EL,h];simp)
 clear hP ha hb hx p a1 S R hT hg G;go_enter Tryz.func32,Tryz.ntmps32;go_wp2_with fail;go_loopw [7,12] (λov Y wr=>∃k:Nat,k<=n/\Y= .int .i64 (k:Int)/\Hid (BL w.heap.size wr ov ((cmp T (x.take k) y).map ints))/\Hid (Below w.heap.size w wr)) (λ_ Y _=>n-(intOf Y).toNat);case atStart=>exact⟨0,AX _,rfl,AB (BL.nil _ _),AB AY⟩
 case round=>
  obtain⟨k,b3,rfl,J,C⟩:=hrel;by_cases K:k<n
  .obtain⟨c,F⟩:∃c,x[k]?=some c:=⟨_,AU (by rw[X.AA];exact K)⟩;obtain⟨bA,oA,u,rfl,_,b7,b4,B⟩:=Am.get (AQ.keep HA.AA (AO C.AA)) (show(x.map ints)[k]?=some (ints c) by rw[Bh,F];rfl);have HC:=AB (a9.AA wr (AO C.AA) u c (Af F) B);have a5:=AB (a4.AA k c F);have b5:(k:Int)<(n:Int):=by omega
   have b8:(0:Int)<=(k:Int):=by omega
   have N:=AB K;have a2:=AB (show(cmp T (x.take k) y).length=k by unfold cmp;rw[BC,Ec,X.AA];omega);clear F B K;go_wp2_with (first|(go_at_call 42;refine HC.AA.mono ?_;rintro e Z ⟨g3,c3,rfl,d,U⟩;have I:=AB (C.AA.trans (U.mono C.AA.size));have b6:=AB U;obtain⟨q,hq⟩:∃q,(ints (phi T y c)).length=q:=⟨_,rfl⟩;rw[hq]at d ⊢; have b1:=AB (show Own w.heap.size Z (.slice (some ⟨g3,0,none⟩) q c3) (ints (phi T y c)) from KT d C.AA.size);obtain⟨us,i,z,h4⟩:=J.AA.keep U;rw[BC,a2.AA]at i;have HU:=AB (And.intro z h4);have W:=AB i;clear d U hq z h4 i)|(at_builtin;(refine DR _ rfl _ _ 25 rfl w.heap.size 24 j0 (.slice none 0 0) 1 24 Tryz.underlying25 D a6 a3 b0 rfl (by decide) _ _ _ rfl (W.AA.alloc _) ⟨Z.heap.size,0,none⟩ 1 1 [.slice (some ⟨g3,0,none⟩) q c3] rfl rfl ?c1 ?c2 ?c3 ?c4 ?c5 ?_)));case c1=>
    intro j u D
    match j,D with
    |0,D=>simp at D;subst D;simp[Addr.add]
   case c2=>intro u B;simp at B;subst B;rfl
   case c3=>have:=N.AA;unfold maxLen;omega
   case c4=>have:=N.AA;omega
   case c5=>have:=I.AA.size;simp;omega
   .intro v' w6 a0 s _;have b2:=AB (show BL w.heap.size w6 v' ((cmp T (x.take (k+1)) y).map ints) from by
     rw[a5.AA];exact BL.push (w:=Z.alloc _) (us:=us) (by rw[BC];exact a2.AA) (W.AA.alloc _) HU.AA.1 (λk r u hr B=>(HU.AA.2 k r u hr B).alloc _) (b1.AA.alloc _) a0 s)
    have a7:=AB (show Below w.heap.size w w6 from(I.AA.alloc (by have:=I.AA.size;omega) _).grown s (by simp;have:=I.AA.size;omega) (λg hg=>(Aq W.AA g hg).1));clear a0 s J;go_wp2_with fail;go_roundw;case rel=>exact⟨k+1,N.AA,by go_num,b2,a7⟩
    case measure=>have:=N.AA;simp[intOf];omega
  .obtain rfl:k=n:=by omega
   have b9:¬(k:Int)<(k:Int):=by omega
   have HF:=AB (show KJ ((cmp T x y).map ints) w (.returned u7) wr from⟨_,rfl,by have h:=J.AA;rwa[show x.take k=x by rw[<-X.AA,FO]]at h,C.AA⟩);clear J C;go_wp2_with fail;go_ret;exact HF.AA
theorem MQ (w:World)(D I C K:Value)(P:BZ)(ls:List (List Int))(O:Av Any w D I C P)(hi:AQ Any w K ls):
  Calls Tryz.prog 12 #[.agg #[D,I,C],K] w (Ff (Cc P ls) w):=by
 obtain⟨B,F⟩:∃B,B=w.alloc (.cells #[D,I,C] 28):=⟨_,rfl⟩;have J:Below w.heap.size w B:=by rw[F];exact AY.alloc AV _
 obtain⟨⟨X,V,W⟩,-⟩:=Aa (show B.heap[w.heap.size]?=some (.cells #[D,I,C] 28 (0,0)) by rw[F];exact Aj _ _);have Y:w.heap.size<B.heap.size:=by rw[F];simp
 have U:=AB (pJ B D I C K P ls (O.keep (AO J)) (hi.keep (AO J)));have N:=AB J;clear O hi J;go_enter Tryz.func12,Tryz.ntmps12;go_upto_region 1 with fail;rw[<-F];clear F;go_wp2_with (go_at_call 38;refine U.AA.mono ?_;rintro e R ⟨r,rfl,L,Q⟩;have S:=AB (show Ff (Cc P ls) w (.returned (.bool r)) R from⟨r,rfl,L,N.AA.trans (Q.mono N.AA.size)⟩);clear L Q);go_ret;exact S.AA
end Df
namespace Gm
open RowKit AJ Val BN CL GK Dk EF Gj Dn Hz IA Df
open BU(Any)
open Bj(Aa)
theorem LP {B:Nat}{w:World}{v:Value}{rows:List (List Int)}(h:SG B w v rows):AQ Any w v rows:=by
 obtain⟨L,h,rfl,_⟩:=h;obtain⟨a,c,rfl,R,I,J,K⟩:=h.rows;refine⟨a,c,by rw[BC],by rw[BC];exact R,I,J,λi x C=>?_⟩;rw[Bh]at C;obtain⟨p,D,rfl⟩:=Hg.1 C;obtain⟨b,o,N,e2,O,u,Q,F⟩:=K i p D;exact⟨b,o,N,trivial,O,u,Q,AP.mono F λ_ _=>trivial⟩
theorem MJ {a b:List (List Nat)}(h:a.map ints=b.map ints):a=b:=List.map_inj_right (λx y e=>Km.LJ.1 e) |>.1 h
theorem YW {α β:Type}(f:α->List β)(m:Nat):∀(L:List α),(∀x∈L,(f x).length<=m)->(L.flatMap f).length<=L.length*m
 |[],_=>by simp
 |x::L,h=>by
  have D:=h x CJ;have C:=YW f m L λy B=>h y (CW _ B);rw[IW,Bc,DX,Nat.succ_mul];omega
theorem Xe (Q T:Tw):∀(k:Nat) (im:List (List Nat)),(Bo Q T k im).length<=sz Q^k
 |0,im=>by simp[Bo]
 |k+1,im=>by
  rw[Bo,Ke,JC];refine Ae (YW _ (sz Q^k) (List.range (sz Q)) λt _=>?_) (by rw[List.length_range];exact Al _);split
  .exact Xe Q T k _
  .simp
def Ia (P:BZ)(C D B:List (List Int))(k:Int):Prop:=(k=1/\B=[]/\¬(Cc P C/\Cc P D))\/(k=0/\∃T a b,P=AZ T/\C=a.map ints/\D=b.map ints/\Ba.BR P/\BD T T a/\BD T T b/\B=(cmp T a b).map ints)
def Le (P:BZ)(C D:List (List Int))(w:World)(e:Ending)(w':World):Prop:=∃a n c k B,e= .returned (.tuple #[.slice a n c,.int .i64 k])/\Ia P C D B k/\AQ Any w' (.slice a n c) B/\Below w.heap.size w w'
theorem OA (w:World):AQ Any w (.slice none 0 0) []:=⟨none,0,rfl,Al _,by simp,λ_=>rfl,λi x B=>by simp at B⟩
theorem YX {P:BZ}{B C:List (List Int)}(h:Cc P B)(D:Cc P C):∃T a b,P=AZ T/\B=a.map ints/\C=b.map ints/\Ba.BR (AZ T)/\BD T T a/\BD T T b:=by
 obtain⟨T,a,rfl,rfl,F,ha⟩:=h;obtain⟨J,b,e,rfl,_,I⟩:=D;obtain rfl:=Ba.FK e;exact⟨T,a,b,rfl,rfl,rfl,F,ha,I⟩
theorem WN (w:World)(R V Q va y:Value)(P:BZ)(K L:List (List Int))(hP:Av Any w R V Q P)(ha:AQ Any w va K)(hb:AQ Any w y L):
  Calls Tryz.prog 7 #[.agg #[R,V,Q],va,y] w (Le P K L w):=by
 obtain⟨g,hg⟩:∃g,w.heap.size=g:=⟨_,rfl⟩;obtain⟨B,d⟩:∃B,B=w.alloc (.cells #[R,V,Q] 28):=⟨_,rfl⟩;have U:Below w.heap.size w B:=by rw[d];exact AY.alloc AV _
 have a8:B.heap.size=g+1:=by rw[d,<-hg];simp
 have a6:B.heap[g]?=some (.cells #[R,V,Q] 28 (0,0)):=by rw[d,<-hg];exact Aj w _
 have D:=AB (λ(W:World) (h:Below B.heap.size B W)=>And.intro (Aa ((h.block g (by omega)).trans a6)).1 (And.intro (show g<W.heap.size by have:=h.size;omega) (And.intro ((hP.keep (AO U)).keep (AO (S:=Any) h)) (And.intro ((ha.keep (AO U)).keep (AO (S:=Any) h)) ((hb.keep (AO U)).keep (AO (S:=Any) h))))));have HB:=AB (λ(W:World) (h:Below B.heap.size B W)=>U.trans (h.mono U.size));have HA:=AB (MQ B R V Q va P K (D.AA B AY).2.2.1 (D.AA B AY).2.2.2.1);have a5:=AB (λ(W:World) (h:Below B.heap.size B W)=>MQ W R V Q y P L (D.AA W h).2.2.1 (D.AA W h).2.2.2.2);clear hP ha hb U a8 a6;go_enter Tryz.func7,Tryz.ntmps7;go_upto_region 1 with fail;rw[<-d];obtain⟨⟨l,i,Y⟩,s,-⟩:=D.AA B AY;clear d hg;by_cases J:Cc P K
 .by_cases X:Cc P L
  .obtain⟨T,a,b,rfl,rfl,rfl,gT,z,a1⟩:=YX J X;obtain⟨hT,a2,a3,a9⟩:=EM.FJ gT;have N:=AB (And.intro J X);have b0:=AB (λ(W:World) (h:Below B.heap.size B W)=>Df.Xd T hT a2 a3 W g 0 va y a b (by
    obtain⟨⟨l,i,Y⟩,s,hv,-⟩:=D.AA W h;exact⟨trivial,s,_,_,_,l,i,Y,hv⟩) (D.AA W h).2.2.2.1 (D.AA W h).2.2.2.2 z.el a1.el a1.len (by rw[z.len];have:=a2.1;omega))
   have p:=AB (show Ia (AZ T) (a.map ints) (b.map ints) ((cmp T a b).map ints) 0 from .inr ⟨rfl,T,a,b,rfl,rfl,rfl,gT,z,a1,rfl⟩);clear J X gT z a1 hT a2 a3 a9;go_wp2_with (first|(go_at_call 12;refine(a5.AA I O.AA).mono ?_;rintro e q ⟨r,rfl,C,j⟩;obtain rfl:r=true:=C.2 N.AA.2;have a0:=AB (O.AA.trans (j.mono O.AA.size));obtain⟨⟨l,i,Y⟩,s,-⟩:=D.AA q a0.AA;clear C j)|(go_at_call 12;refine HA.AA.mono ?_;rintro e I ⟨r,rfl,C,F⟩;obtain rfl:r=true:=C.2 N.AA.1;have O:=AB F;obtain⟨⟨l,i,Y⟩,s,-⟩:=D.AA I F;clear C F)|(go_at_call 32;refine(b0.AA q a0.AA).mono ?_;rintro e w3 ⟨u,rfl,hu,a7⟩;have x:=AQ.mono (S':=Any) hu.sl (λ_ _=>trivial);obtain⟨aU,cU,rfl,_,_⟩:=Am.form x;obtain⟨nU,a4⟩:∃n,((cmp T a b).map ints).length=n:=⟨_,rfl⟩;rw[a4]at x ⊢; have Z:=AB (show Le (AZ T) (a.map ints) (b.map ints) w (.returned (.tuple #[.slice aU nU cU,.int .i64 0])) w3 from⟨_,_,_,0,_,rfl,p.AA,x,HB.AA w3 (a0.AA.trans (a7.mono a0.AA.size))⟩);clear hu x a7 a4));exact Au (v:=.tuple #[.slice aU nU cU,.int .i64 0]) (by simp[results,Tryz.results7,go_sem]) rfl Z.AA
  .have N:=AB (And.intro J X);have p:=AB (show Ia P K L [] 1 from .inl ⟨rfl,rfl,λh=>X h.2⟩);clear J X;go_wp2_with (first|(go_at_call 12;refine(a5.AA I O.AA).mono ?_;rintro e q ⟨r,rfl,C,j⟩;obtain rfl:r=false:=(by cases r with|false=>rfl|true=>exact absurd (C.1 rfl) N.AA.2);have Z:=AB (show Le P K L w (.returned (.tuple #[.slice none 0 0,.int .i64 1])) q from⟨_,_,_,1,_,rfl,p.AA,OA _,HB.AA q (O.AA.trans (j.mono O.AA.size))⟩);clear C j)|(go_at_call 12;refine HA.AA.mono ?_;rintro e I ⟨r,rfl,C,F⟩;obtain rfl:r=true:=C.2 N.AA.1;have O:=AB F;obtain⟨⟨l,i,Y⟩,s,-⟩:=D.AA I F;clear C F));exact Au (v:=.tuple #[.slice none 0 0,.int .i64 1]) (by simp[results,Tryz.results7,go_sem]) rfl Z.AA
 .have N:=AB J;have p:=AB (show Ia P K L [] 1 from .inl ⟨rfl,rfl,λh=>J h.1⟩);clear J;go_wp2_with (go_at_call 12;refine HA.AA.mono ?_;rintro e I ⟨r,rfl,C,F⟩;obtain rfl:r=false:=(by cases r with|false=>rfl|true=>exact absurd (C.1 rfl) N.AA);have Z:=AB (show Le P K L w (.returned (.tuple #[.slice none 0 0,.int .i64 1])) I from⟨_,_,_,1,_,rfl,p.AA,OA _,HB.AA I F⟩);clear C F);exact Au (v:=.tuple #[.slice none 0 0,.int .i64 1]) (by simp[results,Tryz.results7,go_sem]) rfl Z.AA
end Gm
namespace Sn
open RowKit AJ Val BN CL GK Dk EF Gj Dn Hz IA Df Gm
open BU(Any)
open Bj(Aa)
def InvV (P:BZ)(C B:List (List Int))(k:Int):Prop:=(k=1/\B=[]/\¬Cc P C)\/(k=0/\∃T a q,P=AZ T/\C=a.map ints/\Ba.BR P/\BD T T a/\Mt T a (q+1)/\B=(pw T a q).map ints)
def Lf (P:BZ)(C:List (List Int))(w:World)(e:Ending)(w':World):Prop:=∃a n c k B,e= .returned (.tuple #[.slice a n c,.int .i64 k])/\InvV P C B k/\AQ Any w' (.slice a n c) B/\Below w.heap.size w w'
def SK (P:BZ)(B:List (List Int))(n k:Int):Prop:=(k=1/\n=0/\¬Cc P B)\/(k=0/\∃T a q,P=AZ T/\B=a.map ints/\Ba.BR P/\BD T T a/\Mt T a (q+1)/\n=((q+1:Nat):Int))
def Lg (P:BZ)(B:List (List Int))(w:World)(e:Ending)(w':World):Prop:=∃n k:Int,e= .returned (.tuple #[.int .i64 n,.int .i64 k])/\SK P B n k/\Below w.heap.size w w'
theorem sD {T:Tw}(C:sz T<=729)(B:T.length<=6){k:Nat}(h:k<=(Bo T T T.length []).length):k<=150094635296999121:=by
 have I:=Xe T T T.length [];have D:sz T^T.length<=729^T.length:=Nat.pow_le_pow_left C _;have J:729^T.length<=729^6:=MX (by decide) B;have F:729^6=150094635296999121:=by decide
 omega
structure Kit (T:Tw)(a:List (List Nat))(q:Nat)(vO vP vC va:Value)(g:Nat)(W0:World):Prop where
 cmp:∀(W:World),Below W0.heap.size W0 W->∀(v:Value) (i:Nat),AQ Any W v ((pw T a i).map ints)->Calls Tryz.prog 32 #[.pointer (some ⟨g,0,none⟩),v,va] W (KJ ((pw T a (i+1)).map ints) W)
 gen:∀(W:World),Below W0.heap.size W0 W->Calls Tryz.prog 36 #[.pointer (some ⟨g,0,none⟩)] W (VN ((Az T).map ints) W)
 yes:∀(W:World) (v u:Value),AQ Any W v ((pw T a (q+1)).map ints)->AQ Any W u ((Az T).map ints)->Calls Tryz.prog 37 #[v,u] W (λe w'=>e= .returned (.bool true)/\Below W.heap.size W w')
 no:∀(W:World) (v u:Value) (i:Nat),0<i->i<q+1->AQ Any W v ((pw T a i).map ints)->AQ Any W u ((Az T).map ints)->Calls Tryz.prog 37 #[v,u] W (λe w'=>e= .returned (.bool false)/\Below W.heap.size W w')
 cells:∀(W:World),Below W0.heap.size W0 W->(W.cell? ⟨g,0,none⟩=some vO/\W.cell? ⟨g,1,none⟩=some vP/\W.cell? ⟨g,2,none⟩=some vC)/\g<W.heap.size
 len:∀i,((pw T a i).map ints).length=T.length
theorem ZN {T:Tw}{a:List (List Nat)}{q:Nat}{D I C R:Value}{w B:World}{g:Nat}(p:Ba.BR (AZ T))(F:BD T T a)(b:Mt T a (q+1))(z:Av Any w D I C (AZ T))(ha:AQ Any w R (a.map ints))(hg:w.heap.size=g)(N:B=w.alloc (.cells #[D,I,C] 28)):Kit T a q D I C R g B:=by
 obtain⟨hT,U,J,a3⟩:=EM.FJ p;have X:Below w.heap.size w B:=by rw[N];exact AY.alloc AV _
 have a2:B.heap.size=g+1:=by rw[N,<-hg];simp
 have s:B.heap[g]?=some (.cells #[D,I,C] 28 (0,0)):=by rw[N,<-hg];exact Aj w _
 have V:∀(W:World),Below B.heap.size B W->(W.cell? ⟨g,0,none⟩=some D/\W.cell? ⟨g,1,none⟩=some I/\W.cell? ⟨g,2,none⟩=some C)/\g<W.heap.size:=λW h=>⟨(Aa ((h.block g (by omega)).trans s)).1,by have:=h.size;omega⟩;have Y:∀(W:World),Below B.heap.size B W->BH Any W g 0 (AZ T):=λW h=>by
  obtain⟨⟨x,j,Z⟩,a0⟩:=V W h;exact⟨trivial,a0,_,_,_,x,j,Z,(z.keep (AO X)).keep (AO (S:=Any) h)⟩
 obtain⟨o1,d,l⟩:=b;have a4:=U.1;refine⟨λW h v i y=>?_,λW h=>QT.UF T U.1 W g 0 (Y W h),λW v u O K=>?_,λW v u i a1 hi O K=>?_,V,λi=>?_⟩
 .exact Df.Xd T hT U J W g 0 v R (pw T a i) a (Y W h) y ((ha.keep (AO X)).keep (AO (S:=Any) h)) (IY hT J F i).el F.el F.len (by rw[(IY hT J F i).len];omega)
 .refine(WE W v u _ _ O K).mono ?_;rintro e w' ⟨r,rfl,Q,L⟩;obtain rfl:r=true:=Q.2 (by rw[d]);exact⟨rfl,L⟩
 .refine(WE W v u _ _ O K).mono ?_;rintro e w' ⟨r,rfl,Q,L⟩;obtain rfl:r=false:=by
   cases r with
   |false=>rfl
   |true=>exact absurd (MJ (Q.1 rfl)) (l i a1 hi)
  exact⟨rfl,L⟩
 .rw[BC,(IY hT J F i).len]
theorem O7 (w:World)(Y b l va:Value)(P:BZ)(U:List (List Int))(hP:Av Any w Y b l P)(ha:AQ Any w va U):
  Calls Tryz.prog 10 #[.agg #[Y,b,l],va] w (Lf P U w):=by
 obtain⟨g,hg⟩:∃g,w.heap.size=g:=⟨_,rfl⟩;obtain⟨F,J⟩:∃F,F=w.alloc (.cells #[Y,b,l] 28):=⟨_,rfl⟩;have R:Below w.heap.size w F:=by rw[J];exact AY.alloc AV _
 have HB:=AB (λ(W:World) (h:Below F.heap.size F W)=>R.trans (h.mono R.size));have HA:=AB (MQ F Y b l va P U (hP.keep (AO R)) (ha.keep (AO R)));obtain⟨⟨p0,p1,y⟩,-⟩:=Aa (show F.heap[g]?=some (.cells #[Y,b,l] 28 (0,0)) by rw[J,<-hg];exact Aj _ _);have a0:g<F.heap.size:=by rw[J,<-hg];simp
 by_cases Q:Cc P U
 .obtain⟨T,a,rfl,rfl,gT,hE⟩:=id Q;obtain⟨hT,b7,a8,a7⟩:=EM.FJ gT;obtain⟨q1,z,b8⟩:=ZJ hT a8 a7 hE;obtain⟨q,rfl⟩:∃q,q1=q+1:=⟨q1-1,by have:=z.1;omega⟩;have D:=AB (ZN gT hE z hP ha hg J);have a2:=AB Q;have HV:=AB (show InvV (AZ T) (a.map ints) ((pw T a q).map ints) 0 from .inr ⟨rfl,T,a,q,rfl,rfl,gT,hE,z,rfl⟩);obtain⟨n,hn⟩:∃n,T.length=n:=⟨_,rfl⟩;have HL:=AB (show∀i,((pw T a i).map ints).length=n from λi=>by rw[D.AA.len,hn]);have b2:=AB (show((Az T).map ints).length=n from HL.AA 0);clear hP ha R Q gT hE hT b7 a8 a7 z b8 hn;go_enter Tryz.func10,Tryz.ntmps10;go_upto_region 1 with fail;rw[<-J];clear J hg;go_wp2_with (first|(go_at_call 12;refine HA.AA.mono ?_;rintro e d ⟨r,rfl,s,V⟩;obtain rfl:r=true:=s.2 a2.AA;have a4:=AB V;obtain⟨⟨p0,p1,y⟩,a0⟩:=D.AA.cells d V;clear s V)|(go_at_call 36;refine(D.AA.gen d a4.AA).mono ?_;rintro e w2 ⟨v,rfl,B,b1⟩;have C:=LP B;obtain⟨aG,cG,rfl,_,_⟩:=Am.form C;rw[b2.AA]at C ⊢; have a9:=AB (show AQ Any w2 (.slice aG n cG) ((pw T a 0).map ints) from C);have b0:=AB (a4.AA.trans (b1.mono a4.AA.size));clear B C b1));go_loopg [6] q (λgk nv wr=>∃(i:Nat) (u:Option Addr) (p:Nat),nv= .slice u n p/\Hid (i+gk=q)/\Hid (AQ Any wr (.slice u n p) ((pw T a i).map ints))/\Hid (Below F.heap.size F wr));case atStart=>exact⟨0,_,_,rfl,AB (by omega),a9,b0⟩
  case round=>
   obtain⟨i,u,p,rfl,hI,hS,L⟩:=hrel;obtain⟨⟨p0,p1,y⟩,a0⟩:=D.AA.cells wr L.AA;clear a9 b0;by_cases hq:i<q
   .have O:=AB hq;clear hq;go_wp2_with (first|(go_at_call 32;refine(D.AA.cmp wr L.AA _ i hS.AA).mono ?_;rintro e j ⟨v,rfl,B,X⟩;have C:=AQ.mono (S':=Any) B.sl (λ_ _=>trivial);obtain⟨a3,c3,rfl,_,_⟩:=Am.form C;rw[HL.AA]at C ⊢; have a5:=AB C;have I:=AB (L.AA.trans (X.mono L.AA.size));obtain⟨⟨p0,p1,y⟩,a0⟩:=D.AA.cells j I.AA;clear B C X)|(go_at_call 36;refine(D.AA.gen j I.AA).mono ?_;rintro e w4 ⟨v,rfl,B,K⟩;have a6:=AB (LP B);have x:=AB (a5.AA.keep (AO (S:=Any) K));have Z:=AB (I.AA.trans (K.mono I.AA.size));clear B K)|(go_at_call 37;refine(D.AA.no w4 _ _ (i+1) (Nat.succ_pos i) (Nat.succ_lt_succ O.AA) x.AA a6.AA).mono ?_;rintro e w5 ⟨rfl,N⟩;have b4:=AB (Z.AA.trans (N.mono Z.AA.size));have b6:=AB (x.AA.keep (AO (S:=Any) N));clear N));go_roundg (gk-1);case measure=>have:=hI.AA;have:=O.AA;omega
    case rel=>exact⟨i+1,_,_,rfl,AB (by have:=hI.AA;have:=O.AA;omega),b6,b4⟩
   .have O:=AB (show i=q by have:=hI.AA;omega);clear hq;go_wp2_with (first|(go_at_call 32;refine(D.AA.cmp wr L.AA _ i hS.AA).mono ?_;rintro e j ⟨v,rfl,B,X⟩;have C:=AQ.mono (S':=Any) B.sl (λ_ _=>trivial);obtain⟨a3,c3,rfl,_,_⟩:=Am.form C;rw[HL.AA]at C ⊢; have a5:=AB C;have I:=AB (L.AA.trans (X.mono L.AA.size));have b5:=AB (hS.AA.keep (AO (S:=Any) X));obtain⟨⟨p0,p1,y⟩,a0⟩:=D.AA.cells j I.AA;clear B C X)|(go_at_call 36;refine(D.AA.gen j I.AA).mono ?_;rintro e w4 ⟨v,rfl,B,K⟩;have a6:=AB (LP B);have x:=AB (a5.AA.keep (AO (S:=Any) K));have b3:=AB (b5.AA.keep (AO (S:=Any) K));have Z:=AB (I.AA.trans (K.mono I.AA.size));clear B K)|(go_at_call 37;refine(D.AA.yes w4 _ _ (by rw[<-O.AA];exact x.AA) a6.AA).mono ?_;rintro e w5 ⟨rfl,N⟩;have HF:=AB (show Lf (AZ T) (a.map ints) w (.returned (.tuple #[.slice u n p,.int .i64 0])) w5 from⟨_,_,_,0,_,rfl,HV.AA,(by rw[<-O.AA];exact b3.AA.keep (AO (S:=Any) N)),HB.AA w5 (Z.AA.trans (N.mono Z.AA.size))⟩);clear N));exact Au (v:=.tuple #[.slice u n p,.int .i64 0]) (by simp[results,Tryz.results10,go_sem]) rfl HF.AA
 .have a2:=AB Q;have HV:=AB (show InvV P U [] 1 from .inl ⟨rfl,rfl,Q⟩);clear hP ha R Q;go_enter Tryz.func10,Tryz.ntmps10;go_upto_region 1 with fail;rw[<-J];clear J hg;go_wp2_with (go_at_call 12;refine HA.AA.mono ?_;rintro e d ⟨r,rfl,s,V⟩;obtain rfl:r=false:=(by cases r with|false=>rfl|true=>exact absurd (s.1 rfl) a2.AA);have HF:=AB (show Lf P U w (.returned (.tuple #[.slice none 0 0,.int .i64 1])) d from⟨_,_,_,1,_,rfl,HV.AA,OA _,HB.AA d V⟩);clear s V);exact Au (v:=.tuple #[.slice none 0 0,.int .i64 1]) (by simp[results,Tryz.results10,go_sem]) rfl HF.AA
theorem sF {k:Nat}(h:k<=150094635296999121):IntKind.i64.wrap ((k:Int)+1)=(k:Int)+1:=Ac _ (by omega)
theorem Gs (w:World)(X Y Z va:Value)(P:BZ)(K:List (List Int))(s:Av Any w X Y Z P)(ha:AQ Any w va K):
  Calls Tryz.prog 11 #[.agg #[X,Y,Z],va] w (Lg P K w):=by
 obtain⟨aA,cA,rfl,_,_⟩:=Am.form ha;obtain⟨u,x⟩:∃n,K.length=n:=⟨_,rfl⟩;rw[x]at ha ⊢;obtain⟨g,hg⟩:∃g,w.heap.size=g:=⟨_,rfl⟩;obtain⟨B,D⟩:∃B,B=w.alloc (.cells #[X,Y,Z] 28):=⟨_,rfl⟩;have J:Below w.heap.size w B:=by rw[D];exact AY.alloc AV _
 have HB:=AB (λ(W:World) (h:Below B.heap.size B W)=>J.trans (h.mono J.size));have HA:=AB (MQ B X Y Z _ P K (s.keep (AO J)) (ha.keep (AO J)));obtain⟨⟨p0,p1,p2⟩,-⟩:=Aa (show B.heap[g]?=some (.cells #[X,Y,Z] 28 (0,0)) by rw[D,<-hg];exact Aj _ _);have b0:g<B.heap.size:=by rw[D,<-hg];simp
 by_cases O:Cc P K
 .obtain⟨T,a,rfl,rfl,d,b⟩:=id O;obtain⟨hT,b2,a2,a6⟩:=EM.FJ d;obtain⟨q1,l,b3⟩:=ZJ hT a2 a6 b;obtain⟨q,rfl⟩:∃q,q1=q+1:=⟨q1-1,by have:=l.1;omega⟩;have C:=AB (ZN d b l s ha hg D);have a0:=AB O;have b5:=AB (sD (QL.RU d).2 b2.1 b3);have HV:=AB (show SK (AZ T) (a.map ints) ((q+1:Nat):Int) 0 from .inr ⟨rfl,T,a,q,rfl,rfl,d,b,l,rfl⟩);have e1:pw T a 1=a:=ZH hT a2 b;have HL:=AB (show∀i,((pw T a i).map ints).length=u from λi=>by rw[C.AA.len,<-x,<-C.AA.len 1,e1]);have a7:=AB (show AQ Any B (.slice aA u cA) ((pw T a 1).map ints) by rw[e1];exact ha.keep (AO J));clear s ha J O d b hT b2 a2 a6 l b3 e1 x;go_enter Tryz.func11,Tryz.ntmps11;go_upto_region 1 with fail;rw[<-D];clear D hg;go_wp2_with (go_at_call 12;refine HA.AA.mono ?_;rintro e w1 ⟨r,rfl,j,R⟩;obtain rfl:r=true:=j.2 a0.AA;have a9:=AB R;have a4:=AB (a7.AA.keep (AO (S:=Any) R));clear j R);go_loopw [6,7] (λkv nv wr=>∃(k:Nat) (a1:Option Addr) (c1:Nat),kv= .int .i64 (k:Int)/\nv= .slice a1 u c1/\Hid (1<=k/\k<=q+1)/\Hid (AQ Any wr (.slice a1 u c1) ((pw T a k).map ints))/\Hid (Below B.heap.size B wr)) (λkv _ _=>q+1-(intOf kv).toNat);case atStart=>exact⟨1,_,_,rfl,rfl,AB ⟨Al _,by omega⟩,a4,a9⟩
  case round=>
   obtain⟨k,a1,c1,rfl,rfl,hI,hS,I⟩:=hrel;obtain⟨⟨p0,p1,p2⟩,b0⟩:=C.AA.cells wr I.AA;clear a4 a9 a7;by_cases hq:k<q+1
   .have N:=AB hq;have a8:=sF (k:=k) (by have:=b5.AA;omega);clear hq;go_wp2_with (first|(go_at_call 36;refine(C.AA.gen wr I.AA).mono ?_;rintro e w3 ⟨v,rfl,F,L⟩;have a3:=AB (LP F);have z:=AB (hS.AA.keep (AO (S:=Any) L));have V:=AB (I.AA.trans (L.mono I.AA.size));clear F L)|(go_at_call 37;refine(C.AA.no w3 _ _ k hI.AA.1 N.AA z.AA a3.AA).mono ?_;rintro e U ⟨rfl,Q⟩;have p:=AB (V.AA.trans (Q.mono V.AA.size));have b4:=AB (z.AA.keep (AO (S:=Any) Q));obtain⟨⟨p0,p1,p2⟩,b0⟩:=C.AA.cells U p.AA;clear Q)|(go_at_call 32;refine(C.AA.cmp U p.AA _ k b4.AA).mono ?_;rintro e w5 ⟨v,rfl,F,b1⟩;have y:=AQ.mono (S':=Any) F.sl (λ_ _=>trivial);obtain⟨a5,c5,rfl,_,_⟩:=Am.form y;rw[HL.AA]at y ⊢; have b7:=AB y;have b6:=AB (p.AA.trans (b1.mono p.AA.size));clear F y b1));go_roundw;case rel=>exact⟨k+1,_,_,by first|rfl|simp[a8],rfl,AB ⟨by omega,N.AA⟩,b7,b6⟩
    case measure=>have:=N.AA;simp[intOf,a8];omega
   .have N:=AB (show k=q+1 by have:=hI.AA;omega);clear hq;go_wp2_with (first|(go_at_call 36;refine(C.AA.gen wr I.AA).mono ?_;rintro e w3 ⟨v,rfl,F,L⟩;have a3:=AB (LP F);have z:=AB (hS.AA.keep (AO (S:=Any) L));have V:=AB (I.AA.trans (L.mono I.AA.size));clear F L)|(go_at_call 37;refine(C.AA.yes w3 _ _ (by rw[<-N.AA];exact z.AA) a3.AA).mono ?_;rintro e U ⟨rfl,Q⟩;have HF:=AB (show Lg (AZ T) (a.map ints) w (.returned (.tuple #[.int .i64 (k:Int),.int .i64 0])) U from⟨_,0,rfl,(by rw[N.AA];exact HV.AA),HB.AA U (V.AA.trans (Q.mono V.AA.size))⟩);clear Q));exact Au (v:=.tuple #[.int .i64 (k:Int),.int .i64 0]) (by simp[results,Tryz.results11,go_sem]) rfl HF.AA
 .have a0:=AB O;have HV:=AB (show SK P K 0 1 from .inl ⟨rfl,rfl,O⟩);clear s ha J O x;go_enter Tryz.func11,Tryz.ntmps11;go_upto_region 1 with fail;rw[<-D];clear D hg;go_wp2_with (go_at_call 12;refine HA.AA.mono ?_;rintro e w1 ⟨r,rfl,j,R⟩;obtain rfl:r=false:=(by cases r with|false=>rfl|true=>exact absurd (j.1 rfl) a0.AA);have HF:=AB (show Lg P K w (.returned (.tuple #[.int .i64 0,.int .i64 1])) w1 from⟨_,1,rfl,HV.AA,HB.AA w1 R⟩);clear j R);exact Au (v:=.tuple #[.int .i64 0,.int .i64 1]) (by simp[results,Tryz.results11,go_sem]) rfl HF.AA
end Sn
namespace Ls
open RowKit AJ Val BN CL GK Dk EF Gj Dn Hz IA Df Gm
open BU(Any)
open Bj(Aa)
open Kr(Ay)
noncomputable def KH (T:Tw)(x:List (List Nat))(y:List Nat):List (List Nat):=x.map λc=>Ay T c y
theorem jQ (T:Tw)(hT:Wf T)(hs:Small T)(hg:AJ.Good T)(w:World)(b o:Nat)(s N:Value)(x:List (List Nat))(y:List Nat)(hP:BH Any w b o (AZ T))(ha:AQ Any w s (x.map ints))(Q:AP Any w N (ints y))(z:∀c∈x,El T c)(d:El T y)(a:0<x.length->0<T.length)(a7:x.length<=1000):
  Calls Tryz.prog 44 #[.pointer (some ⟨b,o,none⟩),s,N] w (KJ ((KH T x y).map ints) w):=by
 obtain⟨j0,F,a5,a2,a9⟩:=Bd Iu;obtain⟨aA,cA,rfl,_,_⟩:=Am.form ha;obtain⟨n,I⟩:∃n,x.length=n:=⟨_,rfl⟩;rw[BC,I]at ha ⊢;rw[I]at a7 a;have HA:=AB ha;have S:=AB I;have a8:=AB (λ(V:World) (hk:Keep Any w V) (v:Value) (c:List Nat) (C:c∈x) (hv:AP Any V v (ints c))=>show Calls Tryz.prog 86 #[.pointer (some ⟨b,o,none⟩),v,N] V (CX (ints (Ay T c y)) V) from
  have hE:=z c C;have hp:=a (by rw[<-I];exact List.length_pos_of_mem C)
  QT.UE T hT hs hg V b o v N c y (hP.keep hk) hv (DW.Je hv (by rw[Ad hE];exact hp)) (Q.keep hk) (DW.Je Q (by rw[Ad d];exact hp)) hE d)
 have a3:=AB (show∀k c,x[k]?=some c->(KH T (x.take (k+1)) y).map ints=(KH T (x.take k) y).map ints++[ints (Ay T c y)] from λk c h=>by
  unfold KH;rw[EL,h];simp)
 clear hP ha Q z d I hs hT hg a;go_enter Tryz.func44,Tryz.ntmps44;go_wp2_with fail;go_loopw [7,12] (λov U wr=>∃k:Nat,k<=n/\U= .int .i64 (k:Int)/\Hid (BL w.heap.size wr ov ((KH T (x.take k) y).map ints))/\Hid (Below w.heap.size w wr)) (λ_ U _=>n-(intOf U).toNat);case atStart=>exact⟨0,AX _,rfl,AB (BL.nil _ _),AB AY⟩
 case round=>
  obtain⟨k,b2,rfl,K,D⟩:=hrel;by_cases W:k<n
  .obtain⟨c,C⟩:∃c,x[k]?=some c:=⟨_,AU (by rw[S.AA];exact W)⟩;obtain⟨bA,oA,u,rfl,_,b6,b3,B⟩:=Am.get (AQ.keep HA.AA (AO D.AA)) (show(x.map ints)[k]?=some (ints c) by rw[Bh,C];rfl);have HC:=AB (a8.AA wr (AO D.AA) u c (Af C) B);have a4:=AB (a3.AA k c C);have b4:(k:Int)<(n:Int):=by omega
   have b7:(0:Int)<=(k:Int):=by omega
   have L:=AB W;have a1:=AB (show(KH T (x.take k) y).length=k by unfold KH;rw[BC,Ec,S.AA];omega);clear C B W;go_wp2_with (first|(go_at_call 86;refine HC.AA.mono ?_;rintro e X ⟨g3,c3,rfl,Y,O⟩;have J:=AB (D.AA.trans (O.mono D.AA.size));have b5:=AB O;obtain⟨q,hq⟩:∃q,(ints (Ay T c y)).length=q:=⟨_,rfl⟩;rw[hq]at Y ⊢; have b0:=AB (show Own w.heap.size X (.slice (some ⟨g3,0,none⟩) q c3) (ints (Ay T c y)) from KT Y D.AA.size);obtain⟨us,Z,l,p⟩:=K.AA.keep O;rw[BC,a1.AA]at Z;have HU:=AB (And.intro l p);have R:=AB Z;clear Y O hq l p Z)|(at_builtin;(refine DR _ rfl _ _ 25 rfl w.heap.size 24 j0 (.slice none 0 0) 1 24 Tryz.underlying25 F a5 a2 a9 rfl (by decide) _ _ _ rfl (R.AA.alloc _) ⟨X.heap.size,0,none⟩ 1 1 [.slice (some ⟨g3,0,none⟩) q c3] rfl rfl ?c1 ?c2 ?c3 ?c4 ?c5 ?_)));case c1=>
    intro j u F
    match j,F with
    |0,F=>simp at F;subst F;simp[Addr.add]
   case c2=>intro u B;simp at B;subst B;rfl
   case c3=>have:=L.AA;unfold maxLen;omega
   case c4=>have:=L.AA;omega
   case c5=>have:=J.AA.size;simp;omega
   .intro v' w6 a0 i _;have b1:=AB (show BL w.heap.size w6 v' ((KH T (x.take (k+1)) y).map ints) from by
     rw[a4.AA];exact BL.push (w:=X.alloc _) (us:=us) (by rw[BC];exact a1.AA) (R.AA.alloc _) HU.AA.1 (λk r u hr B=>(HU.AA.2 k r u hr B).alloc _) (b0.AA.alloc _) a0 i)
    have a6:=AB (show Below w.heap.size w w6 from(J.AA.alloc (by have:=J.AA.size;omega) _).grown i (by simp;have:=J.AA.size;omega) (λg hg=>(Aq R.AA g hg).1));clear a0 i K;go_wp2_with fail;go_roundw;case rel=>exact⟨k+1,L.AA,by go_num,b1,a6⟩
    case measure=>have:=L.AA;simp[intOf];omega
  .obtain rfl:k=n:=by omega
   have b8:¬(k:Int)<(k:Int):=by omega
   have HF:=AB (show KJ ((KH T x y).map ints) w (.returned u7) wr from⟨_,rfl,by have h:=K.AA;rwa[show x.take k=x by rw[<-S.AA,FO]]at h,D.AA⟩);clear K D;go_wp2_with fail;go_ret;exact HF.AA
theorem Tn (T:Tw)(Y:Ba.BR (AZ T))(w:World)(F I D R K:Value)(a:List (List Nat))(x:List Nat)(u:Av Any w F I D (AZ T))(ha:AQ Any w R (a.map ints))(s:AP Any w K (ints x))(O:BD T T a)(U:El T x):
  Calls Tryz.prog 16 #[.agg #[F,I,D],R,K] w (λe w'=>∃b n c,e= .returned (.tuple #[.slice b n c,.int .i64 0])/\AP Any w' (.slice b n c) (ints (phi T a x))/\Below w.heap.size w w'):=by
 obtain⟨hT,d,q,a8⟩:=EM.FJ Y;have G:=BA hT q;obtain⟨g,hg⟩:∃g,w.heap.size=g:=⟨_,rfl⟩;obtain⟨B,N⟩:∃B,B=w.alloc (.cells #[F,I,D] 28):=⟨_,rfl⟩;have C:Below w.heap.size w B:=by rw[N];exact AY.alloc AV _
 have a5:B.heap.size=g+1:=by rw[N,<-hg];simp
 have a1:B.heap[g]?=some (.cells #[F,I,D] 28 (0,0)):=by rw[N,<-hg];exact Aj w _
 have J:∀(W:World),Below B.heap.size B W->(W.cell? ⟨g,0,none⟩=some F/\W.cell? ⟨g,1,none⟩=some I/\W.cell? ⟨g,2,none⟩=some D)/\g<W.heap.size/\BH Any W g 0 (AZ T):=λW h=>by
  obtain⟨i,X,V⟩:=(Aa ((h.block g (by omega)).trans a1)).1;have j:g<W.heap.size:=by have:=h.size;omega
  exact⟨⟨i,X,V⟩,j,trivial,j,_,_,_,i,X,V,(u.keep (AO C)).keep (AO (S:=Any) h)⟩
 have a9:=AB J;have HB:=AB (λ(W:World) (h:Below B.heap.size B W)=>C.trans (h.mono C.size));have HA:=AB (MQ B F I D R (AZ T) (a.map ints) (u.keep (AO C)) (ha.keep (AO C)));have a3:=AB (show Cc (AZ T) (a.map ints) from⟨T,a,rfl,rfl,Y,O⟩);have b0:=AB (λ(W:World) (h:Below B.heap.size B W)=>Kh.TH W g 0 (AZ T) K (ints x) (J W h).2.2 ((s.keep (AO C)).keep (AO (S:=Any) h)) (Kq.Po Y));have b1:=AB (Ph U);have a4:=AB (λ(W:World) (h:Below B.heap.size B W)=>show Calls Tryz.prog 42 #[.pointer (some ⟨g,0,none⟩),R,K] W (CX (ints (phi T a x)) W) from by
  have h1:=Kl.PD T hT d q W g 0 (J W h).2.2 R K a x ((ha.keep (AO C)).keep (AO (S:=Any) h)) ((s.keep (AO C)).keep (AO (S:=Any) h)) O.el (by rw[Ad U,O.len]) (by rw[Ad U];exact d.1) (λy hy=>by
   obtain⟨k,hk⟩:=Eb hy;obtain⟨L,hL,b2⟩:=Gb U hk;have:=d.2 L (Af hL);omega)
  rwa[G.IJ O.el]at h1)
 obtain⟨⟨i,X,V⟩,j,-⟩:=J B AY;clear u ha s O U C a5 a1 hT d q a8 G Y J;go_enter Tryz.func16,Tryz.ntmps16;go_upto_region 1 with fail;rw[<-N];clear N hg;go_wp2_with (first|(go_at_call 12;refine HA.AA.mono ?_;rintro e l ⟨r,rfl,Q,z⟩;obtain rfl:r=true:=Q.2 a3.AA;have Z:=AB z;obtain⟨⟨i,X,V⟩,j,-⟩:=a9.AA l z;clear Q z)|(go_at_call 41;refine(b0.AA l Z.AA).mono ?_;rintro e w2 ⟨r,rfl,Q,rfl⟩;obtain rfl:r=true:=Q.2 b1.AA;clear Q)|(go_at_call 42;refine(a4.AA l Z.AA).mono ?_;rintro e w3 ⟨g3,c3,rfl,p,a2⟩;obtain⟨n3,a0⟩:∃n,(ints (phi T a x)).length=n:=⟨_,rfl⟩;rw[a0]at p ⊢; have a7:=AB (show AP Any w3 (.slice (some ⟨g3,0,none⟩) n3 c3) (ints (phi T a x)) from p.sl.mono λ_ _=>trivial);have a6:=AB (HB.AA w3 (Z.AA.trans (a2.mono Z.AA.size)));clear p a2 a0));exact Au (v:=.tuple #[.slice (some ⟨g3,0,none⟩) n3 c3,.int .i64 0]) (by simp[results,Tryz.results16,go_sem]) rfl ⟨_,_,_,rfl,a7.AA,a6.AA⟩
end Ls
end Go.Proofs.YtgjadpmbnejaoaaGreat
