import Derived.Test.YtgjadpmbnejaoaaGreatZf
/-
  Lemmas for the law FnAutomorphisms, in short spelling.
-/
set_option linter.unusedVariables false
set_option linter.unusedSimpArgs false
set_option maxRecDepth 100000
set_option maxHeartbeats 40000000
namespace Go.Proofs.YtgjadpmbnejaoaaGreat
namespace Ow
open fG(Z9)
open RowKit Lib AJ Val Bv Bl Ch Cr Bj EH NL Ov Vp TB
def fH (B n:Nat)(w:World)(e:Ending)(w':World):Prop:=∃F I C J D K b,e= .returned (.tuple #[.agg #[.slice F n I,.slice C n J,.slice D n K],.bool b])/\PT B w' n (.slice F n I) (.slice C n J) (.slice D n K)/\Below w.heap.size w w'
theorem sU {L:List ByteArray}(h:L.length=2):∃B C,L=[B,C]:=by
 match L,h with
 |[a,b],_=>exact⟨a,b,rfl⟩
theorem Ty.box {B b i:Nat}{w:World}{c:Value}{J:Array Value}(C:w.heap[b]?=some (.cells J 28 (0,0))):Ty B w (w.setCell ⟨b,i,none⟩ c):=
 Ty.Sz (λn v h=>h.other C (by decide)) (λL v us h g=>⟨us,Fz h C (by decide),λi n hi=>by obtain⟨u,D,F⟩:=g i n hi;exact⟨u,D,F.other C (by decide)⟩⟩)
  (λM v us h g F=>⟨us,Fz h C (by decide),λi L hi=>by obtain⟨u,D,I⟩:=g i L hi;exact⟨u,D,F _ _ I⟩⟩)
theorem Ty.JF {B g:Nat}{w:World}{a b c x y z:Value}(h:w.heap[g]?=some (.cells #[a,b,c] 28 (0,0))):Ty B w (((w.setCell ⟨g,0,none⟩ x).setCell ⟨g,1,none⟩ y).setCell ⟨g,2,none⟩ z):=by
 have C:(w.setCell ⟨g,0,none⟩ x).heap[g]?=some (.cells #[x,b,c] 28 (0,0)):=Gf w g 0 _ _ _ h;have e2:((w.setCell ⟨g,0,none⟩ x).setCell ⟨g,1,none⟩ y).heap[g]?=some (.cells #[x,y,c] 28 (0,0)):=Gf _ g 1 _ _ _ C;exact((Ty.box h).trans (Ty.box C)).trans (Ty.box e2)
def wY (n:Nat)(w:World)(e:Ending)(w':World):Prop:=∃a k c b,e= .returned (.tuple #[.slice a k c,.bool b])/\(b=true->k=n/\R1 w.heap.size w' n (.slice a n c))/\Below w.heap.size w w'
theorem uo {n:Nat}{w w':World}{e:Ending}(h:SN n w e w'):wY n w e w':=by
 rcases h with⟨g,c,rfl,C,B⟩|⟨rfl,B⟩
 .exact⟨_,_,_,_,rfl,λ_=>⟨rfl,C⟩,B⟩
 .exact⟨_,_,_,_,rfl,λh=>Bool.noConfusion h,B⟩
theorem slot_ne {B N n gp i g:Nat}{w:World}{I J F:Value}(h:Slot B N w gp i)(D:PX B n w g I J F):¬g=gp:=λe=>by
 obtain⟨_,_,_,K,u0,C,_⟩:=h;rw[<-e,D.1]at C;simp at C
theorem vB (B n:Nat)(hn:n<=20)(s:ByteArray)(hs:s.size<=1000)(a1 V Y:Option Addr)(S Z X:Nat)(w:World)(g8:B<=w.heap.size)(hA:PT B w n (.slice a1 n S) (.slice V n Z) (.slice Y n X)):
  Calls Tryz.prog 262 #[.agg #[.slice a1 n S,.slice V n Z,.slice Y n X],.string s] w (fH B n w):=by
 obtain⟨J,c6⟩:∃J,w.heap.size=J:=⟨_,rfl⟩;obtain⟨I,b1⟩:∃I,I=(w.alloc (.cells #[.slice a1 n S,.slice V n Z,.slice Y n X] 28)).alloc CV:=⟨_,rfl⟩;have l6:=AB c6;have r:=AB (show Below w.heap.size w I by rw[b1];exact(AY.alloc AV _).alloc (by simp) _);have c0:=AB (show I.heap.size=J+2 by rw[b1,<-c6];simp);have HP:=AB (λ(W:World) (D:Below I.heap.size I W)=>show W.heap[J]?=some (.cells #[.slice a1 n S,.slice V n Z,.slice Y n X] 28 (0,0)) from
  (D.block J (by rw[c0.AA];omega)).trans (by rw[b1,<-c6];exact(Dv _ _ _ (by simp)).trans (Aj w _)))
 have Q:=AB (λ(W:World) (D:Below I.heap.size I W)=>show W.heap[J+1]?=some CV/\J+1<W.heap.size from
  ⟨(D.block (J+1) (by rw[c0.AA];omega)).trans (by rw[b1,<-c6];exact IZ w _ _),by have:=D.size;rw[c0.AA]at this;omega⟩)
 have f4:=AB (λ(W:World) (D:Below I.heap.size I W)=>hA.ty (Ty.below (r.AA.trans (D.mono r.AA.size))));have HF:=AB (λ(W:World) (D:Below w.heap.size w W) (d x2 x3:Option Addr) (y1 y2 y3:Nat) (b:Bool) (hz:W.heap[J+1]?=some CV) (hP:PT B W n (.slice d n y1) (.slice x2 n y2) (.slice x3 n y3))=>show fH B n w (.returned (.tuple #[.agg #[.slice d n y1,.slice x2 n y2,.slice x3 n y3],.bool b])) (((W.setCell ⟨J+1,0,none⟩ (.slice d n y1)).setCell ⟨J+1,1,none⟩ (.slice x2 n y2)).setCell ⟨J+1,2,none⟩ (.slice x3 n y3)) from by
  exact⟨_,_,_,_,_,_,b,rfl,hP.ty (Ty.JF hz),((D.setCell (p:=⟨J+1,0,none⟩) (by show w.heap.size<=J+1;omega) _).setCell (p:=⟨J+1,1,none⟩) (by show w.heap.size<=J+1;omega) _).setCell (p:=⟨J+1,2,none⟩) (by show w.heap.size<=J+1;omega) _⟩)
 have g9:=AB (λk (h:I.heap.size<=k)=>Ae g8 (Ae r.AA.size h));have HN:=AB (λ(W:World) (D:Below I.heap.size I W)=>HF.AA W (r.AA.trans (D.mono r.AA.size)) _ _ _ _ _ _ false (Q.AA W D).1 (f4.AA W D));have g1:=AB (λW=>Ug s 61 61 rfl hs W);go_enter Tryz.func262,Tryz.ntmps262;go_upto_region 1 with fail;rw[<-b1];clear b1 c6 hA g8;obtain⟨⟨p0,p1,p2⟩,-⟩:=Aa (HP.AA I AY);go_upto_region 3 with(first|(go_at_call 260;refine(g1.AA _).mono ?_;rintro e O ⟨v,L,m,rfl,h6,i7,d3,h9,hO,i2⟩)|fail);obtain⟨av,cv,rfl⟩:=II hO;have b0:=AB (show Below I.heap.size I O from i2);have k6:=AB h9;have i0:=AB h6;have HL:=AB (λ(W:World) (D:Below O.heap.size O W) (k:Nat) (x:ByteArray) (hk:L[k]?=some x)=>show∃g,av=some ⟨g,0,none⟩/\W.cell? ⟨g,k,none⟩=some (.string x)/\g<W.heap.size from by
  obtain⟨g,c',he,j1,a0⟩:=Rf hO hk;obtain⟨rfl,rfl⟩:av=some ⟨g,0,none⟩/\cv=c':=by simpa using he
  exact⟨g,rfl,(D.cell (p:=⟨g,k,none⟩) a0).trans j1,Ah a0 D.size⟩)
 have m4:(m:Int)<=1001:=by omega
 clear hO i2 g1 p0 p1 p2 h9 h6 i7 d3;go_cut [43] (λv W=>(∃b,v= .bool b/\(b=false->∃F d,L=[F,d]/\F.size=4))/\W=O);case first=>
  by_cases d3:m=2
  .obtain⟨F,d,rfl⟩:=sU (i0.AA.trans d3);obtain⟨g,rfl,hc,a0⟩:=HL.AA O AY 0 F rfl;subst d3;by_cases h4:F.size=4
   .have H4:=AB h4;have n1:0<F.size:=by omega
    have l1:2<F.size:=by omega
    have l0:((F.size:Int) !=4)=false:=by rw[h4];rfl
    cases m0:((F[0].toNat:Int) !=32)with
    |true=>
     go_wp2_with fail;go_meet;exact⟨⟨_,rfl,λ_=>⟨_,_,rfl,H4.AA⟩⟩,rfl⟩
    |false=>
     cases m3:((F[2].toNat:Int) !=94)<;>
      (go_wp2_with fail
       go_meet;exact⟨⟨_,rfl,λ_=>⟨_,_,rfl,H4.AA⟩⟩,rfl⟩)
   .have l0:((F.size:Int) !=4)=true:=bne_iff_ne.2 (by omega);clear h4;go_wp2_with fail;go_meet;exact⟨⟨_,rfl,λh=>Bool.noConfusion h⟩,rfl⟩
  .have l7:((m:Int) !=2)=true:=bne_iff_ne.2 (by omega);clear d3;go_wp2_with fail;go_meet;exact⟨⟨_,rfl,λh=>Bool.noConfusion h⟩,rfl⟩
 case rest=>
  obtain⟨⟨b,rfl,D⟩,rfl⟩:=hcut;rename World=>O;cases b with
  |true=>
   obtain⟨⟨p0,p1,p2⟩,-⟩:=Aa (HP.AA O b0.AA);obtain⟨⟨e0,e1,e2⟩,f0,f1,f2⟩:=Aa (Q.AA O b0.AA).1;have a0:=(Q.AA O b0.AA).2;clear D;go_wp2_with fail;obtain⟨⟨z0,q,z2⟩,-⟩:=Aa (Bi (x:=.slice a1 n S) (y:=.slice V n Z) (z:=.slice Y n X) (Q.AA O b0.AA).1);exact Au (v:=.tuple #[.agg #[.slice a1 n S,.slice V n Z,.slice Y n X],.bool false]) (by simp[results,Tryz.results262,go_sem,z0,q,z2]) rfl (HN.AA O b0.AA)
  |false=>
   obtain⟨F,d,rfl,h4⟩:=D rfl;obtain rfl:m=2:=i0.AA.symm;have j4:d.size<=1000:=Ae (k6.AA d (by simp)) hs;obtain⟨g,rfl,q0,a0⟩:=HL.AA O AY 0 F rfl;have q1:O.cell? ⟨g,1,none⟩=some (.string d):=by
    obtain⟨g',e,h,_⟩:=HL.AA O AY 1 d rfl;obtain rfl:g=g':=by simpa using e
    exact h
   have k0:=AB (λW=>jh n (by omega) d j4 W);clear D;go_upto_region 6 with(first|(go_at_call 270;refine(k0.AA _).mono ?_;rintro e R ⟨l,a4,c4,b3,rfl,g5,e5,e8,f7⟩)|fail);have a8:=AB (show Below I.heap.size I R from b0.AA.trans (f7.mono b0.AA.size));have e3:=AB (show Below O.heap.size O R from f7);clear q0 q1 a0;obtain⟨ml,d8⟩:∃ml,l.length=ml:=⟨_,rfl⟩;have g3:=AB ((iW n (by omega) a4 ml c4 l d8 R (by rw[<-d8];exact Jm.Gw g5 rfl) (by omega) e5).mono λe w' h=>uo h);rw[d8];clear g5 e5 e8 d8 f7;cases b3 with
   |false=>
    obtain⟨⟨p0,p1,p2⟩,-⟩:=Aa (HP.AA R a8.AA);obtain⟨⟨e0,e1,e2⟩,f0,f1,f2⟩:=Aa (Q.AA R a8.AA).1;have a0:=(Q.AA R a8.AA).2;go_wp2_with fail;obtain⟨⟨z0,q,z2⟩,-⟩:=Aa (Bi (x:=.slice a1 n S) (y:=.slice V n Z) (z:=.slice Y n X) (Q.AA R a8.AA).1);exact Au (v:=.tuple #[.agg #[.slice a1 n S,.slice V n Z,.slice Y n X],.bool false]) (by simp[results,Tryz.results262,go_sem,z0,q,z2]) rfl (HN.AA R a8.AA)
   |true=>
    go_upto_region 9 with(first|(go_at_call 271;refine g3.AA.mono ?_;rintro e w4 ⟨a5,C,c5,b4,rfl,c7,d9⟩)|fail);have g4:=AB (show Below I.heap.size I w4 from a8.AA.trans (d9.mono a8.AA.size));have c8:=AB (show Below R.heap.size R w4 from d9);have h0:=AB c7;obtain⟨g',eg,q0,a0⟩:=HL.AA w4 (e3.AA.trans (d9.mono e3.AA.size)) 0 F rfl;obtain rfl:g=g':=by simpa using eg
    have i4:1<F.size:=by omega
    have e8:3<F.size:=by omega
    obtain⟨x,hx⟩:∃x:Int,(F[1].toNat:Int)-97=x:=⟨_,rfl⟩;obtain⟨y,hy⟩:∃x:Int,(F[3].toNat:Int)-97=x:=⟨_,rfl⟩;have i8:=F[1].toNat_lt;have k8:=F[3].toNat_lt;have j6:IntKind.i64.wrap ((F[1].toNat:Int)-97)=x:=by rw[Ac _ (by omega)];exact hx
    have j3:IntKind.i64.wrap ((F[3].toNat:Int)-97)=y:=by rw[Ac _ (by omega)];exact hy
    have j2:IntKind.i64.wrap (F[1].toNat:Int)=(F[1].toNat:Int):=Ac _ (by omega);have j0:IntKind.i64.wrap (F[3].toNat:Int)=(F[3].toNat:Int):=Ac _ (by omega);have l2:=AB (show(-97<=x/\x<=300)/\(-97<=y/\y<=300) by omega);clear d9 c7 g3 eg hx hy i8 k8;go_cut [12,13] (λu v W=>u= .int .i64 x/\v= .int .i64 y/\Hid (Below w4.heap.size w4 W));case first=>
     go_region_law (fail);all_goals
      go_wp2_with fail;go_meet;exact⟨rfl,rfl,AB AY.drew⟩
    case rest=>
     obtain⟨rfl,rfl,b9⟩:=hcut;rename World=>U;have a7:=AB (show Below I.heap.size I U from g4.AA.trans (b9.AA.mono g4.AA.size));clear j6 j3 j2 j0 q0;go_upto_region 10 with fail;go_cut [84] (λv W=>(∃b,v= .bool b/\(b=false->b4=true/\0<=x/\x<(n:Int)))/\W=U);case first=>
      cases b4 with
      |false=>
       go_wp2_with fail;go_meet;exact⟨⟨_,rfl,λh=>Bool.noConfusion h⟩,rfl⟩
      |true=>
       by_cases h1:x<0
       .go_wp2_with fail;go_meet;exact⟨⟨_,rfl,λh=>Bool.noConfusion h⟩,rfl⟩
       .by_cases h2:(n:Int)<=x
        .go_wp2_with fail;go_meet;exact⟨⟨_,rfl,λh=>Bool.noConfusion h⟩,rfl⟩
        .have HH:=AB (show 0<=x/\x<(n:Int) by omega);go_wp2_with fail;go_meet;exact⟨⟨_,rfl,λ_=>⟨by first|rfl|trivial,HH.AA⟩⟩,rfl⟩
     case rest=>
      obtain⟨⟨b,rfl,D⟩,rfl⟩:=hcut;rename World=>U;cases b with
      |true=>
       clear D;obtain⟨⟨p0,p1,p2⟩,-⟩:=Aa (HP.AA U a7.AA);obtain⟨⟨e0,e1,e2⟩,f0,f1,f2⟩:=Aa (Q.AA U a7.AA).1;have a0:=(Q.AA U a7.AA).2;go_wp2_with fail;obtain⟨⟨z0,q,z2⟩,-⟩:=Aa (Bi (x:=.slice a1 n S) (y:=.slice V n Z) (z:=.slice Y n X) (Q.AA U a7.AA).1);exact Au (v:=.tuple #[.agg #[.slice a1 n S,.slice V n Z,.slice Y n X],.bool false]) (by simp[results,Tryz.results262,go_sem,z0,q,z2]) rfl (HN.AA U a7.AA)
      |false=>
       obtain⟨rfl,j8,m6⟩:=D rfl;obtain⟨rfl,c7⟩:=h0.AA rfl;obtain⟨j,rfl⟩:∃j:Nat,x=(j:Int):=⟨x.toNat,by omega⟩;have hj:j<C:=by omega
       have h5:=AB (UM C (by omega) a1 V Y S Z X U ((f4.AA U a7.AA).mono (AX _)));clear D h0 j8;obtain⟨⟨p0,p1,p2⟩,-⟩:=Aa (HP.AA U a7.AA);go_upto_region 13 with(first|(go_at_call 126;refine h5.AA.mono ?_;rintro e w6 ⟨vO,vP,vC,rfl,f8,d7⟩;obtain⟨b8,b5,d6,b6,d5,b2,rfl,rfl,rfl⟩:=f8.form)|fail);obtain⟨N,e4⟩:∃N,N=w6.alloc (.cells #[.slice b8 C b5,.slice d6 C b6,.slice d5 C b2] 28):=⟨_,rfl⟩;rw[<-e4];obtain⟨g7,f5⟩:∃g7,w6.heap.size=g7:=⟨_,rfl⟩;rw[f5];have e9:=AB (show Below U.heap.size U N from by rw[e4];exact d7.alloc d7.size _);have d4:=AB (show Below I.heap.size I N from a7.AA.trans (e9.AA.mono a7.AA.size));have i6:=AB (show Below R.heap.size R N from(c8.AA.trans (b9.AA.mono c8.AA.size)).trans (e9.AA.mono (Ae c8.AA.size b9.AA.size)));have HX:=AB (show PX R.heap.size C N g7 (.slice b8 C b5) (.slice d6 C b6) (.slice d5 C b2) from by rw[e4,<-f5];exact Iq f8 (Ae c8.AA.size b9.AA.size) (Ae (Ae c8.AA.size b9.AA.size) d7.size));have i3:=AB (show R1 R.heap.size N C (.slice a5 C c5) from(Ty.below (e9.AA)).one _ _ ((Ty.below b9.AA).one _ _ c7));have f9:=AB (λ(W:World) (D:Below N.heap.size N W)=>show W.cell? ⟨g,0,none⟩=some (.string F)/\g<W.heap.size from by
        obtain⟨g',eg,h1,h2⟩:=HL.AA W (by
         have h3:=e3.AA.trans (i6.AA.mono e3.AA.size);exact h3.trans (D.mono h3.size)) 0 F rfl
        obtain rfl:g=g':=by simpa using eg
        exact⟨h1,h2⟩)
       obtain⟨go,m7,o,rfl,k1,_,_,_,k2⟩:=Jm.Li (f4.AA N d4.AA).1 hj;have g6:=AB (λW=>Z9 o W);obtain⟨q0,a0⟩:=f9.AA N AY;obtain⟨⟨p0,p1,p2⟩,-⟩:=Aa (HP.AA N d4.AA);have k3:J<N.heap.size:=by have h1:=d4.AA.size;have h2:=c0.AA;omega
       clear e4 f5 f8 d7 h5 c7;go_cut [98] (λv W=>(∃b,v= .bool b)/\Hid (Below N.heap.size N W));case first=>
        go_region_law
         (first|(go_simp;go_at_call 272;refine(g6.AA _).mono ?_;rintro e wd ⟨sd,rfl,m9,h7⟩;have g2:=AB (show Below N.heap.size N wd from(by first|exact h7|exact(AY.drew).trans h7));obtain⟨n3,l5⟩:=f9.AA wd g2.AA)|(fail))
        all_goals
         go_wp2_with fail;go_meet;exact⟨⟨_,rfl⟩,g2⟩
       case rest=>
        obtain⟨⟨b,rfl⟩,f3⟩:=hcut;rename World=>a;have a6:=AB (show Below I.heap.size I a from d4.AA.trans (f3.AA.mono d4.AA.size));have b7:=AB (show I.heap.size<=R.heap.size from a8.AA.size);have a9:=AB (HX.AA.below f3.AA);have i1:=AB ((Ty.below f3.AA).one _ _ i3.AA);clear q0 a0 p0 p1 p2 k3 k1 k2 h4 i4 e8 HX i3 g6 HL f9;obtain⟨⟨d0,d1,d2⟩,-⟩:=Aa a9.AA.1;have m1:=a9.AA.lt;obtain⟨⟨e0,e1,e2⟩,f0,f1,f2⟩:=Aa (Q.AA a a6.AA).1;have m2:=(Q.AA a a6.AA).2;cases b with
        |true=>
         obtain⟨gp,j7,K⟩:=a9.AA.Ki (i:=j) hj;subst j7;have j5:=slot_ne K a9.AA;obtain⟨u0,j9⟩:=K.cell;have i9:=K.1;have e5:=K.2.2.1;have e6:¬J+1=gp:=by have h1:=c0.AA;have h2:=b7.AA;have h3:=K.2.1;omega
         have l9:=AB K;have e7:=AB (K.put a9.AA i1.AA);have c9:=AB ((JA a ⟨gp,j,none⟩ (J+1) (.slice a5 C c5) e6).trans (Q.AA a a6.AA).1);have f6:=AB ((r.AA.trans (a6.AA.mono r.AA.size)).setCell (p:=⟨gp,j,none⟩) (Ae (Ae r.AA.size b7.AA) K.2.1) (.slice a5 C c5));clear K;go_wp2_with fail;obtain⟨⟨z0,q,z2⟩,-⟩:=Aa (Bi (x:=.slice b8 C b5) (y:=.slice (some ⟨gp,0,none⟩) C b6) (z:=.slice d5 C b2) c9.AA);exact Au (v:=.tuple #[.agg #[.slice b8 C b5,.slice (some ⟨gp,0,none⟩) C b6,.slice d5 C b2],.bool true]) (by simp[results,Tryz.results262,go_sem,z0,q,z2]) rfl (HF.AA _ f6.AA _ _ _ _ _ _ _ c9.AA (e7.AA.2.2.mono (g9.AA _ b7.AA)))
        |false=>
         go_upto_region 16 with fail;go_cut [111] (λv W=>(∃b,v= .bool b/\(b=false->0<=y/\y<(j:Int)))/\W=a);case first=>
          by_cases h1:y<0
          .go_wp2_with fail;go_meet;exact⟨⟨_,rfl,λh=>Bool.noConfusion h⟩,rfl⟩
          .by_cases h2:(j:Int)<=y
           .go_wp2_with fail;go_meet;exact⟨⟨_,rfl,λh=>Bool.noConfusion h⟩,rfl⟩
           .have HH:=AB (show 0<=y/\y<(j:Int) by omega);go_wp2_with fail;go_meet;exact⟨⟨_,rfl,λ_=>HH.AA⟩,rfl⟩
         case rest=>
          obtain⟨⟨b,rfl,D⟩,rfl⟩:=hcut;rename World=>a;cases b with
          |true=>
           clear D;obtain⟨⟨p0,p1,p2⟩,-⟩:=Aa (HP.AA a a6.AA);go_wp2_with fail;obtain⟨⟨z0,q,z2⟩,-⟩:=Aa (Bi (x:=.slice (some ⟨go,0,none⟩) C S) (y:=.slice V C Z) (z:=.slice Y C X) (Q.AA a a6.AA).1);exact Au (v:=.tuple #[.agg #[.slice (some ⟨go,0,none⟩) C S,.slice V C Z,.slice Y C X],.bool false]) (by simp[results,Tryz.results262,go_sem,z0,q,z2]) rfl (HN.AA a a6.AA)
          |false=>
           obtain⟨n4,m5⟩:=D rfl;obtain⟨i,rfl⟩:∃i:Nat,y=(i:Int):=⟨y.toNat,by omega⟩;obtain⟨kk,k9⟩:∃kk,j-(i+1)=kk:=⟨_,rfl⟩;have n0:i<j:=by omega
           have k4:i<C:=by omega
           obtain⟨gc,gr,yr,i5,k7,l8,K⟩:=a9.AA.OV (i:=i) (j:=kk) k4 (by omega);subst i5;have j5:=slot_ne K a9.AA;obtain⟨u0,j9⟩:=K.cell;have i9:=K.1;have e5:=K.2.2.1;have e6:¬J+1=gr:=by have h1:=c0.AA;have h2:=b7.AA;have h3:=K.2.1;omega
           have b1:IntKind.i64.wrap ((j:Int)-(i:Int))=(j:Int)-(i:Int):=Ac _ (by omega);have l3:IntKind.i64.wrap ((j:Int)-(i:Int)-1)=(kk:Int):=by rw[Ac _ (by omega)];omega
           obtain⟨ln,h8⟩:∃ln,C-(i+1)=ln:=⟨_,rfl⟩;rw[h8]at k7;have m8:(kk:Int)<(ln:Int):=by omega
           have l4:kk<ln:=by omega
           have n2:(i:Int)<(C:Int):=by omega
           have e7:=AB (K.put a9.AA i1.AA);have c9:=AB ((JA a ⟨gr,kk,none⟩ (J+1) (.slice a5 C c5) e6).trans (Q.AA a a6.AA).1);have f6:=AB ((r.AA.trans (a6.AA.mono r.AA.size)).setCell (p:=⟨gr,kk,none⟩) (Ae (Ae r.AA.size b7.AA) K.2.1) (.slice a5 C c5));clear K D h8 k9;go_wp2_with fail;obtain⟨⟨z0,q,z2⟩,-⟩:=Aa (Bi (x:=.slice b8 C b5) (y:=.slice d6 C b6) (z:=.slice (some ⟨gc,0,none⟩) C b2) c9.AA);exact Au (v:=.tuple #[.agg #[.slice b8 C b5,.slice d6 C b6,.slice (some ⟨gc,0,none⟩) C b2],.bool true]) (by simp[results,Tryz.results262,go_sem,z0,q,z2]) rfl (HF.AA _ f6.AA _ _ _ _ _ _ _ c9.AA (e7.AA.2.2.mono (g9.AA _ b7.AA)))
end Ow
namespace FN
open RowKit AJ
theorem JW (S:Nat->Prop)(v:Value)(l:List Int)(w:World)(p:AP S w v l)(N:l.length<=1000000):
  Calls Tryz.prog 128 #[v] w (CX l w):=by
 obtain⟨q,hi,a,Y,Z⟩:=Bd Dh;obtain⟨C,c,rfl,X,I,R,B⟩:=p;have K:=AB N;have d:=AB I;clear N I;have L:AP S w (.slice C l.length c) l:=⟨C,c,rfl,X,d.AA,R,B⟩;have W:=AB L;have Q:=DL (base:=w.heap.size) (e:=2) (size:=1) w #[] 0 AV (AX _) rfl;have r:=AB B;clear L B;cases C with
 |none=>
  obtain rfl:c=0:=R rfl;obtain rfl:l=[]:=Di (by omega);go_enter Tryz.func128,Tryz.ntmps128;go_wp2_with fail;go_ret;exact⟨w.heap.size,0,rfl,Q,AY.alloc AV _⟩
 |some ad=>
  have C1:=AB (AP.src (w':=w.alloc (.cells #[] 2)) W.AA (AL.alloc _));have C2:=AB (LH l);have C3:=AB (show 0+l.length<=maxLen from by have:=K.AA;unfold maxLen;omega);have C4:=AB (show(0+l.length)*8<=140737488355328 from by have:=K.AA;omega);have h:=AB (show(vals l).length=l.length*1 by simp[vals]);go_enter Tryz.func128,Tryz.ntmps128;go_wp2_with (at_builtin;refine DR _ rfl _ _ 24 rfl w.heap.size 2 q (.int .i64 0) 1 8 Tryz.underlying24 hi a Y Z rfl (by decide) _ _ _ rfl Q ad l.length c (vals l) rfl h.AA C1.AA C2.AA C3.AA C4.AA (by simp) ?_);intro U D F O J;have V:Own w.heap.size D U l:=by simpa[Own]using F
  have j:Below w.heap.size w D:=(AY.alloc AV _).grown O (by simp) (by intro k b;simp[Value.ownBlock]at b;omega);have i:U≠.slice none 0 0:=J;clear F O J;go_wp2_with fail;go_ret;obtain⟨g,cap,rfl⟩:=V.head i;exact⟨g,cap,rfl,V,j⟩
end FN
namespace BU
open RowKit AJ FN
abbrev Any:Nat->Prop:=λ_=>True
def OC (T:Tw)(i:Nat):Prop:=∀(w:World) (I C F D B:Value) (a b:List Nat),Av Any w I C F (AZ T)->AP Any w D (ints a)->AP Any w B (ints b)->
 a.length=T.length->b.length=T.length->El (T.drop i) (a.drop i)->El (T.drop i) (b.drop i)->
 Calls Tryz.prog 217 #[.agg #[I,C,F],.int .i64 i,D,B] w (Dz (ints (pad i (mul (T.drop i) (a.drop i) (b.drop i)))) w)
def RH (T:Tw)(i:Nat)(L:Lv):Prop:=∀(w:World) (F B D C:Value) (x:List Nat),Av Any w F B D (AZ T)->AP Any w C (ints x)->
 x.length=T.length->El (T.drop (i+1)) (x.drop (i+1))->
 Calls Tryz.prog 247 #[.agg #[F,B,D],.int .i64 i,C] w (Dz (ints (pad (i+1) (img (T.drop (i+1)) L.c (x.drop (i+1))))) w)
theorem Fb (n:Nat)(B:n<=6)(w:World):(Instr.makeSlice 24 (.int .i64 (n:Int)) (.int .i64 (n:Int))).run Tryz.prog w= .ok (.slice (some ⟨w.heap.size,0,none⟩) n n) (w.alloc (.cells (madeCells #[.int .i64 0] n) 2)):=
 run_make_row' (P:=Tryz.prog) 24 2 (.int .i64 0) 8 Tryz.underlying24 Dh rfl .i64 .i64 n (by omega) (by omega) w
abbrev NM (B:Tw)(c:List (List Nat))(y:List Nat)(j k:Nat):List Nat:=Fs (mul B) (AJ.one B) (AJ.one B) c y j k
theorem sV {B:Tw}(h:Wf B){c:List (List Nat)}(C:∀y∈c,El B y)(y:List Nat)(j k:Nat):El B (NM B c y j k):=
 Nq (El B) (mul B) (λ_ _ p q=>Bz h p q) _ _ c y (CR h) (CR h) C j k
theorem Ox {T:Tw}(hT:Wf T){i:Nat}{L:Lv}(B:T[i]?=some L):Wf (T.drop (i+1))/\L.c.length=T.length-(i+1)/\(∀y∈L.c,El (T.drop (i+1)) y)/\El (T.drop (i+1)) L.w/\2<=L.o:=by
 have hi:i<T.length:=(Ak.1 B).1;have e:T.drop i=L::T.drop (i+1):=by rw[Dp hi,(Ak.1 B).2]
 have:=DJ hT i;rw[e]at this;exact⟨this.2.2.2.2,by rw[this.2.2.1];simp,this.2.2.2.1,this.2.1,this.1⟩
theorem drop_cons {T:Tw}{i:Nat}{L:Lv}(B:T[i]?=some L):T.drop i=L::T.drop (i+1):=by
 have hi:i<T.length:=(Ak.1 B).1;rw[Dp hi,(Ak.1 B).2]
theorem jw (T:Tw)(hT:Wf T)(v:Small T)(i:Nat)(L:Lv)(J:T[i]?=some L)(a1:OC T (i+1)):RH T i L:=by
 intro w vO vP vC vx x S W N a5;have hi:i<T.length:=(Ak.1 J).1;have c4:=v.1;have O:=AB (Ox hT J);have d6:=Fb T.length c4;obtain⟨h,u,r,cP,aC,cC,rfl,rfl,rfl,e9,d7,e8⟩:=S.open;obtain⟨aX,cX,rfl,c8⟩:=W.open;rw[N]at c8 ⊢;rw[N]at W;obtain⟨Q,R,a2,c2,rfl,_,a4,Z,e5,a3⟩:=S.JM J;have HW:=AB hT;have b5:=AB v;have HP:=AB S;have HX:=AB W;have HL:=AB J;have c0:=AB a5;have b4:=AB N;have c6:=AB a1;have d2:=AB a3;have c5:=AB Z;have e4:L.c.length=T.length-(i+1):=O.AA.2.1;have HO:=AB (Own.made (B:=w.heap.size+1) (w.alloc (.cells #[.slice h T.length u,.slice r T.length cP,.slice (some ⟨Q,R,none⟩) T.length cC] 28)) T.length (by simp) (by unfold maxLen;omega));obtain⟨V,F⟩:∃V:Nat->Nat->List Nat,V=λm k=>pad (i+1) (NM (T.drop (i+1)) L.c (x.drop (i+1)) m k):=⟨_,rfl⟩;have HV:=AB F;have b8:=AB (show List.replicate T.length (0:Int)=ints (V 0 0) by rw[F];simp only[NM,MK];rw[Pj T (i+1) (by omega),JS];rfl);have a8:=AB (show∀m q,El T (V m q) from by
  intro m q;rw[F];exact MV hT (i+1) (sV O.AA.1 O.AA.2.2.1 _ m q) (by omega))
 have b9:=AB (show∀m q y,L.c[m]?=some y->pad (i+1) (mul (T.drop (i+1)) ((V m q).drop (i+1)) ((pad (i+1) y).drop (i+1)))=V m (q+1) from by
  intro m q y I;rw[F];show pad (i+1) (mul _ ((pad (i+1) _).drop (i+1)) _)=pad (i+1) _;rw[BJ,BJ,NM,NM,Na,BG,I];rfl)
 have c3:=AB (show∀m a,m<T.length-(i+1)->x[i+1+m]?=some a->V m a=V (m+1) 0 from by
  intro m a hm ha;rw[F];show pad (i+1) _=pad (i+1) _;rw[NM,Nb _ _ _ _ _ m a (by omega) (by rw[Fa];exact ha)])
 have b7:=AB (show V (T.length-(i+1)) 0=pad (i+1) (img (T.drop (i+1)) L.c (x.drop (i+1))) from by
  rw[F];show pad (i+1) _=pad (i+1) _;rw[NM,Np _ _ _ _ _ _ (by omega) (by simp;omega)];rfl)
 clear S W J a5 N a1 F hT v a3 Z;go_enter Tryz.func247,Tryz.ntmps247;go_wp2_with fail;go_loopw [8,9] (λo j wr=>∃m:Nat,m<=T.length-(i+1)/\j= .int .i64 ((i:Int)+1+(m:Int))/\Own (w.heap.size+1) wr o (ints (V m 0))/\
   Below (w.heap.size+1) (w.alloc (.cells #[.slice h T.length u,.slice r T.length cP,.slice (some ⟨Q,R,none⟩) T.length cC] 28)) wr) (λ_ j _=>T.length-(intOf j).toNat)
 case atStart=>exact⟨0,AX _,by go_num,by rw[<-b8.AA];have:=HO.AA;simpa using this,AY.alloc (by simp) _⟩
 case round=>
  obtain⟨m,hm,rfl,X,K⟩:=hrel;by_cases d5:m<T.length-(i+1)
  .obtain⟨a,ha⟩:∃a,x[i+1+m]?=some a:=⟨_,AU (by rw[b4.AA];omega)⟩;obtain⟨bX,oX,rfl,_,b0,Y⟩:=HX.AA.at ha;obtain⟨y,I⟩:∃y,L.c[m]?=some y:=⟨_,AU (by omega)⟩;obtain⟨b2,o2,uy,rfl,_,b1,s,a7⟩:=d2.AA m y I;have d:=Cq K Any;have e6:wr.cell? ⟨bX,oX+(i+1+m),none⟩=some (.int .i64 (a:Int)):=by rw[d.cell trivial b0];exact Y
   have d4:a<7:=b5.AA.lt c0.AA (by omega) ha;have HA:=AB ha;have HY:=AB I;have d3:=AB s;have c9:=AB a7;have z:=AB K;have l:=AB X;have d9:=AB d;have b3:=AB Y;have hd:decide ((i:Int)+1+(m:Int)<(T.length:Int))=true:=by simp;omega
   clear ha K X d Y I s a7;go_wp2_with fail;go_loopw [8,10] (λo k wi=>∃q:Nat,q<=a/\k= .int .i64 (q:Int)/\Own (w.heap.size+1) wi o (ints (V m q))/\
    Below (w.heap.size+1) (w.alloc (.cells #[.slice h T.length u,.slice r T.length cP,.slice (some ⟨Q,R,none⟩) T.length cC] 28)) wi) (λ_ k _=>a-(intOf k).toNat)
   case atStart=>exact⟨0,AX _,rfl,l.AA,z.AA⟩
   case round=>
    obtain⟨q,hq,rfl,U,D⟩:=hrel;have C:=Cq D Any;have d8:wr.cell? ⟨bX,oX+(i+1+m),none⟩=some (.int .i64 (a:Int)):=by rw[C.cell trivial b0];exact b3.AA
    by_cases e3:q<a
    .have d0:=AB (HP.AA.keep C);obtain⟨e0,e1,e2⟩:=CY D;have Z:wr.cell? ⟨Q,R+i,none⟩=some (.slice (some ⟨b2,o2,none⟩) L.c.length c2):=by rw[C.cell trivial a4];exact c5.AA
     have s:wr.cell? ⟨b2,o2+m,none⟩=some uy:=by rw[C.cell trivial b1];exact d3.AA
     have w1:IntKind.i64.wrap (((i:Int)+1+(m:Int))-(i:Int))=(m:Int)+1:=by rw[Ac _ (by omega)];omega
     have w2:IntKind.i64.wrap (((m:Int)+1)-1)=(m:Int):=by rw[Ac _ (by omega)];omega
     have w3:IntKind.i64.wrap ((i:Int)+1)=(i:Int)+1:=Ac _ (by omega);have w8:IntKind.i64.wrap (m:Int)=(m:Int):=Ac _ (by omega);have w4:(m:Int)<(L.c.length:Int):=by omega
     have w5:(0:Int)<=(m:Int):=by omega
     have w6:(i:Int)<(T.length:Int):=by omega
     have w7:(0:Int)<=(i:Int):=by omega
     have a0:w.heap.size<wr.heap.size:=by have:=D.size;simp at this;omega
     have f0:=Nat.lt_trans a4 a0;have e7:=Nat.lt_trans b1 a0;have g:=AB D;have p:=AB U;have b6:=AB (c9.AA.keep C);have d1:=AB (show El (T.drop (i+1)) ((V m q).drop (i+1)) from Gu (a8.AA m q) (i+1));have c7:=AB (show(V m q).length=T.length from Ad (a8.AA m q));have a9:=AB (show El T (pad (i+1) y) from MV HW.AA (i+1) (O.AA.2.2.1 y (Af HY.AA)) (by omega));clear D U C;go_wp2_with fail;go_region_held3 (λw'=>(∀b o,b<wr.heap.size->w'.cell? ⟨b,o,none⟩=wr.cell? ⟨b,o,none⟩)/\Keep (λ_=>True) wr w')
      (first|exact Ap AL.drew|exact Ap (AR AL.drew ‹_›))
      (first|(go_at_call 217;refine(c6.AA _ _ _ _ _ _ (V m q) (pad (i+1) y) (d0.AA.keep AL.drew) ((p.AA.sl.mono (λ_ _=>trivial)).keep AL.drew) (b6.AA.keep AL.drew) c7.AA (Ad a9.AA) d1.AA (Gu a9.AA (i+1))).mono ?_;rintro e w2 ⟨v2,rfl,a6,c1⟩))
     go_wp2_with fail;go_roundw;case rel=>exact⟨q+1,by omega,by go_num,by rw[b9.AA m q y HY.AA]at a6;exact a6.mono (by show w.heap.size+1<=wr.heap.size;omega),g.AA.trans ((AY.drew).trans (c1.mono (by show w.heap.size+1<=wr.heap.size;omega)))⟩
     case measure=>simp[intOf];omega
    .obtain rfl:q=a:=by omega
     have g:=AB D;have p:=AB U;clear D U C;go_wp2_with fail;go_roundw;case rel=>exact⟨m+1,by omega,by go_num,by rw[<-c3.AA m q (by omega) HA.AA];exact p.AA,g.AA⟩
     case measure=>simp[intOf];omega
  .obtain rfl:m=T.length-(i+1):=by omega
   have z:=AB K;have l:=AB X;clear K X;go_wp2_with fail;go_ret;exact⟨_,rfl,by rw[<-b7.AA];exact l.AA.mono (by omega),Cy z.AA⟩
end BU
namespace QB
open RowKit AJ FN BU
theorem vD (T:Tw)(hT:Wf T)(O:Small T)(i:Nat)(L:Lv)(K:T[i]?=some L)(d5:OC T (i+1))(e7:RH T i L):OC T i:=by
 intro w vO vP vC va vb a b Y ha D a9 c0 b9 c4;have hi:i<T.length:=(Ak.1 K).1;have g6:=O.1;have J:=AB (Ox hT K);have j1:=Fb T.length g6;obtain⟨aO,cO,aP,cP,aC,cC,rfl,rfl,rfl,i9,j2,i8⟩:=Y.open;obtain⟨aA,cA,rfl,i0⟩:=ha.open;obtain⟨aB,cB,rfl,h3⟩:=D.open;rw[a9]at i0 ha ⊢;rw[c0]at h3 D ⊢;obtain⟨bO,oO,rfl,_,f5,b7⟩:=Y.ord K;obtain⟨bP,oP,uP,rfl,_,h9,b5,f3⟩:=Y.pow K;obtain⟨p,hp⟩:∃p,a[i]?=some p:=⟨_,AU (by omega)⟩;obtain⟨q,hq⟩:∃q,b[i]?=some q:=⟨_,AU (by omega)⟩;obtain⟨bA,oA,rfl,_,g9,d0⟩:=ha.at hp;obtain⟨bB,oB,rfl,_,e6,V⟩:=D.at hq;have j4:p<7:=O.lt b9 AV hp;have j6:q<7:=O.lt c4 AV hq;have F:L.o<=7:=O.2 L (Af K);have HP:=AB Y;have HA:=AB ha;have HB:=AB D;have e3:=AB d5;have h6:=AB e7;have HT:=AB (And.intro hT (And.intro O K));clear Y ha D d5 e7 hT O K;have g:=AB (And.intro b7 (And.intro b5 (And.intro d0 V)));have h8:=AB f3;have Q:=AB (And.intro hp hq);have HE:=AB (And.intro b9 c4);clear b7 b5 d0 V f3 hp hq b9 c4;have i3:(ints a).length=T.length:=by rw[BK];exact a9
 have i1:(ints b).length=T.length:=by rw[BK];exact c0
 obtain⟨Z,x⟩:∃Z:Nat->List Nat,Z=λk=>if k=0 then a.set i 0 else pad (i+1) (it (img (T.drop (i+1)) L.c) k (a.drop (i+1))):=⟨_,rfl⟩;have a0:=AB (show∀k,(Z k).drop (i+1)=it (img (T.drop (i+1)) L.c) k (a.drop (i+1)) from by
  intro k;rw[x];by_cases l:k=0
  .subst l;simp[it,List.drop_set]
  .simp only[BF l,BJ])
 have d2:=AB (show El (T.drop (i+1)) (a.drop (i+1))/\El (T.drop (i+1)) (b.drop (i+1)) from by
  have h1:=Gu HE.AA.1 1;have h2:=Gu HE.AA.2 1;rw[EK,EK]at h1 h2;exact⟨h1,h2⟩)
 have a7:=AB (show∀k,El (T.drop (i+1)) (it (img (T.drop (i+1)) L.c) k (a.drop (i+1))) from λk=>
  GH (El _) _ (λz _=>KZ J.AA.1 J.AA.2.2.1 z) k _ d2.AA.1)
 have d7:=AB (show∀k,(Z k).length=T.length from by
  intro k;rw[x];by_cases l:k=0
  .subst l;simp[a9]
  .simp only[BF l,BS,Ad (a7.AA k),Cv];omega)
 have g4:=AB (show Z 0=a.set i 0 by rw[x];rfl);have h7:=AB (show∀k,pad (i+1) (img (T.drop (i+1)) L.c ((Z k).drop (i+1)))=Z (k+1) from by
  intro k;rw[a0.AA,<-EX (img (T.drop (i+1)) L.c),x];simp)
 clear x;go_enter Tryz.func217,Tryz.ntmps217;go_wp2_with fail;refine(JW Any _ _ _ (HA.AA.keep (AL.alloc _)) (by omega)).mono ?_;rintro e w1 ⟨g1,c1,rfl,b6,f0⟩;rw[i3]at b6 ⊢;have b8:=AB (show Below (w.heap.size+1) (w.alloc (.cells #[.slice (some ⟨bO,oO,none⟩) T.length cO,.slice (some ⟨bP,oP,none⟩) T.length cP,.slice aC T.length cC] 28)) w1 from f0.mono (by simp));have e8:=AB (b6.mono (B':=w.heap.size+1) (by simp));clear f0 b6;go_wp2_with fail;refine(JW Any _ _ _ (HB.AA.keep (Cq b8.AA Any)) (by omega)).mono ?_;rintro e w2 ⟨g2,c2,rfl,y,d4⟩;rw[i1]at y ⊢;have i5:=e8.AA.lt;have i6:=y.lt;have f4:w.heap.size+1<=w1.heap.size:=by have:=b8.AA.size;simp at this;omega
 have i7:¬g1=g2:=by omega
 have j5:¬g2=g1:=by omega
 have b4:=e8.AA.of_below d4;obtain⟨s1,f1⟩:=b4.cell (j:=i) (a:=(p:Int)) (by rw[Dt,Q.AA.1];rfl);obtain⟨s2,f2⟩:=y.cell (j:=i) (a:=(q:Int)) (by rw[Dt,Q.AA.2];rfl);have a1:=b4.Iz i 0;have e9:=(y.mono (B':=w.heap.size+1) f4).keep (S:=λk=>¬k=g1) (Keep.grown a1.2 (λk B e=>B (IL e))) (λk B=>by simp[Value.ownBlock]at B;omega);have a3:=e9.Iz i 0;have b2:=a1.1.keep (S:=λk=>¬k=g2) (Keep.grown a3.2 (λk B e=>B (IL e))) (λk B=>by simp[Value.ownBlock]at B;omega);have g0:=AB ((((b8.AA.trans (d4.mono f4)).grown a1.2 (by omega) (by intro k B;cases B;omega)).grown a3.2 (by simp;omega) (by intro k B;cases B;omega)));rw[<-g4.AA]at b2;have h4:=AB b2;have a4:=AB a3.1;clear b4 d4 y a1 e9 a3 b2;go_wp2_with fail;go_loopw [10,12] (λv k wr=>∃t:Nat,t<=q/\k= .int .i64 (t:Int)/\Own (w.heap.size+1) wr v (ints (Z t))/\Own (w.heap.size+1) wr (.slice (some ⟨g2,0,none⟩) T.length c2) (ints (b.set i 0))/\
  Below (w.heap.size+1) (w.alloc (.cells #[.slice (some ⟨bO,oO,none⟩) T.length cO,.slice (some ⟨bP,oP,none⟩) T.length cP,.slice aC T.length cC] 28)) wr) (λ_ k _=>q-(intOf k).toNat)
 case atStart=>
  exact⟨0,AX _,rfl,h4.AA,a4.AA,g0.AA⟩
 case round=>
  obtain⟨t,ht,rfl,hv,hr,D⟩:=hrel;have B:=Cq D Any;have V:wr.cell? ⟨bB,oB+i,none⟩=some (.int .i64 (q:Int)):=by rw[B.cell trivial e6];exact g.AA.2.2.2
  have HV:=AB hv;have HR:=AB hr;have a6:=AB D;have e4:=AB B;obtain⟨e0,e1,e2⟩:=CY D;clear hv hr D;by_cases h5:t<q
  .go_wp2_with fail;refine(h6.AA _ _ _ _ _ (Z t) (HP.AA.keep e4.AA) (HV.AA.sl.mono (λ_ _=>trivial)) (d7.AA t) (by rw[a0.AA];exact a7.AA t)).mono ?_;rintro e w3 ⟨v3,rfl,b1,c5⟩;rw[h7.AA]at b1;have X:w.heap.size+1<=wr.heap.size:=by have:=a6.AA.size;simp at this;omega
   have g8:=AB (b1.mono X);have g5:=AB (HR.AA.of_below c5);have I:=AB (a6.AA.trans (c5.mono X));clear b1 c5 B V e0 e1 e2;go_wp2_with fail;go_roundw;case rel=>exact⟨t+1,by omega,by go_num,g8.AA,g5.AA,I.AA⟩
   case measure=>simp[intOf];omega
  .obtain rfl:t=q:=by omega
   have X:w.heap.size+1<=wr.heap.size:=by have:=a6.AA.size;simp at this;omega
   clear h5;go_wp2_with fail;refine(e3.AA _ _ _ _ _ _ (Z t) (b.set i 0) (HP.AA.keep e4.AA) (HV.AA.sl.mono (λ_ _=>trivial)) (HR.AA.sl.mono (λ_ _=>trivial)) (d7.AA t) (by simp[c0]) (by rw[a0.AA];exact a7.AA t) (by rw[show(b.set i 0).drop (i+1)=b.drop (i+1) by simp[List.drop_set]];exact d2.AA.2)).mono ?_;rintro e C ⟨v4,rfl,a5,e5⟩;clear B V e0 e1 e2;rw[a0.AA,show(b.set i 0).drop (i+1)=b.drop (i+1) by simp[List.drop_set]]at a5;obtain⟨R,hR⟩:∃R,R=mul (T.drop (i+1)) (it (img (T.drop (i+1)) L.c) t (a.drop (i+1))) (b.drop (i+1)):=⟨_,rfl⟩;have a2:=AB (show El (T.drop (i+1)) R by rw[hR];exact Bz J.AA.1 (a7.AA t) d2.AA.2);rw[<-hR]at a5;have a4:=AB hR;have d8:=AB (a5.mono X);have I:=AB (a6.AA.trans (e5.mono X));have U:=Cq I.AA Any;obtain⟨e0,e1,e2⟩:=CY I.AA;have d0:C.cell? ⟨bA,oA+i,none⟩=some (.int .i64 (p:Int)):=by rw[U.cell trivial g9];exact g.AA.2.2.1
   have V:C.cell? ⟨bB,oB+i,none⟩=some (.int .i64 (t:Int)):=by rw[U.cell trivial e6];exact g.AA.2.2.2
   have b7:C.cell? ⟨bO,oO+i,none⟩=some (.int .i64 (L.o:Int)):=by rw[U.cell trivial f5];exact g.AA.1
   have b5:C.cell? ⟨bP,oP+i,none⟩=some uP:=by rw[U.cell trivial h9];exact g.AA.2.1
   have c6:w.heap.size+1<=C.heap.size:=by have:=I.AA.size;simp at this;omega
   have w1:IntKind.i64.wrap ((p:Int)+(t:Int))=(p:Int)+(t:Int):=Ac _ (by omega);have w6:(i:Int)<(T.length:Int):=by omega
   have w7:(0:Int)<=(i:Int):=by omega
   have f9:=AB U;clear a5 e5 U hR;by_cases d6:L.o<=p+t
   .have i2:(L.o:Int)<=(p:Int)+(t:Int):=by omega
    have f6:decide ((p:Int)+(t:Int)>=(L.o:Int))=true:=by simp;omega
    have w3:IntKind.i64.wrap ((i:Int)+1)=(i:Int)+1:=Ac _ (by omega);have j3:bP<C.heap.size:=by omega
    have j0:w.heap.size<C.heap.size:=by omega
    have i4:=AB (h8.AA.keep (Keep.trans (Cq I.AA Any) AL));have f8:=AB (HP.AA.keep f9.AA);have a8:=AB (Bz J.AA.1 J.AA.2.2.2.1 a2.AA);go_wp2_with fail;go_quiet (fail);go_wp2_with fail;go_region_held3 (λw'=>(∀b o,b<C.heap.size->w'.cell? ⟨b,o,none⟩=C.cell? ⟨b,o,none⟩)/\Keep (λ_=>True) C w')
     (first|exact Ap ((AL.drewN _).drew)|exact Ap (Keep.trans ((AL.drewN _).drew) (AO ‹_›)))
     (first|(go_at_call 217;refine(e3.AA _ _ _ _ _ _ (pad (i+1) L.w) (pad (i+1) R) (f8.AA.keep ((AL.drewN _).drew)) (i4.AA.keep ((AL.drewN _).drew)) ((d8.AA.sl.mono (λ_ _=>trivial)).keep ((AL.drewN _).drew)) (by rw[BS,Ad J.AA.2.2.2.1];simp;omega) (by rw[BS,Ad a2.AA];simp;omega) (by rw[BJ];exact J.AA.2.2.2.1) (by rw[BJ];exact a2.AA)).mono ?_;rintro e w6 ⟨v6,rfl,d3,b3⟩))
    rw[BJ,BJ]at d3;have W:=AB (show w.heap.size+1<=w6.heap.size from Ae c6 (Ae (show C.heap.size<=((C.drewN nq).drew).heap.size from((((Keep.refl (λ_=>True) C).drewN nq).drew).size)) b3.size));have d9:w.heap.size+1<=((C.drewN nq).drew).heap.size:=Ae c6 ((((Keep.refl (λ_=>True) C).drewN nq).drew).size);have c9:=AB (d3.mono d9);have b0:=AB ((I.AA.trans (Cs AY nq).drew).trans (b3.mono d9));clear d3 b3;go_wp2_with fail;have s:(ints (pad (i+1) (mul (T.drop (i+1)) L.w R))).length=T.length:=by rw[BK,BS,Ad a8.AA];simp;omega
    refine(JW Any _ _ _ (c9.AA.sl.mono (λ_ _=>trivial)) (by omega)).mono ?_;rintro e w7 ⟨g7,c7,rfl,F,r⟩;rw[s]at F ⊢;have u:=AB (b0.AA.trans (r.mono W.AA));have N:=AB (F.mono (B':=w.heap.size+1) W.AA);obtain⟨s7,f7⟩:=N.AA.cell (j:=i) (a:=0) (by rw[Dt,pad,DK (by simp)];simp);obtain⟨d,h⟩:=N.AA.Iz i (p+t-L.o);have g3:=N.AA.lt;have c3:=AB (u.AA.grown h (by have:=u.AA.size;simp at this;omega) (by intro k B;cases B;omega));have d1:=AB d;clear F r d h s;go_wp2_with fail;go_ret;have c8:pad i (mul (T.drop i) (a.drop i) (b.drop i))=(pad (i+1) (mul (T.drop (i+1)) L.w R)).set i (p+t-L.o):=by
     rw[drop_cons HT.AA.2.2,Dp (show i<a.length by omega),Dp (show i<b.length by omega),(Ak.1 Q.AA.1).2,(Ak.1 Q.AA.2).2,mul_cons,BQ d6,<-a4.AA,show pad (i+1) (mul (T.drop (i+1)) L.w R)=pad i (0::(mul (T.drop (i+1)) L.w R)) by rw[<-LU];rfl];simp[pad]
    rw[c8];rw[show((p:Int)+(t:Int)-(L.o:Int))=((p+t-L.o:Nat):Int) by omega];exact⟨_,rfl,by have:=d1.AA.mono (B':=w.heap.size) (by omega);exact this,Cy c3.AA⟩
   .have i2:¬(L.o:Int)<=(p:Int)+(t:Int):=by omega
    have f6:decide ((p:Int)+(t:Int)>=(L.o:Int))=false:=by simp;omega
    have a8:=a2;go_wp2_with fail;go_quiet (fail);go_wp2_with fail;have W:=AB (show w.heap.size+1<=(C.drewN nq).heap.size from Ae c6 (((Keep.refl (λ_=>True) C).drewN nq).size));have c9:=AB (d8.AA.drewN nq);have b0:=AB (I.AA.trans (Cs AY nq));have s:(ints (pad (i+1) (R))).length=T.length:=by rw[BK,BS,Ad a8.AA];simp;omega
    refine(JW Any _ _ _ (c9.AA.sl.mono (λ_ _=>trivial)) (by omega)).mono ?_;rintro e w7 ⟨g7,c7,rfl,F,r⟩;rw[s]at F ⊢;have u:=AB (b0.AA.trans (r.mono W.AA));have N:=AB (F.mono (B':=w.heap.size+1) W.AA);obtain⟨s7,f7⟩:=N.AA.cell (j:=i) (a:=0) (by rw[Dt,pad,DK (by simp)];simp);obtain⟨d,h⟩:=N.AA.Iz i (p+t);have g3:=N.AA.lt;have c3:=AB (u.AA.grown h (by have:=u.AA.size;simp at this;omega) (by intro k B;cases B;omega));have d1:=AB d;clear F r d h s;go_wp2_with fail;go_ret;have c8:pad i (mul (T.drop i) (a.drop i) (b.drop i))=(pad (i+1) (R)).set i (p+t):=by
     rw[drop_cons HT.AA.2.2,Dp (show i<a.length by omega),Dp (show i<b.length by omega),(Ak.1 Q.AA.1).2,(Ak.1 Q.AA.2).2,mul_cons,BF d6,<-a4.AA,show pad (i+1) (R)=pad i (0::(R)) by rw[<-LU];rfl];simp[pad]
    rw[c8];exact⟨_,rfl,by have:=d1.AA.mono (B':=w.heap.size) (by omega);exact this,Cy c3.AA⟩
end QB
namespace FX
open RowKit AJ FN BU QB
theorem at_end (T:Tw)(V:Small T):OC T T.length:=by
 intro w g l d Y i a b C ha K r p F J;have W:=V.1;have q:=Fb T.length W;obtain⟨L,U,O,R,Q,S,rfl,rfl,rfl,h,X,Z⟩:=C.open;have N:=AB (Own.made (B:=w.heap.size) (w.alloc (.cells #[.slice L T.length U,.slice O T.length R,.slice Q T.length S] 28)) T.length (by simp) (by unfold maxLen;omega));have j:decide ((T.length:Int)>=(T.length:Int))=true:=by simp
 clear C ha K F J;go_enter Tryz.func217,Tryz.ntmps217;go_wp2_with fail;go_ret;have I:pad T.length (mul (T.drop T.length) (a.drop T.length) (b.drop T.length))=List.replicate T.length 0:=by
  rw[JZ];simp[pad,mul]
 rw[I,<-JS];have D:=N.AA;simp only[World.size_alloc]at D;refine⟨_,rfl,D,?_⟩;exact(AY.alloc AV _).alloc (by simp) _
theorem Wj (T:Tw)(hT:Wf T)(C:Small T)(m:Nat):∀i,T.length-i=m->i<=T.length->OC T i/\∀L,T[i]?=some L->RH T i L:=by
 induction m with
 |zero=>
  intro i I K;obtain rfl:i=T.length:=by omega
  exact⟨at_end T C,λL B=>by simp at B⟩
 |succ m ih=>
  intro i I K;have J:i<T.length:=by omega
  have B:T[i]?=some T[i]:=AU J;have D:=(ih (i+1) (by omega) (by omega)).1;have F:=λL B=>jw T hT C i L B D;exact⟨vD T hT C i _ B D (F _ B),F⟩
theorem Jw (T:Tw)(hT:Wf T)(B:Small T)(i:Nat)(hi:i<=T.length):OC T i:=(Wj T hT B _ i rfl hi).1
theorem qg (T:Tw)(hT:Wf T)(C:Small T)(i:Nat)(L:Lv)(B:T[i]?=some L):RH T i L:=
 (Wj T hT C _ i rfl (Ci (Ak.1 B).1)).2 L B
theorem KV (T:Tw)(hT:Wf T)(W:Small T)(w:World)(J L I F K:Value)(a b:List Nat)(C:Av Any w J L I (AZ T))(ha:AP Any w F (ints a))(B:AP Any w K (ints b))(N:El T a)(D:El T b):
  Calls Tryz.prog 166 #[.agg #[J,L,I],F,K] w (Dz (ints (mul T a b)) w):=by
 have S:=AB C;have X:=AB ha;have V:=AB B;have R:=AB (Jw T hT W 0 (AX _));clear C ha B;go_enter Tryz.func166,Tryz.ntmps166;go_wp2_with fail;refine(R.AA _ _ _ _ _ _ a b (S.AA.keep (AL.alloc _)) (X.AA.keep (AL.alloc _)) (V.AA.keep (AL.alloc _)) (Ad N) (Ad D) N D).mono ?_;rintro e Y ⟨Z,rfl,O,B⟩;have U:=AB (O.mono (B':=w.heap.size) (by simp));have Q:=AB (((BB w.heap.size w).alloc AV _).trans (B.mono (by simp)));clear O B;go_wp2_with fail;go_ret;exact⟨_,rfl,U.AA,Q.AA⟩
def vE (a b:List Int)(w:World)(e:Ending)(w':World):Prop:=e= .returned (.bool (decide (a=b)))/\∃n,w'=w.drewN n
theorem JV (w:World)(X W:Value)(a b:List Int)(ha:AP Any w X a)(g:AP Any w W b):
  Calls Tryz.prog 212 #[X,W] w (vE a b w):=by
 obtain⟨aA,cA,rfl,_,C,_,N⟩:=ha;obtain⟨aB,cB,rfl,_,O,_,S⟩:=g;unfold maxLen at C O;have q:(a.length:Int)<=9223372036854775807:=by omega
 have a1:=AB C;have a4:=AB O;clear C O;by_cases L:a.length=b.length
 .have Z:((a.length:Int) !=(b.length:Int))=false:=by simp;omega
  have d:=AB N;have l:=AB S;have I:=AB L;clear N S L;go_enter Tryz.func212,Tryz.ntmps212;go_wp2_with fail;go_loopw [5] (λi wr=>∃k:Nat,k<=a.length/\i= .int .i64 (k:Int)/\Hid ((∀j,j<k->a[j]?=b[j]?)/\∃n,wr=w.drewN n)) (λi _=>a.length-(intOf i).toNat);case atStart=>exact⟨0,AX _,rfl,AB ⟨λj h=>absurd h (CS _),0,rfl⟩⟩
  case round=>
   obtain⟨k,hk,rfl,Q⟩:=hrel;obtain⟨m,Y⟩:=Q.AA.2;subst Y;by_cases F:k<a.length
   .obtain⟨x,R⟩:∃x,a[k]?=some x:=⟨_,AU F⟩;obtain⟨y,J⟩:∃y,b[k]?=some y:=⟨_,AU (by rw[<-I.AA];exact F)⟩;obtain⟨bA,oA,rfl,_,a3,u,r,rfl⟩:=d.AA k x R;obtain⟨bB,oB,rfl,_,a2,u,z,rfl⟩:=l.AA k y J;have a0:k<b.length:=by rw[<-I.AA];exact F
    have K:=AB R;have V:=AB J;have v:(k:Int)<(a.length:Int):=by omega
    have s:(0:Int)<=(k:Int):=by omega
    have w6:(k:Int)<(b.length:Int):=by omega
    clear R J;by_cases B:x=y
    .have p:(x !=y)=false:=by simp[B]
     have D:=AB B;clear B;go_wp2_with fail;go_quiet (fail);go_wp2_with fail;go_roundw;case rel=>exact⟨k+1,by omega,by go_num,AB ⟨λj U=>by
       rcases DF.1 U with h|h
       .exact Q.AA.1 j h
       .subst h;rw[K.AA,V.AA,D.AA],m+nq,by first|rfl|rw[Kg]⟩⟩
     case measure=>simp[intOf];omega
    .have p:(x !=y)=true:=by simpa using B
     have D:=AB B;clear B;go_wp2_with fail;go_quiet (fail);go_wp2_with fail;go_ret;refine⟨OT ?_,m+nq,by first|rfl|rw[Kg]⟩
     symm
     rw[decide_eq_false_iff_not];intro e;rw[e,V.AA]at K;exact D.AA (IL K.AA).symm
   .obtain rfl:k=a.length:=by omega
    go_wp2_with fail;go_ret;refine⟨OT ?_,m,rfl⟩
    symm
    rw[Lc];apply GN;intro j;by_cases U:j<a.length
    .exact Q.AA.1 j U
    .rw[Dq (by omega),Dq (by rw[<-I.AA];omega)]
 .have Z:((a.length:Int) !=(b.length:Int))=true:=by simp;omega
  clear N S;go_enter Tryz.func212,Tryz.ntmps212;go_wp2_with fail;go_ret;refine⟨OT ?_,0,rfl⟩
  symm
  rw[decide_eq_false_iff_not];intro e;exact L (by rw[e])
end FX
end Go.Proofs.YtgjadpmbnejaoaaGreat
