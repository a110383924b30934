import Derived.Test.YtgjadpmbnejaoaaGreatZe
/-
  Lemmas for the law FnAutomorphisms, in short spelling.
-/
set_option linter.unusedVariables false
set_option linter.unusedSimpArgs false
set_option maxRecDepth 100000
set_option maxHeartbeats 40000000
namespace Go.Proofs.YtgjadpmbnejaoaaGreat
namespace TB
open RowKit AJ Bv Bl Ch Cr Bj JN EH Ku Lx QX
def Vq (B w6:World)(g n:Nat)(x y:Value):Prop:=w6.heap[g]?=some CV/\B.heap.size<=g/\R1 B.heap.size w6 n x/\R2 B.heap.size w6 (List.replicate n n) y/\Below B.heap.size B w6
def fE (B w6:World)(n:Nat)(x y:Value):Prop:=R1 B.heap.size w6 n x/\R2 B.heap.size w6 (List.replicate n n) y/\Below B.heap.size B w6
abbrev Vr (B W:World)(n:Nat)(p:Value):Prop:=∃g I D F C,p= .pointer (some ⟨g,0,none⟩)/\Hid (TT B.heap.size n W g (.slice I n D) (.slice F n C) (.slice none 0 0) n 0)/\Hid (Below B.heap.size B W)
theorem Z8 {B n g:Nat}{W:World}{F I:Value}(h:W.heap[g]?=some (.cells #[F,I,.slice none 0 0] 28 (0,0)))(N:B<=g)(O:R1 B W n F)(L:R2 B W (List.replicate n n) I):TT B n W g F I (.slice none 0 0) n 0:=by
 obtain⟨us,J,K⟩:=L;rw[Bp]at J;exact⟨h,N,O,⟨us,J,λi u D=>by
  have hi:=(Ak.1 D).1;have:=J.1;obtain⟨Q,C,e2⟩:=K i n (JX (by omega));rw[D]at C;injection C with C;rw[C];exact e2⟩,[],FY _ _ _ _,λi u D=>by simp at D⟩
theorem sQ {L w6:World}{g n B D:Nat}{C F:Option Addr}(h:Vq L w6 g n (.slice C n B) (.slice F n D)):
  Vr L (((w6.setCell ⟨g,0,none⟩ (.slice C n B)).setCell ⟨g,1,none⟩ (.slice F n D)).setCell ⟨g,2,none⟩ (.slice none 0 0)) n (.pointer (some ⟨g,0,none⟩)):=by
 obtain⟨I,J,Q,O,N⟩:=h;have K:(w6.setCell ⟨g,0,none⟩ (.slice C n B)).heap[g]?=some (.cells #[.slice C n B,.slice none 0 0,.slice none 0 0] 28 (0,0)):=Gf w6 g 0 _ _ _ I;have e2:((w6.setCell ⟨g,0,none⟩ (.slice C n B)).setCell ⟨g,1,none⟩ (.slice F n D)).heap[g]?=some (.cells #[.slice C n B,.slice F n D,.slice none 0 0] 28 (0,0)):=Gf _ g 1 _ _ _ K;exact⟨g,C,B,F,D,rfl,AB (Z8 (Bi I) J (((Q.other I (by decide)).other K (by decide)).other e2 (by decide)) (((O.other I (by decide) (by decide)).other K (by decide) (by decide)).other e2 (by decide) (by decide))),AB (((N.setCell (p:=⟨g,0,none⟩) J _).setCell (p:=⟨g,1,none⟩) J _).setCell (p:=⟨g,2,none⟩) J _)⟩
theorem sS {K w6:World}{n D C:Nat}{I F:Option Addr}(h:fE K w6 n (.slice I n D) (.slice F n C)):
  Vr K (w6.alloc (.cells #[.slice I n D,.slice F n C,.slice none 0 0] 28)) n (.pointer (some ⟨w6.heap.size,0,none⟩)):=by
 obtain⟨N,L,J⟩:=h;have k:=Ty.keep (B:=K.heap.size) (S:=Any) ((Keep.refl _ w6).alloc (.cells #[.slice I n D,.slice F n C,.slice none 0 0] 28)) λ_ _=>trivial;exact⟨w6.heap.size,I,D,F,C,rfl,AB (Z8 (Aj _ _) J.size (k.one _ _ N) (k.two _ _ L)),AB (J.alloc J.size _)⟩
theorem UM (n:Nat)(hn:n<=100)(L r a3:Option Addr)(h s c3:Nat)(w:World)(hA:PT 0 w n (.slice L n h) (.slice r n s) (.slice a3 n c3)):
  Calls Tryz.prog 126 #[.agg #[.slice L n h,.slice r n s,.slice a3 n c3]] w (IU n w):=by
 obtain⟨j0,ji,d7,e4,e6⟩:=Bd Rc;have HA:=AB hA;clear hA;go_enter Tryz.func126,Tryz.ntmps126;go_upto_region 1 with fail;obtain⟨J,V⟩:∃J,J=((w.alloc (.cells #[.slice L n h,.slice r n s,.slice a3 n c3] 28)).alloc (.cells #[.slice none 0 0,.slice none 0 0,.slice none 0 0] 28)):=⟨_,rfl⟩;rw[<-V];have K1:=AB (show J.heap[w.heap.size]?=some (.cells #[.slice L n h,.slice r n s,.slice a3 n c3] 28 (0,0)) by rw[V,Dv _ _ _ (by simp)];exact Aj _ _);have K2:=AB (show J.heap[w.heap.size+1]?=some CV by rw[V];exact IZ w _ _);have HS:=AB (show J.heap.size=w.heap.size+2 by rw[V];simp);have HB:=AB (show Below w.heap.size w J by rw[V];exact(AY.alloc AV _).alloc (by simp) _);clear V;have b1:=AB (HA.AA.ty (Ty.below HB.AA));obtain⟨⟨e0,e1,e2⟩,-⟩:=Aa K1.AA;obtain⟨lA,b7,c9⟩:=b1.AA.1.sl;have b3:=AB (λ(W:World) (R:Keep Any J W)=>QF n hn L h lA b7 W ((c9.mono λ_ _=>trivial).keep R));have U:=AB (λ(W:World) (R:Keep Any J W)=>Rh n n hn hn r s W ((Ty.keep R λ_ _=>trivial).two _ _ b1.AA.2.1));have a4:w.heap.size<J.heap.size:=by have:=HS.AA;omega
 have c0:=AB b7;clear b7 c9;obtain⟨B,rfl⟩:∃B,B=J:=⟨_,rfl⟩;go_cut [3] (λtv W=>Vr B W n tv);case rest=>
  obtain⟨g,a,u,Z,X,rfl,D,c7⟩:=hcut;rename World=>wq;clear b3 U e0 e1 e2 c0 HA;have g7:=D.AA.hg;go_wp2_with fail;go_loopw [4] (λiv wr=>∃(i:Nat) (vC:Value),i<=n/\iv= .int .i64 (i:Int)/\Hid (TT B.heap.size n wr g (.slice a n u) (.slice Z n X) vC n i)/\Hid (Below B.heap.size B wr)) (λiv _=>n-(intOf iv).toNat);case atStart=>exact⟨0,_,AX _,rfl,D,c7⟩
  case round=>
   clear D c7;obtain⟨i,vC,hi,rfl,D,O⟩:=hrel;have L1:=AB (Dj O.AA a4 K1.AA);obtain⟨⟨e0,e1,e2⟩,-⟩:=Aa L1.AA;have b0:=AB D.AA.bx;have c8:=D.AA.lt;have a7:=O.AA.size;have g5:=Ah a4 a7;obtain⟨us,l,d2⟩:=D.AA.C;obtain⟨d,Y,rfl⟩:=II l;obtain⟨⟨p0,p1,p2⟩,q0,q1,q2⟩:=Aa b0.AA;by_cases d9:i<n
   .have g1:(i:Int)<(n:Int):=by omega
    have g4:(0:Int)<=(i:Int):=by omega
    obtain⟨gq,aq,cq,rfl,b9,b2,b4⟩:=VS b1.AA d9;have e3:=((AO (S:=Any) O.AA).cell trivial b2).trans b9;have f8:=Ah b2 a7;obtain⟨k,R⟩:∃k,n-(i+1)=k:=⟨_,rfl⟩;have HK:=AB R;have d3:k<=100:=by omega
    rw[R]at e3 b4;have U:=AB (λ(W:World) (hw:Keep Any wr W)=>Rh k n d3 hn aq cq W ((Ty.keep hw λ_ _=>trivial).two _ _ ((Ty.below O.AA).two _ _ b4)));have b6:=AB l;have c4:=AB d2;have d4:some g≠(Value.slice d i Y).ownBlock:=λe=>KX l b0.AA (by decide) e.symm;have f7:i<=100:=by omega
    have f3:=AB D.AA.hg;clear b4 b9 R l d2 b2;go_upto_region 5 with fail;go_region_law
     (first|(go_simp;go_at_call 100;refine(U.AA _ (by repeat(first|exact Ab|exact AL|refine Keep.drew ?_|refine Keep.alloc ?_ _|refine AR ?_ ‹_›))).mono ?_;rintro e w6 ⟨N,K,rfl,a8,I⟩;have F:Below wr.heap.size wr w6:=(by first|exact I|exact(AY.drew).trans I);have g6:=Dj F c8 b0.AA;obtain⟨⟨z0,z1,z2⟩,r0,r1,r2⟩:=Aa g6;have s6:=F.size;have g3:g<w6.heap.size:=Ah c8 s6)|(refine Ja _ (by rfl) _ _ _ (by rfl) B.heap.size 25 j0 (.slice none 0 0) 1 24 Tryz.underlying26 ji d7 e4 e6 rfl (by omega) (.slice d i Y) i us (by rfl) (Aw b6.AA (S:=Any) (((AO F)).trans ((Keep.refl _ w6).alloc _)) (λ_ _=>trivial)) ⟨w6.heap.size,0,none⟩ 1 1 [.slice N k K] (by rfl) (by rfl) (Cw (cs:= #[.slice N k K]) (t:=25) (fr:=(0,0)) (Aj w6 _)) (by simp[Value.oneCell']) (by omega) (by unfold maxLen;omega) (by omega) (by simp;omega) _ rfl ?_;intro gg cap g0 c5 a9 d5 e7;have b8:=(a9.block g (by simp;omega) d4).trans ((Dv w6 _ g (by omega)).trans g6);obtain⟨⟨m0,m1,m2⟩,n0,n1,n2⟩:=Aa b8))
    all_goals
     have d0:=AB (show Ty B.heap.size w6 (w6.alloc (.cells #[.slice N k K] 25)) from Ty.keep (S:=Any) ((Keep.refl _ w6).alloc _) λ_ _=>trivial);have a5:=AB (show Below wr.heap.size wr (w6.alloc (.cells #[.slice N k K] 25)) from F.alloc s6 _);have L:=Aw b6.AA (S:=Any) (((AO F)).trans ((Keep.refl _ w6).alloc (.cells #[.slice N k K] 25))) (λ_ _=>trivial);have b5:R2 wr.heap.size w6 (List.replicate k n) (.slice N k K):=a8.mono (by first|exact Al _|(simp;done));have e8:=AB (show∀q,(Value.slice Z n X).ownBlock=some q->(Value.slice N k K).ownBlock≠some q from λq h1 h2=>by
      obtain⟨xs,e5,_⟩:=b5;obtain⟨ys,f5,_⟩:=D.AA.P;have h3:=(Aq e5 q h2).1;have h4:=(Aq f5 q h1).2;omega)
     have HN:=AB (TT.JM D.AA a5.AA L c4.AA (by rw[HK.AA];exact d0.AA.two _ _ (b5.mono a7)) e8.AA c5 a9);have d6:=AB (((O.AA.trans (a5.AA.mono a7)).grown a9 (by have:=a5.AA.size;omega) (by intro b hb;exact(Aq L b hb).1)).setCell (p:=⟨g,2,none⟩) f3.AA (.slice (some ⟨gg,0,none⟩) (i+1) cap));clear c5 a9 d5 e7 L b8 a8 b5 I F d0 a5 D O b6 c4 U e0 e1 e2 p0 p1 p2 q0 q1 q2;go_wp2_with fail;go_roundw;case rel=>exact⟨i+1,_,by omega,by go_num,HN,d6⟩
     case measure=>simp[intOf];omega
   .obtain rfl:n=i:=by omega
    have f9:¬(n:Int)<(n:Int):=by omega
    have LG:=AB (Dj O.AA (by have:=HS.AA;omega) K2.AA);obtain⟨⟨f0,f1,f2⟩,r0,r1,r2⟩:=Aa LG.AA;have g2:w.heap.size+1<B.heap.size:=by have:=HS.AA;omega
    have e9:=AB (show IU n w (.returned (.agg #[.slice a n u,.slice Z n X,.slice d n Y])) (((wr.setCell ⟨w.heap.size+1,0,none⟩ (.slice a n u)).setCell ⟨w.heap.size+1,1,none⟩ (.slice Z n X)).setCell ⟨w.heap.size+1,2,none⟩ (.slice d n Y)) from by
     refine⟨_,_,_,rfl,?_,?_⟩
     .exact((D.AA.kept ((((Keep.refl _ wr).setCell (by simp;omega) _).setCell (by simp;omega) _).setCell (by simp;omega) _)).mono (by omega)).pt
     .exact(((HB.AA.trans (O.AA.mono (by omega))).setCell (p:=⟨w.heap.size+1,0,none⟩) (by simp) _).setCell (p:=⟨w.heap.size+1,1,none⟩) (by simp) _).setCell (p:=⟨w.heap.size+1,2,none⟩) (by simp) _)
    clear D O l d2;go_wp2_with fail;obtain⟨⟨z0,z1,z2⟩,-⟩:=Aa (Bi (x:=.slice a n u) (y:=.slice Z n X) (z:=.slice d n Y) LG.AA);exact Au (v:=.agg #[.slice a n u,.slice Z n X,.slice d n Y]) (by simp[results,Tryz.results126,go_sem,z0,z1,z2]) rfl e9.AA
 go_region_law
  (first|(go_simp;go_at_call 128;refine(b3.AA _ (by repeat(first|exact Ab|exact AL|refine Keep.drew ?_|refine Keep.alloc ?_ _|refine AR ?_ ‹_›))).mono ?_;rintro e Q ⟨gO,cO,rfl,f4,a0⟩;have k2:=(show Keep Any B Q from(by repeat(first|exact Ab|exact AL|refine Keep.drew ?_|refine Keep.alloc ?_ _|refine AR ?_ ‹_›)));have a:=(k2.cell (b:=w.heap.size) (o:=1) trivial a4).trans e1;have j:=k2.size;have f6:w.heap.size<Q.heap.size:=Ah a4 j;have B2:Below B.heap.size B Q:=(by first|exact a0|exact(AY.drew).trans a0|exact((AY.drew).alloc AV _).trans (a0.mono (by simp))|exact(AY.alloc AV _).trans (a0.mono (by simp)));have r2:R1 B.heap.size Q n (.slice (some ⟨gO,0,none⟩) n cO):=R1.mono ⟨lA,c0.AA,f4⟩ (by first|exact Al _|(simp;done)|(simp;omega));first|(have A2:Q.heap[B.heap.size]?=some CV:=Dj a0 (by simp) (Aj _ _);have d8:=(Bt.1 A2).1)|(have N2:True:=trivial))|(go_simp;go_at_call 100;refine(U.AA _ (by repeat(first|exact Ab|exact AL|refine Keep.drew ?_|refine Keep.alloc ?_ _|refine AR ?_ ‹_›))).mono ?_;rintro e w6 ⟨N,K,rfl,a8,I⟩;have F:Below B.heap.size B w6:=(by first|exact B2.trans (I.mono j)|exact(B2.alloc j _).trans (I.mono (by simp;omega)));have q6:R2 B.heap.size w6 (List.replicate n n) (.slice N n K):=R2.mono a8 (by first|exact j|(simp;omega));have p6:R1 B.heap.size w6 n (.slice (some ⟨gO,0,none⟩) n cO):=(Ty.keep (S:=Any) (show Keep Any Q w6 from(by first|exact AO I|exact((Keep.refl _ Q).alloc _).trans (AO I))) λ_ _=>trivial).one _ _ r2;first|(have A6:w6.heap[B.heap.size]?=some CV:=Dj I d8 A2;obtain⟨⟨z0,z1,z2⟩,q0,q1,q2⟩:=Aa A6;have F6:=(show Vq B w6 _ _ _ _ from⟨A6,Al _,p6,q6,F⟩))|(have D6:w6.heap[Q.heap.size]?=some CV:=Dj I (by simp) (Aj _ _);obtain⟨⟨z0,z1,z2⟩,q0,q1,q2⟩:=Aa D6;have F6:=(show Vq B w6 _ _ _ _ from⟨D6,j,p6,q6,F⟩))|(have N6:=(show fE B w6 _ _ _ from⟨p6,q6,F⟩))))
 all_goals
  clear b3 U;go_wp2_with fail;go_meet;first|exact sQ F6|exact sS N6
end TB
namespace fG
open RowKit Lib AJ Val Bv Bl Ch Cr Bj NL Ov
theorem Xu (b:UInt8)(g:Nat)(w':World)(h:w'.cell? ⟨g,0,none⟩=some (.int .u8 (b.toNat:Int))):
  (convert 22 9 (.slice (some ⟨g,0,none⟩) 1 1)).run Tryz.prog w'= .ok (.string ⟨#[b]⟩) w':=by
 refine run_convert_bytes_back (P:=Tryz.prog) w' 22 9 5 ⟨g,0,none⟩ 1 [b] Tryz.underlying22 Tryz.underlying5 Tryz.underlying9 ?_;intro j C;have B:j=0:=by simp at C;omega
 subst B;rw[show(Addr.add ⟨g,0,none⟩ 0)=⟨g,0,none⟩ by simp[Addr.add],h];simp
attribute [local go_sem ↓] Go.wp_at_zero Go.wp_at_succ
theorem Uh (x:Int)(h:x<10)(w:World):Calls Tryz.prog 272 #[.int .i64 x] w (Fg 1 w):=by
 obtain⟨b,C⟩:=R6 (wrap64 (48+x));have B:=Xu b;go_enter Tryz.func272,Tryz.ntmps272;go_wp2_with fail;go_ret;exact⟨_,rfl,Al _,AY.alloc AV _⟩
theorem Xv (x:Int)(h:¬x<10)(m:Nat)(R:m<=100)(w:World)(C:∀W,Calls Tryz.prog 272 #[.int .i64 (IntKind.i64.wrap (x.tdiv 10))] W (Fg m W)):
  Calls Tryz.prog 272 #[.int .i64 x] w (Fg (m+1) w):=by
 obtain⟨z,K⟩:∃z,IntKind.i64.wrap (48+x.tmod 10)=z:=⟨_,rfl⟩;obtain⟨b,D⟩:=R6 z;have J:IntKind.u8.wrap z=(b.toNat:Int):=by rw[IntKind.wrap_u8'];exact D
 have L:=Xu b;have F:=AB C;clear C D;go_enter Tryz.func272,Tryz.ntmps272;go_upto_region 3 with fail;go_region_with (first|(go_at_call 272;refine(F.AA _).mono ?_;rintro e N ⟨I,rfl,S,B⟩;obtain⟨U,O⟩:=Z4 B;have Q:(9223372036854775807<I.size+1)=False:=(eq_false (by omega))));all_goals
  go_wp2_with fail;go_ret;refine⟨_,rfl,(by rw[ByteArray.size_append];show _+1<=_;omega),?_⟩;first
   |exact(AY.drew.trans B).alloc B.size _
   |exact(AY.alloc AV _).drew.trans (B.mono (by simp))
theorem Z9 (x:Int)(w:World):Calls Tryz.prog 272 #[.int .i64 x] w (Fg 21 w):=by
 have I:∀(k:Nat) (x:Int),x<10^(k+1)->x<=9223372036854775807->k<20->∀w,Calls Tryz.prog 272 #[.int .i64 x] w (Fg (k+1) w):=by
  intro k
  induction k with
  |zero=>exact λx h _ _ w=>Uh x (by simpa using h) w
  |succ k ih=>
   intro x h J K w;by_cases D:x<10
   .exact(Uh x D w).mono λe w' ⟨t,B,C,F⟩=>⟨t,B,Ae C (by omega),F⟩
   .have e:IntKind.i64.wrap (x.tdiv 10)=x/10:=by rw[Int.tdiv_eq_ediv_of_nonneg (by omega)];exact Ac _ (by omega)
    refine Xv x D (k+1) (by omega) w λW=>?_;rw[e];rw[Int.pow_succ]at h;exact ih _ (by omega) (by omega) (by omega) W
 by_cases D:x<10
 .exact(Uh x D w).mono λe w' ⟨t,B,C,F⟩=>⟨t,B,Ae C (by omega),F⟩
 .have B:IntKind.i64.wrap (x.tdiv 10)<=9223372036854775807:=by rw[IntKind.wrap_i64];omega
  exact(Xv x D 19 (by omega) w λW=>I 18 _ (Int.lt_of_le_of_lt B (by decide)) B (by omega) W).mono λe w' ⟨t,B,C,F⟩=>⟨t,B,Ae C (by omega),F⟩
end fG
end Go.Proofs.YtgjadpmbnejaoaaGreat
