import Derived.Test.YtgjadpmbnejaoaaGreatZj
/-
  Lemmas for the law FnAutomorphisms, in short spelling.
-/
set_option linter.unusedVariables false
set_option linter.unusedSimpArgs false
set_option maxRecDepth 100000
set_option maxHeartbeats 40000000
namespace Go.Proofs.YtgjadpmbnejaoaaGreat
namespace Vt
open RowKit AJ Val Bv Bl Ch Cr Bj EH QX KM KN Ih KL NI Ot QV
theorem mO (N:Nat)(hN:N<=24)(a1 a2 a3:Option Addr)(c1 c2 c3:Nat)(g:Nat)(a:Option Addr)(len cap:Nat)(w:World)(h:Sr g a len cap w w)(hA:PT 0 w N (.slice a1 N c1) (.slice a2 N c2) (.slice a3 N c3)):
  Calls Tryz.prog 69 #[.pointer (some ⟨g,0,none⟩),.agg #[.slice a1 N c1,.slice a2 N c2,.slice a3 N c3]] w (Jo g a len cap w):=by
 obtain⟨w0,c9⟩:∃w0,w0=w.alloc (.cells #[.slice a1 N c1,.slice a2 N c2,.slice a3 N c3] 28):=⟨_,rfl⟩;obtain⟨w1,d9⟩:∃w1,w1=w0.alloc CV:=⟨_,rfl⟩;obtain⟨g0,f6⟩:∃g0,w.heap.size=g0:=⟨_,rfl⟩;have u:=AB (show Bx g a len cap w0 w1 (g0+1) by
  have:=Bx.new (Sr.here (h.alloc (.cells #[.slice a1 N c1,.slice a2 N c2,.slice a3 N c3] 28)));rw[World.size_alloc,<-c9,<-d9,f6]at this;exact this)
 have l1:=AB (show PT 0 w1 N (.slice a1 N c1) (.slice a2 N c2) (.slice a3 N c3) by rw[d9,c9];exact(hA.ty (QH _ _)).ty (QH _ _));have HP:=AB (show w1.heap[g0]?=some (.cells #[.slice a1 N c1,.slice a2 N c2,.slice a3 N c3] 28 (0,0)) by rw[d9,Dv _ _ _ (by rw[c9,<-f6];simp),c9,<-f6];exact Aj _ _);have l5:=AB (λe w' (hf:Jo g a len cap w0 e w')=>show Jo g a len cap w e w' by rw[c9]at hf;exact Jo.al h hf);have f9:=AB (show g<w1.heap.size from u.AA.s.lt);have Q:=AB (show N<=100 by omega);have j6:=AB hN;clear h hA;go_enter Tryz.func69,Tryz.ntmps69;go_upto_region 1 with fail;rw[<-c9,<-d9];clear d9 f6 c9;obtain⟨⟨p0,p1,p2⟩,-⟩:=Aa HP.AA;go_upto_region 2 with(go_at_call 126;refine(TB.UM N (by omega) a1 a2 a3 c1 c2 c3 w1 l1.AA).mono ?_;rintro e w2 ⟨vO,vP,vC,rfl,h4,g9⟩;obtain⟨x1,y1,x2,y2,x3,y3,rfl,rfl,rfl⟩:=h4.form);obtain⟨gq,g4⟩:∃gq,w2.heap.size=gq:=⟨_,rfl⟩;obtain⟨w3,f7⟩:∃w3,w3=w2.alloc (.cells #[.slice x1 N y1,.slice x2 N y2,.slice x3 N y3] 28):=⟨_,rfl⟩;rw[<-f7,g4];have h0:=AB (show Sr g a len cap w1 w3 by rw[f7];exact(u.AA.s.below g9).alloc _);have e9:=AB (show PX w1.heap.size N w3 gq (.slice x1 N y1) (.slice x2 N y2) (.slice x3 N y3) by rw[f7,<-g4];exact Iq h4 AV g9.size);have e6:=AB e9.AA.2.1;have o0:¬gq=g0+1:=by have h1:=u.AA.s1;have h2:=e9.AA.2.1;omega
 clear h4 g9 g4 f7 p0 p1 p2;go_upto_block 0 with(go_at_call 68;refine(GX _ g a len cap w1 _ h0.AA).mono ?_;rintro e D ⟨r,rfl,hr,i5⟩;have Y:=AB (h0.AA.tr i5);have J:=AB (GD e9.AA i5.2.2 f9.AA);clear i5);clear h0 e9;go_cut [5] (λv W=>v= .pointer (some ⟨gq,0,none⟩)/\Hid (IC w1.heap.size W gq)/\Hid (Sr g a len cap w1 W));case rest=>
  obtain⟨rfl,f4,f5⟩:=hcut;rename World=>w9;clear J Y hr;obtain⟨X1,n1,Y1,X2,n2,Y2,X3,n3,Y3,j4⟩:=f4.AA;have HP:=AB j4;clear f4 j4;obtain⟨⟨U,d1,R⟩,-⟩:=Aa HP.AA.1;have i3:=PX.lt' HP.AA;obtain⟨⟨e0,e1,e2⟩,f0,f1,f2⟩:=Aa (u.AA.k f5.AA).1;have m7:=(u.AA.k f5.AA).2;go_wp2_with fail;obtain⟨⟨z0,z1,z2⟩,-⟩:=Aa (Bi (x:=.slice X1 n1 Y1) (y:=.slice X2 n2 Y2) (z:=.slice X3 n3 Y3) (u.AA.k f5.AA).1);exact Au (v:=.agg #[.slice X1 n1 Y1,.slice X2 n2 Y2,.slice X3 n3 Y3]) (by simp[results,Tryz.results69,go_sem,z0,z1,z2]) rfl (l5.AA _ _ (Bx.SV u.AA f5.AA HP.AA.2.2))
 case first=>
  have m2:r=0\/r=1\/r=2\/r=3\/r=4\/r=5:=by omega
  obtain⟨⟨U,d1,R⟩,s0,s1,s2⟩:=Aa J.AA.1;have i3:=J.AA.lt;clear hr;rcases m2 with rfl|rfl|rfl|rfl|rfl|rfl
  .obtain⟨l,hl,ho⟩:=J.AA.2.2.1;have j0:=Aw ho (S:=Any) ((Keep.refl _ D).alloc (.cells #[.int .i64 2] 2)) λ_ _=>trivial;have l7:(Value.slice x1 N y1).ownBlock≠some gq:=KX ho J.AA.1 (by decide);clear ho;go_wp2_with (at_builtin;refine WS rfl _ _ rfl w1.heap.size N D.heap.size 1 (.slice x1 N y1) (vals l) 2 rfl j0 rfl (Yu _ _) (by omega) (Ae Y.AA.2.2.size (by simp)) ?_;intro v' w5 j8 j1 m3;obtain⟨b5,c5,rfl⟩:=II j8;have i4:=(j1.block gq (by simp;omega) (λe=>l7 e.symm)).trans (Dv D (.cells #[.int .i64 2] 2) gq i3);obtain⟨⟨u0,u1,u2⟩,v0,v1,v2⟩:=Aa (i4.trans J.AA.1);have n7:=(Bt.1 (i4.trans J.AA.1)).1);go_meet;refine⟨rfl,AB (tC Q.AA (by have:=Q.AA;have:=j6.AA;omega) J.AA i4 ((QH D _).trans (m3 _)) ⟨l++[2],by simp[hl],by simpa[vals]using j8⟩),AB (((Y.AA.alloc _).own u.AA.s j1 λq e=>(Aq j0 q e).1).set u.AA.s e6.AA _)⟩
  .by_cases a9:N=0
   .subst a9;have d4:¬(0:Int)<((0:Nat):Int):=by omega
    go_wp2_with fail;go_meet;exact⟨rfl,AB (IC.of Q.AA J.AA),Y⟩
   .have d4:(0:Int)<(N:Int):=by omega
    have c0:0<N:=by omega
    obtain⟨go,o2,o,rfl,k5,k0,h5,ol⟩:=OY J.AA.2.2.1 c0;have g5:=AB (And.intro k5 (And.intro k0 (Ah f9.AA h5)));have l6:=AB h5;clear k5 k0 a9 h5;go_upto_region 10 with fail;go_region_law
     (first|(go_simp;go_at_call 127;refine(vg [4,1,11,0,-2] 5 rfl (by decide) (by decide) g a len cap w1 D _ Y.AA (by first|exact .inl rfl|exact .inr (.inl rfl)|exact .inr (.inr rfl))).mono ?_;rintro e w8 ⟨x8,m1,rfl,d8,G8⟩;have e4:=AB (show Sr g a len cap w1 w8 from Sr.next Y.AA d8 G8);have i1:=AB (GD J.AA G8 f9.AA);have h3:=(kh G8 g5.AA.2.2 ol).trans g5.AA.1;obtain⟨k1,k2,n6⟩:=OZ h3 g5.AA.2.1;have l9:=AB h3;obtain⟨⟨F,b1,I⟩,-⟩:=Aa i1.AA.1;have o3:=i1.AA.lt;clear d8 G8 h3 m1)|(fail))
    all_goals
     go_wp2_with fail;go_meet;exact⟨rfl,AB (IC.of Q.AA (PX.set1 i1.AA l9.AA _)),AB (e4.AA.set u.AA.s l6.AA _)⟩
  .by_cases a9:N=0
   .subst a9;have d4:¬(0:Int)<((0:Nat):Int):=by omega
    go_wp2_with fail;go_meet;exact⟨rfl,AB (IC.of Q.AA J.AA),Y⟩
   .have d4:(0:Int)<(N:Int):=by omega
    have c0:0<N:=by omega
    obtain⟨gp,u0,g7,rfl,p1,pf,ph,pc,d5,f3,pl⟩:=J.AA.2.2.2.1.at (JX c0);obtain⟨ar,cr,rfl,-⟩:=d5.len;obtain⟨lr,j7,k7⟩:=d5.sl;have m6:=AB (λ(W:World) (hk:Keep Any D W)=>QF N (by omega) ar cr lr j7 W ((k7.mono λ_ _=>trivial).keep hk));have Z:=AB (And.intro ph (And.intro f3 pl));have i9:=AB hN;clear d5 j7 k7 ph pc f3 a9;go_upto_region 13 with fail;go_region_law
     (first|(go_simp;go_at_call 128;refine(m6.AA _ (by repeat(first|exact AL|refine Keep.drew ?_|refine Keep.alloc ?_ _))).mono ?_;rintro e w6 ⟨g6,c6,rfl,k9,a4⟩;have K6:Keep Any D w6:=(by first|exact AO a4|exact((Keep.refl _ D).drew).trans (AO a4)|exact((Keep.refl _ D).alloc _).trans (AO a4)|exact(((Keep.refl _ D).drew).alloc _).trans (AO a4)|exact(((Keep.refl _ D).alloc _).drew).trans (AO a4));have f8:=AB (Gp (B':=D.heap.size) k9 (by simp));have a7:=AB (show Below D.heap.size D w6 from(by first|exact a4|exact((BB _ D).drew).trans a4|exact(((BB _ D).alloc AV _).trans (a4.mono (by simp)))|exact((((BB _ D).drew).alloc AV _).trans (a4.mono (by simp)))|exact((((BB _ D).alloc AV _).drew).trans (a4.mono (by simp)))));(first|have i8:=Yt a4|have i8:=Yt ((AY.drew).trans a4)|skip);have m9:=((K6.cell trivial pl).trans p1);have n5:=Ah pl K6.size;have V:=J.AA.below a7.AA;obtain⟨⟨F,b1,I⟩,-⟩:=Aa V.1;have c4:=V.lt;clear V k9 a4)|(refine XI (by rfl) _ _ (by rfl) D.heap.size N w6.heap.size 1 (.slice (some ⟨g6,0,none⟩) N c6) (vals lr) 0 rfl (Aw f8.AA (S:=Any) ((Keep.refl _ w6).alloc _) λ_ _=>trivial) rfl (Yu _ _) (by have:=i9.AA;omega) (Ae a7.AA.size (by simp)) ?_;intro v' w7 d3 e8 g1;obtain⟨b7,c7,rfl⟩:=II d3;have b3:=AB ((a7.AA.alloc a7.AA.size (.cells #[.int .i64 0] 2)).grown e8 (by have:=a7.AA.size;simp;omega) λq e=>(Aq f8.AA q e).1);have k4:=AB (JN.R1.TA d3 (l:=lr++[0]) (by simp[vals]));have h7:=(b3.AA.block gp pl).trans Z.AA.1;have k1:=BP w7 gp 0 g7 _ h7;have k2:=Ah pl b3.AA.size;have k3:=((AO (S:=Any) b3.AA).cell trivial pl).trans p1;have b9:=J.AA.below b3.AA;obtain⟨⟨F,b1,I⟩,-⟩:=Aa b9.1;have l0:=b9.lt;have H7:=AB h7;clear b9 d3 e8 g1 h7)|(refine XI (by rfl) _ _ (by rfl) D.heap.size N D.heap.size 1 (.slice (some ⟨g6,0,none⟩) N c6) (vals lr) 0 rfl f8.AA rfl i8 (by have:=i9.AA;omega) a7.AA.size ?_;intro v' w7 d3 e8 g1;obtain⟨b7,c7,rfl⟩:=II d3;have b3:=AB (a7.AA.grown e8 a7.AA.size λq e=>(Aq f8.AA q e).1);have k4:=AB (JN.R1.TA d3 (l:=lr++[0]) (by simp[vals]));have h7:=(b3.AA.block gp pl).trans Z.AA.1;have k1:=BP w7 gp 0 g7 _ h7;have k2:=Ah pl b3.AA.size;have k3:=((AO (S:=Any) b3.AA).cell trivial pl).trans p1;have b9:=J.AA.below b3.AA;obtain⟨⟨F,b1,I⟩,-⟩:=Aa b9.1;have l0:=b9.lt;have H7:=AB h7;clear b9 d3 e8 g1 h7)|(fail))
    all_goals
     go_wp2_with fail;go_meet;exact⟨rfl,AB (su Q.AA (J.AA.below b3.AA) H7.AA ⟨_,by have:=j6.AA;omega,k4.AA.mono Y.AA.2.2.size⟩),AB ((Y.AA.below b3.AA).set u.AA.s Z.AA.2.1 _)⟩
  .by_cases a9:N=0
   .subst a9;have d4:¬(0:Int)<((0:Nat):Int):=by omega
    go_wp2_with fail;go_meet;exact⟨rfl,AB (IC.of Q.AA J.AA),Y⟩
   .have d4:(0:Int)<(N:Int):=by omega
    have c0:0<N:=by omega
    obtain⟨gp,u0,g7,rfl,p1,pf,ph,pc,d5,f3,pl⟩:=J.AA.2.2.2.1.at (JX c0);obtain⟨ar,cr,rfl,-⟩:=d5.len;obtain⟨gr,n0,xr,rfl,g8,i7,j9,rl⟩:=OY d5 c0;obtain⟨k1,k2,-⟩:=OZ g8 i7;have k6:=AB (And.intro g8 j9);clear d5 g8 i7 j9 ph pc f3 a9;go_wp2_with fail;go_meet;exact⟨rfl,AB (IC.of Q.AA (PX.set1 J.AA k6.AA.1 _)),AB (Y.AA.set u.AA.s k6.AA.2 _)⟩
  .by_cases a9:N=0
   .subst a9;have d4:¬(0:Int)<((0:Nat):Int):=by omega
    go_wp2_with fail;go_meet;exact⟨rfl,AB (IC.of Q.AA J.AA),Y⟩
   .have d4:(0:Int)<(N:Int):=by omega
    have c0:0<N:=by omega
    have g2:=J.AA.2.2.2.2;obtain⟨n4,h8,-⟩:=id g2;obtain⟨p,uc,ec,s1,e5,l8,sl⟩:=g2.at (MH c0);subst ec;have j3:((List.range N).map λi=>List.replicate (N-(i+1)) N).length=N:=by simp
    rw[j3]at h8;obtain⟨l4,d6,ec,i6,j5⟩:=tF h8 c0;obtain rfl:p=l4:=by simpa using ec
    obtain⟨ac,cc,rfl,-⟩:=e5.form;rw[Bp]at s1 e5;obtain⟨ln,k8⟩:∃ln,N-(0+1)=ln:=⟨_,rfl⟩;rw[k8]at s1 e5;have a8:=AB (show ln<=100 by omega);have d7:=AB (e5.mono (AX _));have Z:=AB (And.intro i6 j5);have n9:=λW=>Kt N (by omega) W;clear e5 l8 i6 j5 h8 g2 ec j3 k8 a9;have m4:¬p=gq:=λe=>by
     have h1:=Z.AA.1;rw[e]at h1;have:=h1.symm.trans J.AA.1;simp at this
    have m8:¬gq=p:=λe=>m4 e.symm;go_upto_region 19 with fail;refine wp_region_held_drew (S:=λw'=>w'.cell? ⟨gq,0,none⟩=some (.slice x1 N y1)/\w'.cell? ⟨gq,2,none⟩=some (.slice (some ⟨p,0,none⟩) N y3)) (by kernel_rfl) ⟨U,R⟩ (λhHeld=>?_);refine Gx (i:=0) (v:=?xS) (by simp only[CG,Bf,Bu];rfl) ?_ ?_ ?_ ?_ (Or.inl ⟨?_,?wm⟩) ?_ ?xU;case wm=>(intro w X;(try dsimp only at X);go_simp;try with_reducible rfl)
    iterate 3 (kernel_rfl)
    .exact λ_ _ _ h=>h
    .rfl
    .assumption
    try simp only[Act.put,CF,Bq,CB]
    refine Gx (i:=1) (v:=?xV) (by simp only[CG,Bf,Bu];rfl) ?_ ?_ ?_ ?_ (Or.inl ⟨?_,?wu⟩) ?_ ?xW;case wu=>(intro w X;(try dsimp only at X);go_simp;try with_reducible rfl)
    iterate 3 (kernel_rfl)
    .exact λ_ _ _ h=>h
    .rfl
    .assumption
    try simp only[Act.put,CF,Bq,CB]
    refine Gx (i:=2) (v:=?xX) (by simp only[CG,Bf,Bu];rfl) ?_ ?_ ?_ ?_ (Or.inl ⟨?_,?wz⟩) ?_ ?xY;case wz=>(intro w X;(try dsimp only at X);go_simp;try with_reducible rfl)
    iterate 3 (kernel_rfl)
    .exact λ_ _ _ h=>h
    .rfl
    .assumption
    try simp only[Act.put,CF,Bq,CB]
    refine Gx (i:=3) (v:=?xZ) (by simp only[CG,Bf,Bu];rfl) ?_ ?_ ?_ ?_ (Or.inl ⟨?_,?xA⟩) ?_ ?xg;case xA=>(intro w X;(try dsimp only at X);go_simp;try with_reducible rfl)
    iterate 3 (kernel_rfl)
    .exact λ_ _ _ h=>h
    .rfl
    .assumption
    try simp only[Act.put,CF,Bq,CB]
    refine Gx (i:=4) (v:=?xh) (by simp only[CG,Bf,Bu];rfl) ?_ ?_ ?_ ?_ (Or.inl ⟨?_,?xB⟩) ?_ ?xk;case xB=>(intro w X;(try dsimp only at X);go_simp;try with_reducible rfl)
    iterate 3 (kernel_rfl)
    .exact λ_ _ _ h=>h
    .rfl
    .assumption
    try simp only[Act.put,CF,Bq,CB]
    refine Gx (i:=7) (v:=?xq) (by simp only[CG,Bf,Bu];rfl) ?_ ?_ ?_ ?_ (Or.inl ⟨?_,?xC⟩) ?_ ?xu;case xC=>(intro w X;(try dsimp only at X);go_simp;try with_reducible rfl)
    iterate 3 (kernel_rfl)
    .exact λ_ _ _ h=>h
    .rfl
    .assumption
    try simp only[Act.put,CF,Bq,CB]
    refine Gx (i:=8) (v:=?xw) (by simp only[CG,Bf,Bu];rfl) ?_ ?_ ?_ ?_ (Or.inl ⟨?_,?xD⟩) ?_ ?xx;case xD=>(intro w X;(try dsimp only at X);go_simp;try with_reducible rfl)
    iterate 3 (kernel_rfl)
    .exact λ_ _ _ h=>h
    .rfl
    .assumption
    try simp only[Act.put,CF,Bq,CB]
    refine Gx (i:=9) (v:=?yA) (by simp only[CG,Bf,Bu];rfl) ?_ ?_ ?_ ?_ (Or.inl ⟨?_,?xE⟩) ?_ ?yB;case xE=>(intro w X;(try dsimp only at X);go_simp;try with_reducible rfl)
    iterate 3 (kernel_rfl)
    .exact λ_ _ _ h=>h
    .rfl
    .assumption
    try simp only[Act.put,CF,Bq,CB]
    refine Dx (rs:=[5,10]) (by kernel_rfl) (by simp) ?_;refine DN (by simp only[CG,Bf,Bu];rfl) (λK B=>?_) ?_
    .go_simp;refine B.out _ _ ?_ (λC=>?_)
     .first|exact⟨U,R⟩|exact⟨F,I⟩|go_keep
     clear B K hHeld;have hHeld:=C;clear C;try simp only[Act.put,CF,Bq,CB]
     refine Dx (rs:=[6,10]) (by kernel_rfl) (by simp) ?_;refine DN (by simp only[CG,Bf,Bu];rfl) (λK B=>?_) ?_
     ·(go_simp;go_at_call 100;refine(OG D _ ln N ac cc a8.AA Q.AA (by repeat(first|with_reducible exact BB _ _|with_reducible refine Below.drew ?_|with_reducible refine Below.alloc ?_ (by simp<;>omega) _)) d7.AA).mono ?_;rintro e w6 ⟨a6,c6,rfl,O,d⟩;have a5:=AB O;(first|have b8:=AB (Oi (w:=D) Q.AA d (by simp<;>omega) (by first|rfl|exact Dv _ _ _ (by simp)))|skip);(first|have c8:=(d.block (D.heap.size+1) trivial (by simp)).trans (show _=some (.cells #[Es N D.heap.size] 24 (0,0)) from IZ D _ _)|skip);have s6:=((AO (S:=Any) O.1).cell (o:=0) trivial sl).trans s1;have e7:=Ah sl O.1.size;have V:=J.AA.below O.1;obtain⟨⟨F,b1,I⟩,-⟩:=Aa V.1;have c4:=V.lt;clear V d O)
      refine B.out _ _ ?_ (λC=>?_)
      .first|exact⟨U,R⟩|exact⟨F,I⟩|go_keep
      clear B K hHeld;have hHeld:=C;clear C;try simp only[Act.put,CF,Bq,CB]
      refine Dx (rs:=[10]) (by kernel_rfl) (by simp) ?_;refine DN (by simp only[CG,Bf,Bu];rfl) (λK B=>?_) ?_
      .go_simp;refine B.out _ _ ?_ (λC=>?_)
       .first|exact⟨U,R⟩|exact⟨F,I⟩|go_keep
       clear B K hHeld;have hHeld:=C;clear C;try simp only[Act.put,CF,Bq,CB]
       refine Dx (rs:=[11]) (by kernel_rfl) (by simp) ?_;refine DN (by simp only[CG,Bf,Bu];rfl) (λK B=>?_) ?_
       .go_simp;refine B.out _ _ ?_ (λC=>?_)
        .first|exact⟨U,R⟩|exact⟨F,I⟩|go_keep
        clear B K hHeld;have hHeld:=C;clear C;try simp only[Act.put,CF,Bq,CB]
        refine Dx (rs:=[12]) (by kernel_rfl) (by simp) ?_;refine DN (by simp only[CG,Bf,Bu];rfl) (λK B=>?_) ?_
        ·(refine NW (w:=D) (by rfl) _ _ (by rfl) ln N (w6.heap.size+1) w6.heap.size a6 c6 a8.AA (by rfl) ((a5.AA.alloc _).alloc _) (by rfl) (IZ w6 _ _) (VV (vI _ w6 N a5.AA.1.size Q.AA) (AL.alloc _)) ?_;intro gg c7 b4 L a0;have b:=AB L;have b6:=AB a0;have t1:=BP b4 p 0 d6 _ ((L.block p sl).trans Z.AA.1);have t2:=Ah sl L.size;have t3:=((AO (S:=Any) L).cell (o:=0) trivial sl).trans s1;have j:=J.AA.below L;obtain⟨⟨F,b1,I⟩,-⟩:=Aa j.1;have e3:=j.lt;clear j L a0)
         refine B.out _ _ ?_ (λC=>?_)
         .first|exact⟨U,R⟩|exact⟨F,I⟩|go_keep
         clear B K hHeld;have hHeld:=C;clear C;try simp only[Act.put,CF,Bq,CB]
         refine Gx (i:=13) (v:=?yC) (by simp only[CG,Bf,Bu];rfl) ?_ ?_ ?_ ?_ (Or.inl ⟨?_,?xG⟩) ?_ ?yD;case xG=>(intro w X;(try dsimp only at X);go_simp;try with_reducible rfl)
         iterate 3 (kernel_rfl)
         .exact λ_ _ _ h=>h
         .rfl
         .assumption
         try simp only[Act.put,CF,Bq,CB]
         refine Dx (rs:=[14]) (by kernel_rfl) (by simp) ?_;refine DN (by simp only[CG,Bf,Bu];rfl) (λK B=>?_) ?_
         .go_simp;refine B.out _ _ ?_ (λC=>?_)
          .first|exact⟨U,R⟩|exact⟨F,I⟩|go_keep
          clear B K hHeld;have hHeld:=C;clear C;try simp only[Act.put,CF,Bq,CB]
          refine wpAnyH_done (by kernel_rfl) ?_ _
          (go_wp2_with fail;go_meet;exact⟨rfl,AB (Ns Q.AA (J.AA.below b.AA) ((b.AA.block p sl).trans Z.AA.1) (A2.of (b6.AA.mono Y.AA.2.2.size) λm hm=>by rw[(GL.1 hm).2];exact Q.AA)),AB ((Y.AA.below b.AA).set u.AA.s Z.AA.2 _)⟩)
         exact Dw
        exact Dw
       exact Dw
      exact Dw
     refine DN (by simp only[CG,Bf,Bu];rfl) (λK B=>?_) ?_
     .go_simp;refine B.out _ _ ?_ (λC=>?_)
      .first|exact⟨U,R⟩|exact⟨F,I⟩|go_keep
      clear B K hHeld;have hHeld:=C;clear C;try simp only[Act.put,CF,Bq,CB]
      refine Dx (rs:=[6,11]) (by kernel_rfl) (by simp) ?_;refine DN (by simp only[CG,Bf,Bu];rfl) (λK B=>?_) ?_
      ·(go_simp;go_at_call 100;refine(OG D _ ln N ac cc a8.AA Q.AA (by repeat(first|with_reducible exact BB _ _|with_reducible refine Below.drew ?_|with_reducible refine Below.alloc ?_ (by simp<;>omega) _)) d7.AA).mono ?_;rintro e w6 ⟨a6,c6,rfl,O,d⟩;have a5:=AB O;(first|have b8:=AB (Oi (w:=D) Q.AA d (by simp<;>omega) (by first|rfl|exact Dv _ _ _ (by simp)))|skip);(first|have c8:=(d.block (D.heap.size+1) trivial (by simp)).trans (show _=some (.cells #[Es N D.heap.size] 24 (0,0)) from IZ D _ _)|skip);have s6:=((AO (S:=Any) O.1).cell (o:=0) trivial sl).trans s1;have e7:=Ah sl O.1.size;have V:=J.AA.below O.1;obtain⟨⟨F,b1,I⟩,-⟩:=Aa V.1;have c4:=V.lt;clear V d O)
       refine B.out _ _ ?_ (λC=>?_)
       .first|exact⟨U,R⟩|exact⟨F,I⟩|go_keep
       clear B K hHeld;have hHeld:=C;clear C;try simp only[Act.put,CF,Bq,CB]
       refine Dx (rs:=[11]) (by kernel_rfl) (by simp) ?_;refine DN (by simp only[CG,Bf,Bu];rfl) (λK B=>?_) ?_
       .go_simp;refine B.out _ _ ?_ (λC=>?_)
        .first|exact⟨U,R⟩|exact⟨F,I⟩|go_keep
        clear B K hHeld;have hHeld:=C;clear C;try simp only[Act.put,CF,Bq,CB]
        refine Dx (rs:=[12]) (by kernel_rfl) (by simp) ?_;refine DN (by simp only[CG,Bf,Bu];rfl) (λK B=>?_) ?_
        ·(refine NW (w:=D) (by rfl) _ _ (by rfl) ln N w6.heap.size D.heap.size a6 c6 a8.AA (by rfl) (a5.AA.alloc _) (by rfl) (Aj w6 _) (VV b8.AA (AL.alloc _)) ?_;intro gg c7 b4 L a0;have b:=AB L;have b6:=AB a0;have t1:=BP b4 p 0 d6 _ ((L.block p sl).trans Z.AA.1);have t2:=Ah sl L.size;have t3:=((AO (S:=Any) L).cell (o:=0) trivial sl).trans s1;have j:=J.AA.below L;obtain⟨⟨F,b1,I⟩,-⟩:=Aa j.1;have e3:=j.lt;clear j L a0)
         refine B.out _ _ ?_ (λC=>?_)
         .first|exact⟨U,R⟩|exact⟨F,I⟩|go_keep
         clear B K hHeld;have hHeld:=C;clear C;try simp only[Act.put,CF,Bq,CB]
         refine Gx (i:=13) (v:=?xI) (by simp only[CG,Bf,Bu];rfl) ?_ ?_ ?_ ?_ (Or.inl ⟨?_,?vk⟩) ?_ ?xJ;case vk=>(intro w X;(try dsimp only at X);go_simp;try with_reducible rfl)
         iterate 3 (kernel_rfl)
         .exact λ_ _ _ h=>h
         .rfl
         .assumption
         try simp only[Act.put,CF,Bq,CB]
         refine Dx (rs:=[14]) (by kernel_rfl) (by simp) ?_;refine DN (by simp only[CG,Bf,Bu];rfl) (λK B=>?_) ?_
         .go_simp;refine B.out _ _ ?_ (λC=>?_)
          .first|exact⟨U,R⟩|exact⟨F,I⟩|go_keep
          clear B K hHeld;have hHeld:=C;clear C;try simp only[Act.put,CF,Bq,CB]
          refine wpAnyH_done (by kernel_rfl) ?_ _
          (go_wp2_with fail;go_meet;exact⟨rfl,AB (Ns Q.AA (J.AA.below b.AA) ((b.AA.block p sl).trans Z.AA.1) (A2.of (b6.AA.mono Y.AA.2.2.size) λm hm=>by rw[(GL.1 hm).2];exact Q.AA)),AB ((Y.AA.below b.AA).set u.AA.s Z.AA.2 _)⟩)
         exact Dw
        exact Dw
       exact Dw
      refine DN (by simp only[CG,Bf,Bu];rfl) (λK B=>?_) ?_
      .go_simp;refine B.out _ _ ?_ (λC=>?_)
       .first|exact⟨U,R⟩|exact⟨F,I⟩|go_keep
       clear B K hHeld;have hHeld:=C;clear C;try simp only[Act.put,CF,Bq,CB]
       refine Dx (rs:=[6]) (by kernel_rfl) (by simp) ?_;refine DN (by simp only[CG,Bf,Bu];rfl) (λK B=>?_) ?_
       ·(go_simp;go_at_call 100;refine(OG D _ ln N ac cc a8.AA Q.AA (by repeat(first|with_reducible exact BB _ _|with_reducible refine Below.drew ?_|with_reducible refine Below.alloc ?_ (by simp<;>omega) _)) d7.AA).mono ?_;rintro e w6 ⟨a6,c6,rfl,O,d⟩;have a5:=AB O;(first|have b8:=AB (Oi (w:=D) Q.AA d (by simp<;>omega) (by first|rfl|exact Dv _ _ _ (by simp)))|skip);(first|have c8:=(d.block (D.heap.size+1) trivial (by simp)).trans (show _=some (.cells #[Es N D.heap.size] 24 (0,0)) from IZ D _ _)|skip);have s6:=((AO (S:=Any) O.1).cell (o:=0) trivial sl).trans s1;have e7:=Ah sl O.1.size;have V:=J.AA.below O.1;obtain⟨⟨F,b1,I⟩,-⟩:=Aa V.1;have c4:=V.lt;clear V d O)
        refine B.out _ _ ?_ (λC=>?_)
        .first|exact⟨U,R⟩|exact⟨F,I⟩|go_keep
        clear B K hHeld;have hHeld:=C;clear C;try simp only[Act.put,CF,Bq,CB]
        refine Dx (rs:=[12]) (by kernel_rfl) (by simp) ?_;refine DN (by simp only[CG,Bf,Bu];rfl) (λK B=>?_) ?_
        ·(refine NW (w:=D) (by rfl) _ _ (by rfl) ln N (D.heap.size+1) D.heap.size a6 c6 a8.AA (by rfl) a5.AA (by rfl) c8 b8.AA ?_;intro gg c7 b4 L a0;have b:=AB L;have b6:=AB a0;have t1:=BP b4 p 0 d6 _ ((L.block p sl).trans Z.AA.1);have t2:=Ah sl L.size;have t3:=((AO (S:=Any) L).cell (o:=0) trivial sl).trans s1;have j:=J.AA.below L;obtain⟨⟨F,b1,I⟩,-⟩:=Aa j.1;have e3:=j.lt;clear j L a0)
         refine B.out _ _ ?_ (λC=>?_)
         .first|exact⟨U,R⟩|exact⟨F,I⟩|go_keep
         clear B K hHeld;have hHeld:=C;clear C;try simp only[Act.put,CF,Bq,CB]
         refine Gx (i:=13) (v:=?xK) (by simp only[CG,Bf,Bu];rfl) ?_ ?_ ?_ ?_ (Or.inl ⟨?_,?vo⟩) ?_ ?xL;case vo=>(intro w X;(try dsimp only at X);go_simp;try with_reducible rfl)
         iterate 3 (kernel_rfl)
         .exact λ_ _ _ h=>h
         .rfl
         .assumption
         try simp only[Act.put,CF,Bq,CB]
         refine Dx (rs:=[14]) (by kernel_rfl) (by simp) ?_;refine DN (by simp only[CG,Bf,Bu];rfl) (λK B=>?_) ?_
         .go_simp;refine B.out _ _ ?_ (λC=>?_)
          .first|exact⟨U,R⟩|exact⟨F,I⟩|go_keep
          clear B K hHeld;have hHeld:=C;clear C;try simp only[Act.put,CF,Bq,CB]
          refine wpAnyH_done (by kernel_rfl) ?_ _
          (go_wp2_with fail;go_meet;exact⟨rfl,AB (Ns Q.AA (J.AA.below b.AA) ((b.AA.block p sl).trans Z.AA.1) (A2.of (b6.AA.mono Y.AA.2.2.size) λm hm=>by rw[(GL.1 hm).2];exact Q.AA)),AB ((Y.AA.below b.AA).set u.AA.s Z.AA.2 _)⟩)
         exact Dw
        exact Dw
       exact Dw
      exact Dw
     exact Dw
    refine DN (by simp only[CG,Bf,Bu];rfl) (λK B=>?_) ?_
    .go_simp;refine B.out _ _ ?_ (λC=>?_)
     .first|exact⟨U,R⟩|exact⟨F,I⟩|go_keep
     clear B K hHeld;have hHeld:=C;clear C;try simp only[Act.put,CF,Bq,CB]
     refine Dx (rs:=[5,11]) (by kernel_rfl) (by simp) ?_;refine DN (by simp only[CG,Bf,Bu];rfl) (λK B=>?_) ?_
     .go_simp;refine B.out _ _ ?_ (λC=>?_)
      .first|exact⟨U,R⟩|exact⟨F,I⟩|go_keep
      clear B K hHeld;have hHeld:=C;clear C;try simp only[Act.put,CF,Bq,CB]
      refine Dx (rs:=[6,11]) (by kernel_rfl) (by simp) ?_;refine DN (by simp only[CG,Bf,Bu];rfl) (λK B=>?_) ?_
      ·(go_simp;go_at_call 100;refine(OG D _ ln N ac cc a8.AA Q.AA (by repeat(first|with_reducible exact BB _ _|with_reducible refine Below.drew ?_|with_reducible refine Below.alloc ?_ (by simp<;>omega) _)) d7.AA).mono ?_;rintro e w6 ⟨a6,c6,rfl,O,d⟩;have a5:=AB O;(first|have b8:=AB (Oi (w:=D) Q.AA d (by simp<;>omega) (by first|rfl|exact Dv _ _ _ (by simp)))|skip);(first|have c8:=(d.block (D.heap.size+1) trivial (by simp)).trans (show _=some (.cells #[Es N D.heap.size] 24 (0,0)) from IZ D _ _)|skip);have s6:=((AO (S:=Any) O.1).cell (o:=0) trivial sl).trans s1;have e7:=Ah sl O.1.size;have V:=J.AA.below O.1;obtain⟨⟨F,b1,I⟩,-⟩:=Aa V.1;have c4:=V.lt;clear V d O)
       refine B.out _ _ ?_ (λC=>?_)
       .first|exact⟨U,R⟩|exact⟨F,I⟩|go_keep
       clear B K hHeld;have hHeld:=C;clear C;try simp only[Act.put,CF,Bq,CB]
       refine Dx (rs:=[11]) (by kernel_rfl) (by simp) ?_;refine DN (by simp only[CG,Bf,Bu];rfl) (λK B=>?_) ?_
       .go_simp;refine B.out _ _ ?_ (λC=>?_)
        .first|exact⟨U,R⟩|exact⟨F,I⟩|go_keep
        clear B K hHeld;have hHeld:=C;clear C;try simp only[Act.put,CF,Bq,CB]
        refine Dx (rs:=[12]) (by kernel_rfl) (by simp) ?_;refine DN (by simp only[CG,Bf,Bu];rfl) (λK B=>?_) ?_
        ·(refine NW (w:=D) (by rfl) _ _ (by rfl) ln N w6.heap.size D.heap.size a6 c6 a8.AA (by rfl) (a5.AA.alloc _) (by rfl) (Aj w6 _) (VV b8.AA (AL.alloc _)) ?_;intro gg c7 b4 L a0;have b:=AB L;have b6:=AB a0;have t1:=BP b4 p 0 d6 _ ((L.block p sl).trans Z.AA.1);have t2:=Ah sl L.size;have t3:=((AO (S:=Any) L).cell (o:=0) trivial sl).trans s1;have j:=J.AA.below L;obtain⟨⟨F,b1,I⟩,-⟩:=Aa j.1;have e3:=j.lt;clear j L a0)
         refine B.out _ _ ?_ (λC=>?_)
         .first|exact⟨U,R⟩|exact⟨F,I⟩|go_keep
         clear B K hHeld;have hHeld:=C;clear C;try simp only[Act.put,CF,Bq,CB]
         refine Gx (i:=13) (v:=?xM) (by simp only[CG,Bf,Bu];rfl) ?_ ?_ ?_ ?_ (Or.inl ⟨?_,?wC⟩) ?_ ?xN;case wC=>(intro w X;(try dsimp only at X);go_simp;try with_reducible rfl)
         iterate 3 (kernel_rfl)
         .exact λ_ _ _ h=>h
         .rfl
         .assumption
         try simp only[Act.put,CF,Bq,CB]
         refine Dx (rs:=[14]) (by kernel_rfl) (by simp) ?_;refine DN (by simp only[CG,Bf,Bu];rfl) (λK B=>?_) ?_
         .go_simp;refine B.out _ _ ?_ (λC=>?_)
          .first|exact⟨U,R⟩|exact⟨F,I⟩|go_keep
          clear B K hHeld;have hHeld:=C;clear C;try simp only[Act.put,CF,Bq,CB]
          refine wpAnyH_done (by kernel_rfl) ?_ _
          (go_wp2_with fail;go_meet;exact⟨rfl,AB (Ns Q.AA (J.AA.below b.AA) ((b.AA.block p sl).trans Z.AA.1) (A2.of (b6.AA.mono Y.AA.2.2.size) λm hm=>by rw[(GL.1 hm).2];exact Q.AA)),AB ((Y.AA.below b.AA).set u.AA.s Z.AA.2 _)⟩)
         exact Dw
        exact Dw
       exact Dw
      refine DN (by simp only[CG,Bf,Bu];rfl) (λK B=>?_) ?_
      .go_simp;refine B.out _ _ ?_ (λC=>?_)
       .first|exact⟨U,R⟩|exact⟨F,I⟩|go_keep
       clear B K hHeld;have hHeld:=C;clear C;try simp only[Act.put,CF,Bq,CB]
       refine Dx (rs:=[6]) (by kernel_rfl) (by simp) ?_;refine DN (by simp only[CG,Bf,Bu];rfl) (λK B=>?_) ?_
       ·(go_simp;go_at_call 100;refine(OG D _ ln N ac cc a8.AA Q.AA (by repeat(first|with_reducible exact BB _ _|with_reducible refine Below.drew ?_|with_reducible refine Below.alloc ?_ (by simp<;>omega) _)) d7.AA).mono ?_;rintro e w6 ⟨a6,c6,rfl,O,d⟩;have a5:=AB O;(first|have b8:=AB (Oi (w:=D) Q.AA d (by simp<;>omega) (by first|rfl|exact Dv _ _ _ (by simp)))|skip);(first|have c8:=(d.block (D.heap.size+1) trivial (by simp)).trans (show _=some (.cells #[Es N D.heap.size] 24 (0,0)) from IZ D _ _)|skip);have s6:=((AO (S:=Any) O.1).cell (o:=0) trivial sl).trans s1;have e7:=Ah sl O.1.size;have V:=J.AA.below O.1;obtain⟨⟨F,b1,I⟩,-⟩:=Aa V.1;have c4:=V.lt;clear V d O)
        refine B.out _ _ ?_ (λC=>?_)
        .first|exact⟨U,R⟩|exact⟨F,I⟩|go_keep
        clear B K hHeld;have hHeld:=C;clear C;try simp only[Act.put,CF,Bq,CB]
        refine Dx (rs:=[12]) (by kernel_rfl) (by simp) ?_;refine DN (by simp only[CG,Bf,Bu];rfl) (λK B=>?_) ?_
        ·(refine NW (w:=D) (by rfl) _ _ (by rfl) ln N (D.heap.size+1) D.heap.size a6 c6 a8.AA (by rfl) a5.AA (by rfl) c8 b8.AA ?_;intro gg c7 b4 L a0;have b:=AB L;have b6:=AB a0;have t1:=BP b4 p 0 d6 _ ((L.block p sl).trans Z.AA.1);have t2:=Ah sl L.size;have t3:=((AO (S:=Any) L).cell (o:=0) trivial sl).trans s1;have j:=J.AA.below L;obtain⟨⟨F,b1,I⟩,-⟩:=Aa j.1;have e3:=j.lt;clear j L a0)
         refine B.out _ _ ?_ (λC=>?_)
         .first|exact⟨U,R⟩|exact⟨F,I⟩|go_keep
         clear B K hHeld;have hHeld:=C;clear C;try simp only[Act.put,CF,Bq,CB]
         refine Gx (i:=13) (v:=?xO) (by simp only[CG,Bf,Bu];rfl) ?_ ?_ ?_ ?_ (Or.inl ⟨?_,?wG⟩) ?_ ?xP;case wG=>(intro w X;(try dsimp only at X);go_simp;try with_reducible rfl)
         iterate 3 (kernel_rfl)
         .exact λ_ _ _ h=>h
         .rfl
         .assumption
         try simp only[Act.put,CF,Bq,CB]
         refine Dx (rs:=[14]) (by kernel_rfl) (by simp) ?_;refine DN (by simp only[CG,Bf,Bu];rfl) (λK B=>?_) ?_
         .go_simp;refine B.out _ _ ?_ (λC=>?_)
          .first|exact⟨U,R⟩|exact⟨F,I⟩|go_keep
          clear B K hHeld;have hHeld:=C;clear C;try simp only[Act.put,CF,Bq,CB]
          refine wpAnyH_done (by kernel_rfl) ?_ _
          (go_wp2_with fail;go_meet;exact⟨rfl,AB (Ns Q.AA (J.AA.below b.AA) ((b.AA.block p sl).trans Z.AA.1) (A2.of (b6.AA.mono Y.AA.2.2.size) λm hm=>by rw[(GL.1 hm).2];exact Q.AA)),AB ((Y.AA.below b.AA).set u.AA.s Z.AA.2 _)⟩)
         exact Dw
        exact Dw
       exact Dw
      exact Dw
     refine DN (by simp only[CG,Bf,Bu];rfl) (λK B=>?_) ?_
     .go_simp;refine B.out _ _ ?_ (λC=>?_)
      .first|exact⟨U,R⟩|exact⟨F,I⟩|go_keep
      clear B K hHeld;have hHeld:=C;clear C;try simp only[Act.put,CF,Bq,CB]
      refine Dx (rs:=[5]) (by kernel_rfl) (by simp) ?_;refine DN (by simp only[CG,Bf,Bu];rfl) (λK B=>?_) ?_
      .go_simp;refine B.out _ _ ?_ (λC=>?_)
       .first|exact⟨U,R⟩|exact⟨F,I⟩|go_keep
       clear B K hHeld;have hHeld:=C;clear C;try simp only[Act.put,CF,Bq,CB]
       refine Dx (rs:=[6]) (by kernel_rfl) (by simp) ?_;refine DN (by simp only[CG,Bf,Bu];rfl) (λK B=>?_) ?_
       ·(go_simp;go_at_call 100;refine(OG D _ ln N ac cc a8.AA Q.AA (by repeat(first|with_reducible exact BB _ _|with_reducible refine Below.drew ?_|with_reducible refine Below.alloc ?_ (by simp<;>omega) _)) d7.AA).mono ?_;rintro e w6 ⟨a6,c6,rfl,O,d⟩;have a5:=AB O;(first|have b8:=AB (Oi (w:=D) Q.AA d (by simp<;>omega) (by first|rfl|exact Dv _ _ _ (by simp)))|skip);(first|have c8:=(d.block (D.heap.size+1) trivial (by simp)).trans (show _=some (.cells #[Es N D.heap.size] 24 (0,0)) from IZ D _ _)|skip);have s6:=((AO (S:=Any) O.1).cell (o:=0) trivial sl).trans s1;have e7:=Ah sl O.1.size;have V:=J.AA.below O.1;obtain⟨⟨F,b1,I⟩,-⟩:=Aa V.1;have c4:=V.lt;clear V d O)
        refine B.out _ _ ?_ (λC=>?_)
        .first|exact⟨U,R⟩|exact⟨F,I⟩|go_keep
        clear B K hHeld;have hHeld:=C;clear C;try simp only[Act.put,CF,Bq,CB]
        refine Dx (rs:=[12]) (by kernel_rfl) (by simp) ?_;refine DN (by simp only[CG,Bf,Bu];rfl) (λK B=>?_) ?_
        ·(refine NW (w:=D) (by rfl) _ _ (by rfl) ln N (D.heap.size+1) D.heap.size a6 c6 a8.AA (by rfl) a5.AA (by rfl) c8 b8.AA ?_;intro gg c7 b4 L a0;have b:=AB L;have b6:=AB a0;have t1:=BP b4 p 0 d6 _ ((L.block p sl).trans Z.AA.1);have t2:=Ah sl L.size;have t3:=((AO (S:=Any) L).cell (o:=0) trivial sl).trans s1;have j:=J.AA.below L;obtain⟨⟨F,b1,I⟩,-⟩:=Aa j.1;have e3:=j.lt;clear j L a0)
         refine B.out _ _ ?_ (λC=>?_)
         .first|exact⟨U,R⟩|exact⟨F,I⟩|go_keep
         clear B K hHeld;have hHeld:=C;clear C;try simp only[Act.put,CF,Bq,CB]
         refine Gx (i:=13) (v:=?xQ) (by simp only[CG,Bf,Bu];rfl) ?_ ?_ ?_ ?_ (Or.inl ⟨?_,?wH⟩) ?_ ?xR;case wH=>(intro w X;(try dsimp only at X);go_simp;try with_reducible rfl)
         iterate 3 (kernel_rfl)
         .exact λ_ _ _ h=>h
         .rfl
         .assumption
         try simp only[Act.put,CF,Bq,CB]
         refine Dx (rs:=[14]) (by kernel_rfl) (by simp) ?_;refine DN (by simp only[CG,Bf,Bu];rfl) (λK B=>?_) ?_
         .go_simp;refine B.out _ _ ?_ (λC=>?_)
          .first|exact⟨U,R⟩|exact⟨F,I⟩|go_keep
          clear B K hHeld;have hHeld:=C;clear C;try simp only[Act.put,CF,Bq,CB]
          refine wpAnyH_done (by kernel_rfl) ?_ _
          (go_wp2_with fail;go_meet;exact⟨rfl,AB (Ns Q.AA (J.AA.below b.AA) ((b.AA.block p sl).trans Z.AA.1) (A2.of (b6.AA.mono Y.AA.2.2.size) λm hm=>by rw[(GL.1 hm).2];exact Q.AA)),AB ((Y.AA.below b.AA).set u.AA.s Z.AA.2 _)⟩)
         exact Dw
        exact Dw
       exact Dw
      exact Dw
     exact Dw
    exact Dw
  .go_upto_region 4 with(go_at_call 125;refine(Ri [7,7,7,7] 4 rfl (by decide) _).mono ?_;rintro e w6 ⟨M,X1,X2,X3,Y1,Y2,Y3,hM,rfl,hp,hb⟩;have a7:=AB (show Below D.heap.size D w6 from((BB _ D).alloc AV _).trans (hb.mono (by simp)));have l2:=AB (show PT w1.heap.size w6 M (.slice X1 M Y1) (.slice X2 M Y2) (.slice X3 M Y3) from hp.mono (Ae Y.AA.2.2.size (by simp)));have h6:=J.AA.below a7.AA;obtain⟨⟨u0,u1,u2⟩,v0,v1,v2⟩:=Aa h6.1;have c4:=h6.lt;have m5:=AB hM;clear hp hb hM h6);have b9:=AB (PX.Bi (J.AA.below a7.AA).1 e6.AA l2.AA);have g3:=AB ((Y.AA.below a7.AA).NC u.AA.s e6.AA (.slice X1 M Y1) (.slice X2 M Y2) (.slice X3 M Y3));obtain⟨w7,j2⟩:∃w7,w7=(((w6.setCell ⟨gq,0,none⟩ (.slice X1 M Y1)).setCell ⟨gq,1,none⟩ (.slice X2 M Y2)).setCell ⟨gq,2,none⟩ (.slice X3 M Y3)):=⟨_,rfl⟩;rw[<-j2]at b9 g3 ⊢;clear j2 U d1 R s0 s1 s2 i3 u0 u1 u2 v0 v1 v2 c4;go_upto_if 14 with(go_at_call 68;refine(GX _ g a len cap w1 _ g3.AA).mono ?_;rintro e w8 ⟨r,rfl,hr,d8⟩;have e4:=AB (g3.AA.tr d8);have i2:=AB (GD b9.AA d8.2.2 f9.AA);clear d8);by_cases m0:r=0
   .subst m0;go_wp2_with (go_at_call 125;refine(Ri [2,2,2,2,2,2,2] 7 rfl (by decide) _).mono ?_;rintro e w9 ⟨K,Z1,Z2,Z3,V1,V2,V3,B,rfl,hp,hb⟩;have h9:=AB (show Below w8.heap.size w8 w9 from((BB _ w8).alloc AV _).trans (hb.mono (by simp)));have f4:=AB (show PT w1.heap.size w9 K (.slice Z1 K V1) (.slice Z2 K V2) (.slice Z3 K V3) from hp.mono (Ae e4.AA.2.2.size (by simp)));have i0:=i2.AA.below h9.AA;obtain⟨⟨u0,u1,u2⟩,v0,v1,v2⟩:=Aa i0.1;have o4:=i0.lt;have l3:=AB B;clear hp hb B i0);go_meet;exact⟨rfl,AB (IC.of (Ae l3.AA (by decide)) (PX.Bi (i2.AA.below h9.AA).1 e6.AA f4.AA)),AB ((e4.AA.below h9.AA).NC u.AA.s e6.AA _ _ _)⟩
   .have n8:((r:Int)==0)=false:=Hq.2 (by omega);go_wp2_with fail;go_meet;exact⟨rfl,AB (IC.of (Ae m5.AA (by decide)) i2.AA),e4⟩
end Vt
namespace fB
open RowKit AJ Bv Bl Ch Cr Bj EH KM KN Ih KL NI Ot QV Vt
theorem UI (a7:Int)(g:Nat)(a:Option Addr)(len cap:Nat)(w:World)(h:Sr g a len cap w w):Calls Tryz.prog 30 #[.pointer (some ⟨g,0,none⟩),.int .i64 a7] w (Jo g a len cap w):=by
 obtain⟨I,a1⟩:∃I,I=w.alloc CV:=⟨_,rfl⟩;obtain⟨q,a6⟩:∃q,w.heap.size=q:=⟨_,rfl⟩;have B:=AB (show Bx g a len cap w I q by rw[a1,<-a6];exact Bx.new h);have b1:=AB (show g<I.heap.size from B.AA.s.lt);clear h;go_enter Tryz.func30,Tryz.ntmps30;go_upto_region 1 with fail;rw[<-a1];clear a1 a6;go_upto_region 2 with(go_at_call 67;refine(qm a7 g a len cap I B.AA.s).mono ?_;rintro e w2 ⟨N,S,Q,K,L,O,R,hN,rfl,J,F⟩);obtain⟨gp,a0⟩:∃gp,w2.heap.size=gp:=⟨_,rfl⟩;obtain⟨l,p⟩:∃l,l=w2.alloc (.cells #[.slice S N L,.slice Q N O,.slice K N R] 28):=⟨_,rfl⟩;rw[<-p,a0];have a2:=AB (show Sr g a len cap I l by rw[p];exact F.alloc _);have u:=AB (show PX I.heap.size N l gp (.slice S N L) (.slice Q N O) (.slice K N R) by rw[p,<-a0];exact Iq J AV F.2.2.size);have b3:¬gp=q:=by have h1:=B.AA.s1;have h2:=u.AA.2.1;omega
 clear J F a0 p;go_upto_block 0 with(go_at_call 68;refine(GX _ g a len cap I _ a2.AA).mono ?_;rintro e w4 ⟨r,rfl,hr,a4⟩;have C:=AB (a2.AA.tr a4);have j:=AB (GD u.AA a4.2.2 b1.AA);clear a4);clear a2 u;have a8:=AB (j.AA.2.2.mono (AX _));obtain⟨⟨d0,d1,d2⟩,-⟩:=Aa j.AA.1;have b2:=j.AA.lt;by_cases b0:r=0
 .subst b0;go_wp2_with (go_at_call 69;refine(mO N hN S Q K L O R g a len cap w4 (Sr.here C.AA) a8.AA).mono ?_;rintro e w6 ⟨Z,d,b,n1,n2,n3,U,W,i,rfl,J,F⟩;have D:=AB (C.AA.tr F);have a3:=AB (PA.mono J C.AA.2.2.size);obtain⟨⟨e0,e1,e2⟩,f0,f1,f2⟩:=Aa (B.AA.k D.AA).1;have a5:=(B.AA.k D.AA).2;clear J F);obtain⟨⟨V,X,Y⟩,-⟩:=Aa (Bi (x:=.slice Z n1 U) (y:=.slice d n2 W) (z:=.slice b n3 i) (B.AA.k D.AA).1);exact Au (v:=.agg #[.slice Z n1 U,.slice d n2 W,.slice b n3 i]) (by simp[results,Tryz.results30,go_sem,V,X,Y]) rfl (Bx.SV B.AA D.AA a3.AA)
 by_cases a9:r=1\/r=2
 .rcases a9 with rfl|rfl;all_goals
   go_wp2_with (go_at_call 70;refine(mM N hN S Q K L O R g a len cap w4 (Sr.here C.AA) a8.AA).mono ?_;rintro e w6 ⟨M,Z,d,b,U,W,i,hM,rfl,J,F⟩;have D:=AB (C.AA.tr F);have a3:=AB (PA.mono (PA.of (Ae hM (by decide)) J) C.AA.2.2.size);obtain⟨⟨e0,e1,e2⟩,f0,f1,f2⟩:=Aa (B.AA.k D.AA).1;have a5:=(B.AA.k D.AA).2;clear J F);obtain⟨⟨V,X,Y⟩,-⟩:=Aa (Bi (x:=.slice Z M U) (y:=.slice d M W) (z:=.slice b M i) (B.AA.k D.AA).1);exact Au (v:=.agg #[.slice Z M U,.slice d M W,.slice b M i]) (by simp[results,Tryz.results30,go_sem,V,X,Y]) rfl (Bx.SV B.AA D.AA a3.AA)
 .have h0:((r:Int)==0)=false:=Hq.2 (by omega);have h1:((r:Int)==1)=false:=Hq.2 (by omega);have h2:((r:Int)==2)=false:=Hq.2 (by omega);obtain⟨⟨e0,e1,e2⟩,f0,f1,f2⟩:=Aa (B.AA.k C.AA).1;have a5:=(B.AA.k C.AA).2;clear hr b0 a9;go_wp2_with fail;obtain⟨⟨V,X,Y⟩,-⟩:=Aa (Bi (x:=.slice S N L) (y:=.slice Q N O) (z:=.slice K N R) (B.AA.k C.AA).1);exact Au (v:=.agg #[.slice S N L,.slice Q N O,.slice K N R]) (by simp[results,Tryz.results30,go_sem,V,X,Y]) rfl (Bx.SV B.AA C.AA (PA.of (Ae hN (by decide)) j.AA.2.2))
end fB
namespace fA
open RowKit AJ Bv Bl Ch Cr Bj EH KM KN Ih KL NI Ot QV Vt
end fA
namespace Sy
open RowKit AJ Bv Bl Ch
def Eu (w:World)(g:Nat)(a:Option Addr)(len cap k:Nat)(h:Int):Prop:=w.heap[g]?=some (.cells #[.slice a len cap,.int .i64 (k:Int),.int .u64 h] 65 (0,0))
def Dc (w:World)(g:Nat)(a:Option Addr)(len cap:Nat):Prop:=∃(k:Nat) (h:Int),Eu w g a len cap k h/\k<=len/\len<=4096
theorem Eu.set1 {w:World}{g:Nat}{a:Option Addr}{len cap k:Nat}{h:Int}(C:Eu w g a len cap k h)(B:Nat):Eu (w.setCell ⟨g,1,none⟩ (.int .i64 (B:Int))) g a len cap B h:=Gf w g 1 _ _ _ C
theorem Eu.set2 {w:World}{g:Nat}{a:Option Addr}{len cap k:Nat}{h:Int}(C:Eu w g a len cap k h)(B:Int):Eu (w.setCell ⟨g,2,none⟩ (.int .u64 B)) g a len cap k B:=Gf w g 2 _ _ _ C
theorem Eu.drew {w:World}{g:Nat}{a:Option Addr}{len cap k:Nat}{h:Int}(B:Eu w g a len cap k h):Eu w.drew g a len cap k h:=B
theorem Eu.cells {w:World}{g:Nat}{a:Option Addr}{len cap k:Nat}{h:Int}(B:Eu w g a len cap k h):(w.cell? ⟨g,0,none⟩=some (.slice a len cap)/\w.cell? ⟨g,1,none⟩=some (.int .i64 (k:Int))/\w.cell? ⟨g,2,none⟩=some (.int .u64 h))/\
  w.frozen? ⟨g,1,none⟩=false/\w.frozen? ⟨g,2,none⟩=false/\g<w.heap.size:=⟨Mm B,by simp[World.frozen?,show w.heap[g]?=_ from B],by simp[World.frozen?,show w.heap[g]?=_ from B],(Bt.1 B).1⟩
theorem tH (x:Int):∃q:Nat,q<=16777215/\bits .and .u64 x 16777215=(q:Int):=by
 refine⟨(BitVec.ofInt 64 x &&& BitVec.ofInt 64 16777215).toNat,?_,?_⟩
 .rw[BitVec.toNat_and];exact Nat.and_le_right
 .have h:(BitVec.ofInt 64 x &&& BitVec.ofInt 64 16777215).toNat<=16777215:=by
   rw[BitVec.toNat_and];exact Nat.and_le_right
  exact(show IntKind.u64.wrap (((BitVec.ofInt 64 x &&& BitVec.ofInt 64 16777215).toNat:Nat):Int)=_ from IntWalk.u64_in _ (by omega))
def Vu (n g:Nat)(a:Option Addr)(len cap:Nat)(w:World)(e:Ending)(w':World):Prop:=∃r:Nat,e= .returned (.int .i64 (r:Int))/\r<n/\Dc w' g a len cap/\w.grownBy w' (some g)
def Z0 (a:Option Addr)(len cap:Nat)(w:World)(e:Ending)(w':World):Prop:=∃g,e= .returned (.pointer (some ⟨g,0,none⟩))/\w.heap.size<=g/\Dc w' g a len cap/\Below w.heap.size w w'
theorem jy (n:Nat)(h2:1<=n)(w:World)(g:Nat)(a:Option Addr)(len cap:Nat)(hS:Dc w g a len cap)(hR:Rd w g a len):
  Calls Tryz.prog 40 #[.pointer (some ⟨g,0,none⟩),.int .i64 (n:Int)] w (Vu n g a len cap w):=by
 obtain⟨k,h,Z,hk,hl⟩:=hS;have HR:=AB hR;have a1:=AB h2;obtain⟨p,b2⟩:∃p,IntKind.u64.wrap (h*6364136223846793005)=p:=⟨_,rfl⟩;obtain⟨C,b3⟩:∃C,IntKind.u64.wrap (p+1442695040888963407)=C:=⟨_,rfl⟩;obtain⟨⟨L,J,O⟩,I,K,N⟩:=Z.cells;have HA:=AB Z;have i:=AB hl;have HK:=AB hk;clear Z hR h2 hl;go_enter Tryz.func40,Tryz.ntmps40;go_upto_region 2 with fail;obtain⟨D,Y⟩:∃D,w.setCell ⟨g,2,none⟩ (.int .u64 C)=D:=⟨_,rfl⟩;simp only[Y];have l:=AB (show Eu D g a len cap k C by rw[<-Y];exact HA.AA.set2 C);have v:=AB (show w.grownBy D (some g) by rw[<-Y];exact Pt (Ez _ _) _);clear Y L J O I K N b2 b3;obtain⟨⟨L,J,O⟩,I,K,N⟩:=l.AA.cells;go_upto_region 3 with fail;obtain⟨q,hq,a4⟩:=tH (C/8589934592);have y:wrap64 (bits BinOp.and IntKind.u64 (C/8589934592) 16777215)=(q:Int):=by
  rw[a4];unfold wrap64;omega
 rw[y];have j:=AB hq;clear y a4 hq;have a2:=AB (show∀x:Nat,∃r:Nat,((x:Int)).tmod (n:Int)=(r:Int)/\r<n/\r<=x from λx=>⟨x%n,ML x n,Nat.mod_lt _ (by have:=a1.AA;omega),Nat.mod_le _ _⟩);have b7:¬(n:Int)=0:=by have:=a1.AA;omega
 by_cases b5:k<len
 .obtain⟨b,o,z,rfl,b8,a0,a3,hz⟩:=HR.AA.grown v.AA k b5;have a8:(k:Int)<(len:Int):=by omega
  have c3:(0:Int)<=(k:Int):=by omega
  have c4:IntKind.i64.wrap ((q:Int)+(z:Int))=(q:Int)+(z:Int):=Ac _ (by have:=j.AA;omega);have b9:IntKind.i64.wrap (z:Int)=(z:Int):=Ac _ (by omega);have b6:IntKind.i64.wrap ((k:Int)+1)=(k:Int)+1:=Ac _ (by have:=i.AA;omega);go_wp2_with fail;go_region_held3 (λw'=>(∀b o,b<D.heap.size->w'.cell? ⟨b,o,none⟩=D.cell? ⟨b,o,none⟩)/\Keep (λ_=>True) D w')
   (first|exact Ap (by repeat(first|exact AL.drew|exact AL)))
   (fail)
  rename_i Q;clear Q;obtain⟨B,F⟩:∃B,D.drew=B:=⟨_,rfl⟩;simp only[F];have X:=AB (show Eu B g (some ⟨b,o,none⟩) len cap k C by rw[<-F];exact l.AA.drew);have s:=AB (show w.grownBy B (some g) by rw[<-F];exact Ju v.AA);have b0:B.cell? ⟨b,o+k,none⟩=some (.int .u8 (z:Int)):=by rw[<-F];exact a3
  have b4:b<B.heap.size:=by rw[<-F];exact a0
  clear F L J O I K N a3 a0;obtain⟨⟨L,J,O⟩,I,K,N⟩:=X.AA.cells;go_wp2_with fail;go_region_held3 (λw'=>(∀b o,b<B.heap.size->w'.cell? ⟨b,o,none⟩=B.cell? ⟨b,o,none⟩)/\Keep (λ_=>True) B w')
   (first|exact Ap (by repeat(first|exact AL.drew|exact AL)))
   (fail)
  rename_i Q;clear Q;obtain⟨S,V⟩:∃S,B.drew=S:=⟨_,rfl⟩;simp only[V];have a5:=AB (show Eu S g (some ⟨b,o,none⟩) len cap k C by rw[<-V];exact X.AA.drew);have a6:=AB (show w.grownBy S (some g) by rw[<-V];exact Ju s.AA);clear V L J O I K N b0 b4;obtain⟨⟨L,J,O⟩,I,K,N⟩:=a5.AA.cells;go_upto_region 6 with fail;obtain⟨R,W⟩:∃R,S.setCell ⟨g,1,none⟩ (.int .i64 ((k:Int)+1))=R:=⟨_,rfl⟩;simp only[W];have a9:=AB (show Eu R g (some ⟨b,o,none⟩) len cap (k+1) C by rw[<-W];exact a5.AA.set1 (k+1));have a7:=AB (show w.grownBy R (some g) by rw[<-W];exact Pt a6.AA _);obtain⟨r,hr,U,d⟩:=a2.AA (q+z);rw[Int.natCast_add]at hr;have b1:IntKind.i64.wrap (r:Int)=(r:Int):=Ac _ (by have:=j.AA;omega);have u:=AB (show Vu n g (some ⟨b,o,none⟩) len cap w (.returned (.int .i64 (r:Int))) R from⟨r,rfl,U,⟨k+1,C,a9.AA,by omega,i.AA⟩,a7.AA⟩);clear U d W L J O I K N;go_wp2_with fail;go_ret;exact u.AA
 .have a8:¬(k:Int)<(len:Int):=by omega
  go_wp2_with fail;go_region_held3 (λw'=>(∀b o,b<D.heap.size->w'.cell? ⟨b,o,none⟩=D.cell? ⟨b,o,none⟩)/\Keep (λ_=>True) D w')
   (first|exact Ap (by repeat(first|exact AL.drew|exact AL)))
   (fail)
  rename_i Q;clear Q;obtain⟨B,F⟩:∃B,D.drew=B:=⟨_,rfl⟩;simp only[F];have X:=AB (show Eu B g a len cap k C by rw[<-F];exact l.AA.drew);have s:=AB (show w.grownBy B (some g) by rw[<-F];exact Ju v.AA);clear F L J O I K N;obtain⟨r,hr,U,d⟩:=a2.AA q;have b1:IntKind.i64.wrap (r:Int)=(r:Int):=Ac _ (by have:=j.AA;omega);have u:=AB (show Vu n g a len cap w (.returned (.int .i64 (r:Int))) B from⟨r,rfl,U,⟨k,C,X.AA,HK.AA,i.AA⟩,s.AA⟩);clear U d;go_wp2_with fail;go_ret;exact u.AA
end Sy
namespace Su
open RowKit AJ Val Bv Bl Sy
open Ku(EA PL)
open BU(Any)
theorem Uy {A W D:World}{g r:Option Nat}(h:A.grownBy W g)(B:W.grownBy D r)(F:∀k,r=some k->A.heap.size<=k):A.grownBy D g:=
 ⟨B.os.trans h.os,B.tape.trans h.tape,B.output.trans h.output,Ae h.size B.size,λk C I=>(B.block k (Ah C h.size) (λe=>absurd (F k e.symm) (by omega))).trans (h.block k C I)⟩
theorem Il {A W:World}{g:Option Nat}(h:A.grownBy W g)(o:Obj):A.grownBy (W.alloc o) g:=
 ⟨h.os,h.tape,h.output,Ae h.size (by simp),λk B C=>(Ji W o (Ah B h.size)).trans (h.block k B C)⟩
theorem Rj {w w':World}{g:Nat}{a:Option Addr}{len cap:Nat}{r:Option Nat}(h:Dc w g a len cap)(C:w.grownBy w' r)(D:some g≠r):Dc w' g a len cap:=by
 obtain⟨k,x,B,I,F⟩:=h;exact⟨k,x,(C.block g (Bt.1 B).1 D).trans B,I,F⟩
theorem vJ {w:World}{g:Nat}{a:Option Addr}{len cap:Nat}(h:Dc w g a len cap):g<w.heap.size:=by
 obtain⟨k,x,B,_⟩:=h;exact(Bt.1 B).1
theorem PK {B B' n:Nat}{w:World}{v:Value}{t:TypeId}{D:List Value}(h:w.ownsRow B t 1 v n D)(I:B'<=B):w.ownsRow B' t 1 v n D:=by
 obtain⟨F,C⟩:=h;rcases C with C|⟨g,cap,K,e,L,J⟩
 .exact⟨F,.inl C⟩
 .exact⟨F,.inr ⟨g,cap,K,e,Ae I L,J⟩⟩
theorem Rb:∀(T:Tw) (x:List Nat),x.length=T.length->(∀(i a:Nat) (L:Lv),x[i]?=some a->T[i]?=some L->a<L.o)->El T x
 |[],[],_,_=>trivial
 |L::T,a::x,hl,h=>⟨h 0 a L rfl rfl,Rb T x (by simpa using hl) (λi b M B C=>h (i+1) b M B C)⟩
 |[],_::_,hl,_=>by simp at hl
 |_::_,[],hl,_=>by simp at hl
def dK (T:Tw)(g:Nat)(a:Option Addr)(len cap:Nat)(w:World)(e:Ending)(w':World):Prop:=
 ∃(C B:Nat) (x:List Nat),e= .returned (.slice (some ⟨C,0,none⟩) x.length B)/\EA w.heap.size w' (.slice (some ⟨C,0,none⟩) x.length B) x/\El T x/\Dc w' g a len cap/\w.grownBy w' (some g)
theorem UI (T:Tw)(hT:∀(i:Nat) (L:Lv),T[i]?=some L->2<=L.o)(n:Nat)(hn:T.length=n)(hs:n<=6)(w:World)(g:Nat)(a:Option Addr)(len cap:Nat)(Q:Option Addr)(Y:Nat)(vP vC:Value)(hS:Dc w g a len cap)(hR:Rd w g a len)(J:AP (λk=>k≠g) w (.slice Q n Y) (AZ T).os):
  Calls Tryz.prog 15 #[.pointer (some ⟨g,0,none⟩),.agg #[.slice Q n Y,vP,vC]] w (dK T g a len cap w):=by
 obtain⟨i0,hi,b8,b9,c7⟩:=Bd Dh;have d1:=vJ hS;obtain⟨B,K⟩:∃B,B=w.alloc (.cells #[.slice Q n Y,vP,vC] 28):=⟨_,rfl⟩;obtain⟨F,v⟩:∃F,w.heap.size=F:=⟨_,rfl⟩;have a6:B.heap.size=F+1:=by rw[K,<-v];simp
 have z:=AB (show w.grownBy B (some g) by rw[K];exact Il (Ez _ _) _);have b4:=AB (show Dc B g a len cap by rw[K];exact Rj hS (Il (Ez _ none) _) (by simp));have d0:=AB (show Rd B g a len from hR.grown z.AA);have b2:=AB (show AP (λk=>k≠g) B (.slice Q n Y) (AZ T).os from J.keep (Keep.grown z.AA λk N e=>N (by injection e)));have d3:=AB (show B.cell? ⟨F,0,none⟩=some (.slice Q n Y) by
  rw[K,<-v];exact(Mm (Aj _ _)).1)
 have y:=AB (show g≠F/\g<F by omega);have HT:=AB hT;have HN:=AB hn;have U:=AB a6;have c8:=AB v;have c6:=AB (λm h W I V=>jy m h W g a len cap I V);have d8:=AB (show EA B.heap.size (B.alloc (.cells #[] 2)) (.slice (some ⟨B.heap.size,0,none⟩) 0 0) [] from DL (base:=B.heap.size) (e:=2) (size:=1) B #[] 0 AV (AX _) rfl);have d9:=AB (show Dc (B.alloc (.cells #[] 2)) g a len cap from Rj b4.AA (Il (Ez _ none) _) (by simp));have d7:=AB (show B.grownBy (B.alloc (.cells #[] 2)) (some g) from Il (Ez _ _) _);clear hS hR J hn hT a6 d1;go_enter Tryz.func15,Tryz.ntmps15;go_upto_region 1 with fail;rw[<-K];clear K v;go_wp2_with fail;go_loopw [5,6] (λov iv wr=>∃(k:Nat) (C:List Nat) (R d:Nat),ov= .slice (some ⟨R,0,none⟩) k d/\k<=n/\iv= .int .i64 (k:Int)/\Hid (C.length=k/\∀(i x:Nat) (L:Lv),C[i]?=some x->T[i]?=some L->x<L.o)/\Hid (EA B.heap.size wr (.slice (some ⟨R,0,none⟩) k d) C)/\Hid (Dc wr g a len cap)/\Hid (B.grownBy wr (some g))) (λ_ iv _=>n-(intOf iv).toNat);case atStart=>exact⟨0,[],_,_,rfl,AX _,rfl,AB ⟨rfl,λi x L h=>by simp at h⟩,d8,d9,d7⟩
 case round=>
  obtain⟨k,C,R,d,rfl,N,rfl,D,J,s,O⟩:=hrel;have Z:=Keep.grown O.AA (S:=λk=>k≠g) (λk N e=>N (by injection e));have p0:=(Z.cell (b:=F) (o:=0) (λe=>y.AA.1 e.symm) (by rw[U.AA];omega)).trans d3.AA;have e3:F<wr.heap.size:=by have:=Z.size;have:=U.AA;omega
  by_cases a5:k<n
  .obtain⟨L,p⟩:∃L,T[k]?=some L:=⟨_,AU (by rw[HN.AA];exact a5)⟩;obtain⟨m,j⟩:∃m,L.o=m:=⟨_,rfl⟩;have c0:2<=m:=by rw[<-j];exact HT.AA k L p
   have a4:=NQ T k L p;rw[j]at a4;obtain⟨bO,oO,vu,rfl,_,e1,e2,rfl⟩:=Ce (b2.AA.keep Z) a4;have e4:max (1:Int) (m:Int)=(m:Int):=by omega
   have HC:=AB (c6.AA m (by omega) wr s.AA (d0.AA.grown O.AA));have e0:(k:Int)<(n:Int):=by omega
   have e5:(0:Int)<=(k:Int):=by omega
   have u:=AB (And.intro a5 hs);have b1:=AB (And.intro p j);clear Z a5 a4 p j;go_wp2_with fail;refine HC.AA.mono ?_;rintro e l ⟨r,rfl,hr,a9,a0⟩;have a8:=AB (Jd O.AA a0);have d6:=AB a9;have d5:=AB hr;have a1:=(show EA B.heap.size l _ C from Aw J.AA (S:=λq=>q≠g) (Keep.grown a0 (λk N e=>N (by injection e))) (λq hq=>by have:=y.AA;have:=U.AA;omega));have X:=Aw a1 (S:=Any) ((Keep.refl _ l).alloc (.cells #[.int .i64 (r:Int)] 2)) (λ_ _=>trivial);have c2:=AB (show(C++[r]).length=k+1/\∀(i x:Nat) (L:Lv),(C++[r])[i]?=some x->T[i]?=some L->x<L.o from⟨by rw[Bc,D.AA.1];rfl,λi x M I V=>by
    by_cases hi:i<C.length
    .rw[DK hi]at I;exact D.AA.2 i x M I V
    .rw[DC (by omega)]at I;have b7:i=k:=by
      have:=(Ak.1 I).1;simp at this;have:=D.AA.1;omega
     subst b7;rw[b1.AA.1]at V;cases V;have:=D.AA.1;rw[this,Gy]at I;simp at I;rw[b1.AA.2];have:=d5.AA;omega⟩)
   have b0:=AB D.AA.1;rw[b0.AA]at X;clear D J s O a9 a0 hr c0 a1 HC;go_wp2_with (at_builtin;(refine ER _ rfl _ _ 24 rfl B.heap.size 2 i0 (.int .i64 0) 1 8 Tryz.underlying24 hi b8 b9 c7 rfl (by decide) _ _ _ rfl X ⟨l.heap.size,0,none⟩ 1 1 [.int .i64 (r:Int)] rfl rfl (Cw (cs:= #[.int .i64 (r:Int)]) (t:=2) (fr:=(0,0)) (Aj l _)) (by simp[Value.oneCell']) (by decide) ?c3 ?c4 ?c5 _ rfl ?_));case c3=>have:=u.AA;unfold maxLen;omega
   case c4=>have:=u.AA;omega
   case c5=>have:=a8.AA.size;simp;omega
   intro g2 d2 w2 a7 a3 c1 b5;have d4:=AB (show EA B.heap.size w2 (.slice (some ⟨g2,0,none⟩) (k+1) d2) (C++[r]) from PL (by rw[b0.AA];exact a7));have c9:=AB (show B.grownBy w2 (some g) from Uy (Il a8.AA _) a3 (λq hq=>(Aq X q hq).1));have b3:=AB (show Dc w2 g a len cap from Rj (Rj d6.AA (Il (Ez _ none) _) (by simp)) a3 (λe=>by have:=(Aq X g e.symm).1;have:=y.AA;have:=U.AA;omega));clear a7 a3 c1 b5 X b2;go_wp2_with fail;go_roundw;case rel=>exact⟨k+1,C++[r],_,_,rfl,u.AA.1,by go_num,c2,d4,b3,c9⟩
   case measure=>have:=u.AA.1;simp[intOf];omega
  .obtain rfl:k=n:=by omega
   have b6:=AB (show dK T g a len cap w (.returned (.slice (some ⟨R,0,none⟩) k d)) wr from⟨R,d,C,by rw[D.AA.1],by rw[D.AA.1];exact PK J.AA (by rw[U.AA,c8.AA];omega),Rb T C (by rw[HN.AA];exact D.AA.1) D.AA.2,s.AA,Jd z.AA O.AA⟩);clear D J s O Z;go_wp2_with fail;go_ret;exact b6.AA
end Su
end Go.Proofs.YtgjadpmbnejaoaaGreat
