import Derived.Test.YtgjadpmbnejaoaaGreatZE
/-
  Lemmas for the law FnAutomorphisms, in short spelling.
-/
set_option linter.unusedVariables false
set_option linter.unusedSimpArgs false
set_option maxRecDepth 100000
set_option maxHeartbeats 40000000
namespace Go.Proofs.YtgjadpmbnejaoaaGreat
namespace eQ
open RowKit AJ Val Bv Bl Ku Ih
open Su(Uy Il PK Rb)
open BU(Any)
def dA (T:Tw)(g:Nat)(a:Option Addr)(len cap:Nat)(w:World)(e:Ending)(w':World):Prop:=
 ∃(B:Option Addr) (n C:Nat) (x:List Nat),e= .returned (.slice B n C)/\x.length=n/\EA w.heap.size w' (.slice B n C) x/\El T x/\Sr g a len cap w w'
theorem lJ (T:Tw)(hT:∀(i:Nat) (L:Lv),T[i]?=some L->2<=L.o)(n:Nat)(hn:T.length=n)(hs:n<=6)(w:World)(g:Nat)(a:Option Addr)(len cap:Nat)(d:Option Addr)(u:Nat)(vP vC:Value)(I:Sr g a len cap w w)(N:AP (λk=>k≠g) w (.slice d n u) (AZ T).os):
  Calls Tryz.prog 131 #[.pointer (some ⟨g,0,none⟩),.agg #[.slice d n u,vP,vC]] w (dA T g a len cap w):=by
 obtain⟨i0,hi,c9,d0,c8⟩:=Bd Dh;have d5:=I.lt;obtain⟨B,Y⟩:∃B,B=w.alloc (.cells #[.slice d n u,vP,vC] 28):=⟨_,rfl⟩;obtain⟨O,a0⟩:∃O,w.heap.size=O:=⟨_,rfl⟩;have c6:B.heap.size=O+1:=by rw[Y,<-a0];simp
 have z:=AB (show Sr g a len cap w B by rw[Y];exact I.alloc _);have b7:=AB (show Sr g a len cap B B from⟨z.AA.1,z.AA.2.1,Ez _ _⟩);have a8:=AB (show AP (λk=>k≠g) B (.slice d n u) (AZ T).os from N.keep (Keep.grown z.AA.2.2 λk Q e=>Q (by injection e)));have d7:=AB (show B.cell? ⟨O,0,none⟩=some (.slice d n u) by
  rw[Y,<-a0];exact(Mm (Aj _ _)).1)
 have a9:=AB (show g≠O/\g<O by omega);have HT:=AB hT;have HN:=AB hn;have j:=AB c6;have d4:=AB a0;have c1:=AB (λx W (h:Sr g a len cap B W)=>GX x g a len cap B W h);have d8:=AB (show EA B.heap.size (B.alloc (.cells #[] 2)) (.slice (some ⟨B.heap.size,0,none⟩) 0 0) [] from DL (base:=B.heap.size) (e:=2) (size:=1) B #[] 0 AV (AX _) rfl);have d6:=AB (show Sr g a len cap B (B.alloc (.cells #[] 2)) from b7.AA.alloc _);clear I N hn hT c6 d5;go_enter Tryz.func131,Tryz.ntmps131;go_upto_region 1 with fail;rw[<-Y];clear Y a0;go_wp2_with fail;go_loopw [5,6] (λov iv wr=>∃(k:Nat) (C:List Nat) (y:Option Addr) (Z:Nat),ov= .slice y k Z/\k<=n/\iv= .int .i64 (k:Int)/\Hid (C.length=k/\∀(i x:Nat) (L:Lv),C[i]?=some x->T[i]?=some L->x<L.o)/\Hid (EA B.heap.size wr (.slice y k Z) C)/\Hid (Sr g a len cap B wr)) (λ_ iv _=>n-(intOf iv).toNat);case atStart=>exact⟨0,[],_,_,rfl,AX _,rfl,AB ⟨rfl,λi x L h=>by simp at h⟩,d8,d6⟩
 case round=>
  obtain⟨k,C,y,Z,rfl,Q,rfl,D,N,I⟩:=hrel;have l:=Keep.grown I.AA.2.2 (S:=λk=>k≠g) (λk Q e=>Q (by injection e));have p0:=(l.cell (b:=O) (o:=0) (λe=>a9.AA.1 e.symm) (by rw[j.AA];omega)).trans d7.AA;have e2:O<wr.heap.size:=by have:=l.size;have:=j.AA;omega
  by_cases b0:k<n
  .obtain⟨L,a4⟩:∃L,T[k]?=some L:=⟨_,AU (by rw[HN.AA];exact b0)⟩;obtain⟨m,hm⟩:∃m,L.o=m:=⟨_,rfl⟩;have d1:2<=m:=by rw[<-hm];exact HT.AA k L a4
   have b8:=NQ T k L a4;rw[hm]at b8;obtain⟨bO,oO,vu,rfl,_,e0,e1,rfl⟩:=Ce (a8.AA.keep l) b8;have HC:=AB (c1.AA m wr I.AA);have e3:(k:Int)<(n:Int):=by omega
   have e4:(0:Int)<=(k:Int):=by omega
   have K:=AB (And.intro b0 hs);have a3:=AB (And.intro a4 hm);clear l b0 b8 a4 hm;go_wp2_with fail;refine HC.AA.mono ?_;rintro e w1 ⟨r,rfl,hr,b4⟩;have c7:=AB (show 0<m/\r<m from⟨by omega,by omega⟩);have c2:=AB (I.AA.tr b4);have d2:=b4.2.2;have d3:=AB (c1.AA 3 w1 c2.AA);clear b4;go_wp2_with fail;refine d3.AA.mono ?_;rintro e U ⟨r2,rfl,c0,a7⟩;have a5:=AB (c2.AA.tr a7);have a1:=(show EA B.heap.size U _ C from Aw (Aw N.AA (S:=λq=>q≠g) (Keep.grown (show wr.grownBy w1 (some g) from d2) (λk Q e=>Q (by injection e))) (λq s=>by have:=a9.AA;have:=j.AA;omega)) (S:=λq=>q≠g) (Keep.grown a7.2.2 (λk Q e=>Q (by injection e))) (λq s=>by have:=a9.AA;have:=j.AA;omega));clear a7 d3 d2;rcases Nat.eq_zero_or_pos r2 with h0|h0
   .have hd:((r2:Int)==0)=true:=by simp;omega
    have a6:=AB (show(C++[0]).length=k+1/\∀(i x:Nat) (L:Lv),(C++[0])[i]?=some x->T[i]?=some L->x<L.o from⟨by rw[Bc,D.AA.1];rfl,λi x M F R=>by
     by_cases hi:i<C.length
     .rw[DK hi]at F;exact D.AA.2 i x M F R
     .rw[DC (by omega)]at F;have b5:i=k:=by
       have:=(Ak.1 F).1;simp at this;have:=D.AA.1;omega
      subst b5;rw[a3.AA.1]at R;cases R;have:=D.AA.1;rw[this,Gy]at F;simp at F;rw[a3.AA.2];have:=c7.AA;omega⟩)
    have J:=Aw a1 (S:=Any) ((Keep.refl _ U).alloc (.cells #[.int .i64 0] 2)) (λ_ _=>trivial);have X:=AB D.AA.1;rw[X.AA]at J;clear D N I hr d1 a1 HC c0 h0;go_wp2_with (at_builtin;(refine ER _ rfl _ _ 24 rfl B.heap.size 2 i0 (.int .i64 0) 1 8 Tryz.underlying24 hi c9 d0 c8 rfl (by decide) _ _ _ rfl J ⟨U.heap.size,0,none⟩ 1 1 [.int .i64 0] rfl rfl (Cw (cs:= #[.int .i64 0]) (t:=2) (fr:=(0,0)) (Aj U _)) (by simp[Value.oneCell']) (by decide) ?c3 ?c4 ?c5 _ rfl ?_));case c3=>have:=K.AA;unfold maxLen;omega
    case c4=>have:=K.AA;omega
    case c5=>have:=a5.AA.2.2.size;simp;omega
    intro g2 b3 p V v b1 b9;have b2:=AB (show EA B.heap.size p (.slice (some ⟨g2,0,none⟩) (k+1) b3) (C++[0]) from PL (a:=0) (by rw[X.AA];exact V));have b6:=AB (show Sr g a len cap B p from(a5.AA.alloc _).own b7.AA v (λq s=>(Aq J q s).1));clear V v b1 b9 J a8;go_wp2_with fail;go_roundw;case rel=>exact⟨k+1,C++[0],_,_,rfl,K.AA.1,by go_num,a6,b2,b6⟩
    case measure=>have:=K.AA.1;simp[intOf];omega
   .have hd:((r2:Int)==0)=false:=by simp;omega
    have a6:=AB (show(C++[r]).length=k+1/\∀(i x:Nat) (L:Lv),(C++[r])[i]?=some x->T[i]?=some L->x<L.o from⟨by rw[Bc,D.AA.1];rfl,λi x M F R=>by
     by_cases hi:i<C.length
     .rw[DK hi]at F;exact D.AA.2 i x M F R
     .rw[DC (by omega)]at F;have b5:i=k:=by
       have:=(Ak.1 F).1;simp at this;have:=D.AA.1;omega
      subst b5;rw[a3.AA.1]at R;cases R;have:=D.AA.1;rw[this,Gy]at F;simp at F;rw[a3.AA.2];have:=c7.AA;omega⟩)
    have J:=Aw a1 (S:=Any) ((Keep.refl _ U).alloc (.cells #[.int .i64 (r:Int)] 2)) (λ_ _=>trivial);have X:=AB D.AA.1;rw[X.AA]at J;clear D N I hr d1 a1 HC c0 h0;go_wp2_with (at_builtin;(refine ER _ rfl _ _ 24 rfl B.heap.size 2 i0 (.int .i64 0) 1 8 Tryz.underlying24 hi c9 d0 c8 rfl (by decide) _ _ _ rfl J ⟨U.heap.size,0,none⟩ 1 1 [.int .i64 (r:Int)] rfl rfl (Cw (cs:= #[.int .i64 (r:Int)]) (t:=2) (fr:=(0,0)) (Aj U _)) (by simp[Value.oneCell']) (by decide) ?c3 ?c4 ?c5 _ rfl ?_));case c3=>have:=K.AA;unfold maxLen;omega
    case c4=>have:=K.AA;omega
    case c5=>have:=a5.AA.2.2.size;simp;omega
    intro g2 b3 p V v b1 b9;have b2:=AB (show EA B.heap.size p (.slice (some ⟨g2,0,none⟩) (k+1) b3) (C++[r]) from PL (a:=r) (by rw[X.AA];exact V));have b6:=AB (show Sr g a len cap B p from(a5.AA.alloc _).own b7.AA v (λq s=>(Aq J q s).1));clear V v b1 b9 J a8;go_wp2_with fail;go_roundw;case rel=>exact⟨k+1,C++[r],_,_,rfl,K.AA.1,by go_num,a6,b2,b6⟩
    case measure=>have:=K.AA.1;simp[intOf];omega
  .obtain rfl:k=n:=by omega
   have d9:=AB (show dA T g a len cap w (.returned (.slice y k Z)) wr from⟨y,k,Z,C,rfl,D.AA.1,by have h:=N.AA;unfold EA at h ⊢; exact PK h (by rw[j.AA,d4.AA];omega),Rb T C (by rw[HN.AA];exact D.AA.1) D.AA.2,z.AA.tr I.AA⟩);clear D N I l;go_wp2_with fail;go_ret;exact d9.AA
end eQ
namespace eU
section
open RowKit AJ CP FN BU FX Hf EN Jf Mo Iy
theorem UE (T:Tw)(hT:Wf T)(q:Small T)(hg:AJ.Good T)(w:World)(I J F O L:Value)(x y:List Nat)(D:Av Any w I J F (AZ T))(r:AP Any w O (ints x))(p:AP Any w L (ints y))(S:El T x)(K:El T y):
  Calls Tryz.prog 188 #[.agg #[I,J,F],O,L] w (Dz (ints (mul T (Ai T y) (mul T x y))) w):=by
 have s:=AB D;have u:=AB r;have l:=AB p;have a7:=AB S;have i:=AB K;have Y:=AB (λW R vb a b D ha hb Q hB=>KV T hT q W I J F R vb a b D ha hb Q hB);have HI:=AB (λW R a D ha Q=>Qu T hT q hg W I J F R a D ha Q);have a4:=AB (Bz hT S K);have a3:=AB (Br hT hg K).1;obtain⟨B,C⟩:∃B,B=w.alloc (.cells #[I,J,F] 28):=⟨_,rfl⟩;clear D r p S K;go_enter Tryz.func188,Tryz.ntmps188;go_upto_region 1 with fail;rw[<-C];have z:=AB (show Below w.heap.size w B by rw[C];exact AY.alloc AV _);obtain⟨e0,e1,e2⟩:=CY (w:=w) (wr:=B) (by rw[C];exact BB _ _);have a9:w.heap.size<B.heap.size:=by rw[C];simp
 have N:=AB (s.AA.keep (w':=B) (by rw[C];exact AL.alloc _));have a2:=AB (u.AA.keep (w':=B) (by rw[C];exact AL.alloc _));have Z:=AB (l.AA.keep (w':=B) (by rw[C];exact AL.alloc _));clear C s u l;go_region_held3 (λw'=>(∀b o,b<B.heap.size->w'.cell? ⟨b,o,none⟩=B.cell? ⟨b,o,none⟩)/\Keep (λ_=>True) B w')
  (first|exact Ap (by repeat(first|exact Ab|exact AL|refine AR ?_ ‹_›)))
  (first|(go_at_call_of 166 X;refine(Y.AA _ X v7 _ _ (N.AA.keep (by repeat(first|exact Ab|exact AL|refine AR ?_ ‹_›))) ((U.sl.mono (λ_ _=>trivial)).keep (by repeat(first|exact Ab|exact AL|refine AR ?_ ‹_›))) ((j.sl.mono (λ_ _=>trivial)).keep (by repeat(first|exact Ab|exact AL|refine AR ?_ ‹_›))) a3.AA a4.AA).mono ?_;rintro e w8 ⟨v8,rfl,V,a6⟩)|(have v:=g;clear v;go_at_call 166;refine(Y.AA _ O L x y (N.AA.keep (by repeat(first|exact Ab|exact AL|refine AR ?_ ‹_›))) (a2.AA.keep (by repeat(first|exact Ab|exact AL|refine AR ?_ ‹_›))) (Z.AA.keep (by repeat(first|exact Ab|exact AL|refine AR ?_ ‹_›))) a7.AA i.AA).mono ?_;rintro e d ⟨v7,rfl,j,a5⟩)|(go_at_call 191;refine(HI.AA _ L _ (N.AA.keep (by repeat(first|exact Ab|exact AL|refine AR ?_ ‹_›))) (Z.AA.keep (by repeat(first|exact Ab|exact AL|refine AR ?_ ‹_›))) i.AA).mono ?_;rintro e w6 ⟨X,rfl,U,g⟩))
 have a8:w.heap.size<=d.heap.size:=by
  have:=(show Keep (λ_=>True) B d from(by repeat(first|exact Ab|exact AL|refine AR ?_ ‹_›))).size;omega
 have h:=z;have a0:=AB (show Below w.heap.size w w8 from(by repeat(first|exact h.AA|exact h.AA.drew|refine Below.step ?_ (by simp) ‹_›)));have a1:=AB (V.mono a8);clear U j V g a5 a6;go_wp2_with fail;go_ret;exact⟨_,rfl,a1.AA,a0.AA⟩
end
open RowKit AJ Val BN CL Dk EF Gj Dn Hz IA Df Gm
open BU(Any)
open Bj(Aa)
open Kr(Ay)
noncomputable def JE (T:Tw)(x:List Nat)(k:Nat):List (List Nat):=(List.range k).map λi=>Ay T (unit T i) x
theorem jX (T:Tw)(x:List Nat)(k:Nat):JE T x (k+1)=JE T x k++[Ay T (unit T k) x]:=by simp[JE,FB]
theorem lK (T:Tw)(x:List Nat)(k:Nat):(JE T x k).length=k:=by simp[JE]
theorem lM (T:Tw)(x:List Nat):JE T x T.length=inn T x:=by
 unfold JE inn Az;rw[List.map_map];rfl
theorem iN (T:Tw)(gT:Ba.BR (AZ T))(w:World)(vO J K Y:Value)(x:List Nat)(j:Av Any w vO J K (AZ T))(hx:AP Any w Y (ints x))(hE:El T x):
  Calls Tryz.prog 130 #[.agg #[vO,J,K],Y] w (λe w'=>∃a n c,e= .returned (.tuple #[.slice a n c,.int .i64 0])/\BL w.heap.size w' (.slice a n c) ((inn T x).map ints)/\Below w.heap.size w w'):=by
 obtain⟨j0,hj,d3,c3,d8⟩:=Bd Iu;obtain⟨hT,a6,b5,c9⟩:=EM.FJ gT;obtain⟨n,O⟩:∃n,T.length=n:=⟨_,rfl⟩;have c8:n<=6:=by rw[<-O];exact a6.1
 obtain⟨U,Z,rfl,_,_⟩:=Am.form j.os;rw[Jv,O]at j ⊢;obtain⟨g,a3⟩:∃g,w.heap.size=g:=⟨_,rfl⟩;obtain⟨B,Q⟩:∃B,B=w.alloc (.cells #[.slice U n Z,J,K] 28):=⟨_,rfl⟩;have N:Below w.heap.size w B:=by rw[Q];exact AY.alloc AV _
 have d9:B.heap.size=g+1:=by rw[Q,<-a3];simp
 have b7:B.heap[g]?=some (.cells #[.slice U n Z,J,K] 28 (0,0)):=by rw[Q,<-a3];exact Aj w _
 have a1:=AB (λ(W:World) (h:Below B.heap.size B W)=>And.intro (Aa ((h.block g (by omega)).trans b7)).1 (show g<W.heap.size by have:=h.size;omega));have HB:=AB (λ(W:World) (h:Below B.heap.size B W)=>N.trans (h.mono N.size));have HW:=AB N.size;have i:=AB (λ(V:World) (C:Keep Any B V)=>And.intro ((j.keep (AO N)).keep C) ((hx.keep (AO N)).keep C));have d7:=AB (Kq.gG B (.slice U n Z) J K Y (AZ T) (ints x) (i.AA B AL).1 (i.AA B AL).2);have d5:=AB (show Kq.Sj (AZ T) (ints x) from⟨gT,Ph hE⟩);have c4:=AB (λ(V:World) (k:Nat) (C:k<n)=>show Calls Tryz.prog 185 #[.int .i64 (n:Int),.int .i64 (k:Int)] V (Dz (ints (unit T k)) V) from by
  have h:=Hf.PM n k c8 C V;rw[show unit T k=(List.replicate n 0).set k 1 by rw[unit,AJ.one,O]];exact h)
 have d0:=AB (λk (C:k<n)=>Gt hT (unit T k) (Af (Sq.ku (by rw[O];exact C))));have b9:=AB (λ(V:World) (C:Keep Any B V) (v:Value) (k:Nat) (a8:k<n) (hv:AP Any V v (ints (unit T k)))=>show Calls Tryz.prog 188 #[.agg #[.slice U n Z,J,K],v,Y] V (Dz (ints (Ay T (unit T k) x)) V) from UE T hT a6 b5 V (.slice U n Z) J K v Y (unit T k) x (i.AA V C).1 hv (i.AA V C).2 (d0.AA k a8) hE);have c7:=AB (λk=>show(JE T x (k+1)).map ints=(JE T x k).map ints++[ints (Ay T (unit T k) x)] by rw[jX];simp);have d4:=AB (show JE T x n=inn T x by rw[<-O];exact lM T x);obtain⟨⟨p0,p1,p2⟩,l0⟩:=a1.AA B AY;clear j hx hE gT hT a6 b5 c9 N d9 b7 O;go_enter Tryz.func130,Tryz.ntmps130;go_upto_region 1 with fail;rw[<-Q];clear Q a3;go_upto_region 3 with(go_at_call 187;refine d7.AA.mono ?_;rintro e p ⟨r,rfl,z,b8⟩;obtain rfl:r=true:=z.2 d5.AA;have a2:=AB b8;clear z b8);have b0:=AB (BL.lit p);have a9:=AB (show Below p.heap.size p (p.alloc (.cells #[] 24)) from AY.alloc AV _);go_wp2_with fail;go_loopw [6,7] (λov iv wr=>∃(l:Nat) (a:Option Addr) (c:Nat),l<=n/\ov= .slice a l c/\iv= .int .i64 (l:Int)/\Hid (BL B.heap.size wr (.slice a l c) ((JE T x l).map ints))/\Hid (Below B.heap.size B wr)) (λ_ iv _=>n-(intOf iv).toNat);case atStart=>exact⟨0,_,_,AX _,rfl,rfl,AB (BL.mono b0.AA a2.AA.size),AB (a2.AA.trans (a9.AA.mono a2.AA.size))⟩
 case round=>
  obtain⟨l,a,c',a8,rfl,rfl,d,b⟩:=hrel;clear p0 p1 p2 b0 a9 l0;obtain⟨⟨p0,p1,p2⟩,l0⟩:=a1.AA wr b.AA;by_cases s:l<n
  .have HU:=AB (λ(V:World)=>c4.AA V l s);have HC:=AB (λ(V:World) (C:Keep Any B V) (v:Value) (hv:AP Any V v (ints (unit T l)))=>b9.AA V C v l s hv);have d1:=AB (c7.AA l);have e2:(l:Int)<(n:Int):=by omega
   have e3:(0:Int)<=(l:Int):=by omega
   have b3:=AB s;have b6:=AB (lK T x l);obtain⟨us,y,h2,h4⟩:=d.AA;rw[BC,b6.AA]at y;have b1:=AB (And.intro h2 h4);have X:=AB y;have F:=AB b.AA;obtain⟨q,hq⟩:∃q,(ints (Ay T (unit T l) x)).length=q:=⟨_,rfl⟩;have HQ:=AB hq;clear s y h2 h4 d b hq;go_upto_region 7 with fail;go_region_law (first|(go_simp;go_at_call 185;refine(HU.AA _).mono ?_;rintro e w4 ⟨v4,rfl,b4,a7⟩;have I:=AB (show Below wr.heap.size wr w4 from by first|exact a7|exact(Df.GA AY ⟨1,rfl⟩).trans a7);have d2:=AB (λ(V:World) (C:Keep Any w4 V)=>HC.AA V ((AO (F.AA.trans (I.AA.mono F.AA.size))).trans C) v4 ((b4.sl.mono λ_ _=>trivial).keep C));obtain⟨⟨c0,c1,c2⟩,k4⟩:=a1.AA w4 (F.AA.trans (I.AA.mono F.AA.size));clear b4 a7)|(go_simp;go_at_call 188;refine(d2.AA _ (by first|exact AL.drew|exact AL)).mono ?_;rintro e L ⟨v5,rfl,a0,a4⟩;have D:=AB (show Below wr.heap.size wr L from by first|exact I.AA.trans (a4.mono I.AA.size)|exact(Df.GA I.AA ⟨1,rfl⟩).trans (a4.mono I.AA.size));obtain⟨a5,c5,rfl,_,_⟩:=Am.form a0.sl;rw[HQ.AA]at a0 ⊢; obtain⟨⟨c0,c1,c2⟩,k5⟩:=a1.AA L (F.AA.trans (D.AA.mono F.AA.size));have e0:=AB (show Own B.heap.size L (.slice a5 q c5) (ints (Ay T (unit T l) x)) from KT a0 (Ae F.AA.size I.AA.size));clear a0 a4)|(refine Ja _ (by rfl) _ _ _ (by rfl) B.heap.size 24 j0 (.slice none 0 0) 1 24 Tryz.underlying25 hj d3 c3 d8 rfl (by decide) _ l us (by rfl) (Aw X.AA (S:=Any) (by first|exact(AO D.AA).alloc _|exact((AO D.AA).alloc _).drew|exact((AO D.AA).drew).alloc _) (λ_ _=>trivial)) ⟨L.heap.size,0,none⟩ 1 1 [.slice a5 q c5] (by rfl) (by rfl) (Cw (cs:= #[.slice a5 q c5]) (t:=24) (fr:=(0,0)) (by first|exact Aj L _|exact Aj L.drew _)) (by simp[Value.oneCell']) (by omega) (by unfold maxLen;omega) (by omega) (by have y:=F.AA.size;have h2:=D.AA.size;simp;omega) _ rfl ?_;intro g6 c6 w6 b2 R _ _;have e1:=AB (show BL B.heap.size w6 (.slice (some ⟨g6,0,none⟩) (l+1) c6) ((JE T x (l+1)).map ints) from by rw[d1.AA];exact BL.push (us:=us) (by rw[BC];exact b6.AA) (Aw X.AA (S:=Any) (by first|exact(AO D.AA).alloc _|exact((AO D.AA).alloc _).drew|exact((AO D.AA).drew).alloc _) (λ_ _=>trivial)) b1.AA.1 (λk r u z hu=>Aw (b1.AA.2 k r u z hu) (S:=Any) (by first|exact(AO D.AA).alloc _|exact((AO D.AA).alloc _).drew|exact((AO D.AA).drew).alloc _) (λ_ _=>trivial)) (Aw e0.AA (S:=Any) (by first|exact Ab|exact AL|exact AL.drew.alloc _) (λ_ _=>trivial)) b2 R);have d6:=AB (show Below B.heap.size B w6 from by have hz:B.heap.size<=L.heap.size:=Ae F.AA.size D.AA.size;have hb:=F.AA.trans (D.AA.mono F.AA.size);first|exact(hb.alloc hz _).grown R (by simp;omega) (λg hg=>(Aq X.AA g hg).1)|exact((hb.alloc hz _).drew).grown R (by simp;omega) (λg hg=>(Aq X.AA g hg).1)|exact(hb.drew.alloc hz _).grown R (by simp;omega) (λg hg=>(Aq X.AA g hg).1));clear b2 R)|fail);all_goals
    go_wp2_with fail;go_roundw;case rel=>exact⟨l+1,_,_,b3.AA,by go_num,by go_num,e1,d6⟩
    case measure=>have:=b3.AA;simp[intOf];omega
  .obtain rfl:l=n:=by omega
   have e4:¬(l:Int)<(l:Int):=by omega
   have HF:=AB (And.intro (show BL w.heap.size wr (.slice a l c') ((inn T x).map ints) from by
    have h:=d.AA;rw[d4.AA]at h;exact BL.mono h HW.AA) (HB.AA _ b.AA))
   clear d b;go_wp2_with fail;go_ret2;exact⟨_,_,_,rfl,HF.AA.1,HF.AA.2⟩
end eU
namespace eX
open RowKit AJ Val BN CL Bv Bl Dk EF Ll Gj Dn Ih eQ eU
open BU(Any)
open Bj(Aa)
def Oe (g:Nat)(a:Option Addr)(len cap:Nat)(w:World)(e:Ending)(w':World):Prop:=
 ∃(B:Option Addr) (n c:Nat) (L:List (List Int)),e= .returned (.slice B n c)/\AQ (λk=>w.heap.size<=k) w' (.slice B n c) L/\Sr g a len cap w w'
theorem lN {T:Tw}(hT:Wf T)(hg:AJ.Good T)(B:GQ T):0<(Bo T T T.length []).length:=
 List.length_pos_of_mem ((Qh hT hg hT hg B _).2 (MS hT hg))
theorem gY (T:Tw)(y:Ba.BR (AZ T))(w:World)(g:Nat)(a:Option Addr)(len cap:Nat)(vO J F:Value)(hS:Sr g a len cap w w)(hP:Av (λk=>k≠g) w vO J F (AZ T)):
  Calls Tryz.prog 73 #[.pointer (some ⟨g,0,none⟩),.agg #[vO,J,F]] w (Oe g a len cap w):=by
 obtain⟨hT,a4,b6,b4⟩:=EM.FJ y;obtain⟨n,hn⟩:∃n,T.length=n:=⟨_,rfl⟩;have d5:n<=6:=by rw[<-hn];exact a4.1
 obtain⟨N,K,rfl,_,_⟩:=Am.form hP.os;rw[Jv,hn]at hP ⊢;have c3:=hS.lt;obtain⟨B,l⟩:∃B,B=w.alloc (.cells #[.slice N n K,J,F] 28):=⟨_,rfl⟩;obtain⟨U,a0⟩:∃U,w.heap.size=U:=⟨_,rfl⟩;have c4:B.heap.size=U+1:=by rw[l,<-a0];simp
 have Y:=AB (show Sr g a len cap w B by rw[l];exact hS.alloc _);have s:=AB (show Sr g a len cap B B from⟨Y.AA.1,Y.AA.2.1,Ez _ _⟩);have e6:B.heap[U]?=some (.cells #[.slice N n K,J,F] 28 (0,0)):=by rw[l,<-a0];exact Aj w _
 have e5:Av (λk=>k≠g) B (.slice N n K) J F (AZ T):=hP.keep (Keep.grown Y.AA.2.2 λk C e=>C (by injection e));have f8:=AB (λ(V:World) (h:Sr g a len cap B V)=>show Keep (λk=>k≠g) B V from Keep.grown h.2.2 λk C e=>C (by injection e));have I:=AB (λ(V:World) (h:Sr g a len cap B V)=>And.intro (Aa ((h.2.2.block U (by omega) (by intro e;injection e;omega)).trans e6)).1 (And.intro (show U<V.heap.size by have:=h.2.2.size;omega) (e5.keep (f8.AA V h))));have c5:=AB (λ(V:World) (h:Sr g a len cap B V)=>(And.intro h.1 (And.intro h.2.1 (Ez V (some g))):Sr g a len cap V V));have e8:=AB (λ(V:World) (h:Sr g a len cap B V)=>lJ T (λi L hL=>(En hT hL).2.2.2.2) n hn d5 V g a len cap N K J F (c5.AA V h) (I.AA V h).2.2.os);have f2:=AB (λ(V:World) (h:Sr g a len cap B V) (v:Value) (x:List Nat) (hx:AP Any V v (ints x)) (hE:El T x)=>iN T y V (.slice N n K) J F v x ((I.AA V h).2.2.mono λ_ _=>trivial) hx hE);have a7:=AB (λ(V:World) (h:Sr g a len cap B V)=>Ca.Gs T (QL.RU y).1 V (.slice N n K) J F (by have h:=(((I.AA V h).2.2.mono (S':=Any) λ_ _=>trivial)).os;rwa[Ca.NU]at h));have d3:=AB (λx W (h:Sr g a len cap B W)=>GX x g a len cap B W h);have b1:=AB (λ(V:World) (h:Sr g a len cap B V) (Q:sz T<=12)=>EM.jK T T hT a4 hT a4 b6 b4 (by omega) V (.slice N n K) J F (.slice N n K) J F ((I.AA V h).2.2.mono λ_ _=>trivial) ((I.AA V h).2.2.mono λ_ _=>trivial));have d4:=AB (lN hT b6 b4);have p:=AB (And.intro c4 (And.intro a0 c3));obtain⟨z,Q⟩:∃z,sz T=z:=⟨_,rfl⟩;rw[Q]at a7 b1;obtain⟨R,hR⟩:∃R,Bo T T T.length []=R:=⟨_,rfl⟩;rw[hR]at b1 d4;obtain⟨⟨p0,p1,p2⟩,l0,-⟩:=I.AA B s.AA;clear hP hS hT a4 b6 b4 y hn d5 c3 c4 e6 e5 Q hR;go_enter Tryz.func73,Tryz.ntmps73;go_upto_region 1 with fail;rw[<-l];clear l a0;go_region_law (first|(go_simp;go_at_call 131;refine(e8.AA _ (by first|exact s.AA|exact s.AA.drew)).mono ?_;rintro e w1 ⟨gv,nv,cv,x,rfl,e9,e2,c8,b5⟩;have S:=AB (show Sr g a len cap B w1 from by first|exact s.AA.tr b5|exact s.AA.drew.tr b5);have c9:=AB (show AP Any w1 (.slice gv nv cv) (ints x) from(Own.sl (by unfold Own;rw[BK];exact e2)).mono λ_ _=>trivial);have f5:=AB c8;obtain⟨⟨c0,c1,c2⟩,k1,-⟩:=I.AA w1 S.AA;clear e9 e2 c8 b5)|(go_simp;go_at_call 130;refine(f2.AA _ (by first|exact S.AA|exact S.AA.drew) (.slice gv nv cv) x (by first|exact c9.AA|exact c9.AA.keep AL.drew) f5.AA).mono ?_;rintro e O ⟨aI,nI,cI,rfl,b8,b2⟩;have D:=AB (show Sr g a len cap B O from by first|exact S.AA.below b2|exact S.AA.drew.below b2);have f1:=AB (show AQ (λk=>w.heap.size<=k) O (.slice aI nI cI) ((inn T x).map ints) from AQ.mono b8.sl (λk C=>by have h1:=S.AA.2.2.size;have h2:=p.AA;have h3:w1.heap.size<=k:=C;omega));obtain⟨⟨d0,d1,d2⟩,k2,-⟩:=I.AA O D.AA;clear b8 b2));all_goals
  (have d7:=AB (λ(V:World) (h:Sr g a len cap O V)=>show Oe g a len cap w (.returned (.slice aI nI cI)) V from⟨_,_,_,_,rfl,AQ.keep f1.AA (Keep.grown h.2.2 λk C e=>by injection e with e;have:=p.AA;omega),(Y.AA.tr D.AA).tr h⟩)
   have e7:=AB (show Sr g a len cap O O from c5.AA O D.AA);by_cases Q:z<=12
   .have hd:decide ((z:Int)<=12)=true:=by simp;omega
    have HZ:=AB Q;clear Q;go_wp2_with fail;refine(a7.AA _ (by first|exact D.AA|exact D.AA.drew)).mono ?_;rintro e Z ⟨rfl,d⟩;have a8:=AB (show Sr g a len cap O Z from by first|exact Sr.below e7.AA d);obtain⟨⟨d0,d1,d2⟩,k3,-⟩:=I.AA Z (D.AA.tr a8.AA);clear d;go_wp2_with fail;refine(d3.AA 2 Z (D.AA.tr a8.AA)).mono ?_;rintro e j ⟨r,rfl,hr,e0⟩;have b3:=AB (a8.AA.tr e0);have a1:=AB (D.AA.tr b3.AA);obtain⟨⟨d0,d1,d2⟩,k4,-⟩:=I.AA j a1.AA;clear e0 hr;rcases Nat.eq_zero_or_pos r with h0|h0
    .have f6:((r:Int)==0)=true:=by simp;omega
     have f4:=AB (b1.AA j a1.AA HZ.AA);clear h0;go_wp2_with (go_at_call 58;refine f4.AA.mono ?_;rintro e w5 ⟨vF,rfl,hF,e4⟩;obtain⟨aF,cF,rfl,_,_⟩:=hF.form;have d8:=AB hF;have c7:=AB (b3.AA.below e4);obtain⟨nF,a6⟩:∃m,R.length=m:=⟨_,rfl⟩;have b0:=AB a6;rw[a6]at d8 ⊢; clear hF e4 a6);refine(d3.AA nF w5 (D.AA.tr c7.AA)).mono ?_;rintro e w6 ⟨q,rfl,hq,a3⟩;have f7:q<nF:=by have:=d4.AA;have:=b0.AA;omega
     obtain⟨rows,d6⟩:∃rows,R[q]?=some rows:=⟨_,AU (by rw[b0.AA];exact f7)⟩;obtain⟨gF,g1,u,eF,f3,e3,e1,a5⟩:=Go.Proofs.YtgjadpmbnejaoaaGreat.Rx.Own3.at d8.AA d6;rw[b0.AA]at eF;cases eF;obtain⟨a2,c2,rfl,_,_⟩:=a5.form;have b7:∀k,j.heap.size<=k->k≠g:=λk C e=>by
      have h1:=a1.AA.2.2.size;have h2:=p.AA;omega
     have a9:Keep (λk=>k≠g) w5 w6:=Keep.grown a3.2.2 λk C e=>C (by injection e);have b9:Keep (λk=>w.heap.size<=k) w5 w6:=Keep.grown a3.2.2 λk C e=>by injection e with e;have:=p.AA;omega
     have d9:∀k,j.heap.size<=k->w.heap.size<=k:=λk C=>by
      have h1:=a1.AA.2.2.size;have h2:=p.AA;omega
     have f0:=(a9.cell (b:=gF) (o:=q) (b7 _ f3) e3).trans e1;have g0:=Ah e3 a9.size;have f9:(0:Int)<=(q:Int):=by omega
     have g2:(q:Int)<(nF:Int):=by omega
     have X:=AB (show Oe g a len cap w (.returned (.slice a2 rows.length c2)) w6 from⟨_,_,_,_,rfl,AQ.keep (AQ.mono a5.sl (λk C=>d9 k C)) b9,(Y.AA.tr D.AA).tr (c7.AA.tr a3)⟩);obtain⟨m2,c6⟩:∃m,rows.length=m:=⟨_,rfl⟩;rw[c6]at X f0;clear a3 hq d6 a5 e1 c6 b7 a9 b9 d9;go_wp2_with fail;go_ret;exact X.AA
    .have f6:((r:Int)==0)=false:=by simp;omega
     have X:=AB (d7.AA j b3.AA);clear h0;go_wp2_with fail;go_ret;exact X.AA
   .have hd:decide ((z:Int)<=12)=false:=by simp;omega
    clear Q;go_wp2_with fail;refine(a7.AA _ (by first|exact D.AA|exact D.AA.drew)).mono ?_;rintro e Z ⟨rfl,d⟩;have X:=AB (d7.AA Z (by first|exact Sr.below e7.AA d));clear d;go_wp2_with fail;go_ret;exact X.AA)
end eX
namespace eY
open RowKit AJ Val BN CL GK Dk EF Bv Bl Dn Ih Vm eX
open BU(Any)
open Bj(Aa)
open Df(Iu)
theorem sH {B g:Nat}{w w':World}{v:Value}{L:List (List Int)}(h:BL B w v L)(hg:w.grownBy w' (some g))(N:g<B):BL B w' v L:=by
 obtain⟨us,K,D,J⟩:=h;have C:Keep (λk=>k≠g) w w':=Keep.grown hg λk C e=>C (by injection e);exact⟨us,Aw K C (λk C=>by omega),D,λi r u F I=>Aw (J i r u F I) C (λk C=>by omega)⟩
theorem iO (w:World)(g:Nat)(a:Option Addr)(len cap:Nat)(vO I J:Value)(P:BZ)(C:Sr g a len cap w w)(hP:Av (λk=>k≠g) w vO I J P)(hl:P.os.length<=1000):
  Calls Tryz.prog 31 #[.pointer (some ⟨g,0,none⟩),.agg #[vO,I,J]] w (Oe g a len cap w):=by
 obtain⟨j0,S,d3,d1,d5⟩:=Bd Iu;obtain⟨n,hn⟩:∃n,P.os.length=n:=⟨_,rfl⟩;obtain⟨Q,U,rfl,_,_⟩:=Am.form hP.os;rw[hn]at hP hl ⊢;have b2:=C.lt;obtain⟨B,Y⟩:∃B,B=w.alloc (.cells #[.slice Q n U,I,J] 28):=⟨_,rfl⟩;obtain⟨R,a0⟩:∃R,w.heap.size=R:=⟨_,rfl⟩;have b3:B.heap.size=R+1:=by rw[Y,<-a0];simp
 have Z:=AB (show Sr g a len cap w B by rw[Y];exact C.alloc _);have d:=AB (show Sr g a len cap B B from⟨Z.AA.1,Z.AA.2.1,Ez _ _⟩);have c7:B.heap[R]?=some (.cells #[.slice Q n U,I,J] 28 (0,0)):=by rw[Y,<-a0];exact Aj w _
 have b9:Av (λk=>k≠g) B (.slice Q n U) I J P:=hP.keep (Keep.grown Z.AA.2.2 λk K e=>K (by injection e));have d9:=AB (λ(V:World) (h:Sr g a len cap B V)=>show Keep (λk=>k≠g) B V from Keep.grown h.2.2 λk K e=>K (by injection e));have X:=AB (λ(V:World) (h:Sr g a len cap B V)=>And.intro (Aa ((h.2.2.block R (by omega) (by intro e;injection e;omega)).trans c7)).1 (And.intro (show R<V.heap.size by have:=h.2.2.size;omega) (b9.keep (d9.AA V h))));have b5:=AB (λ(V:World) (h:Sr g a len cap B V)=>(And.intro h.1 (And.intro h.2.1 (Ez V (some g))):Sr g a len cap V V));have d2:=AB (λ(V:World) (h:Sr g a len cap B V)=>pX P.os n hn hl V g a len cap Q U I J (b5.AA V h) (X.AA V h).2.2.os);have d8:=AB (λ(T:Tw) (gT:Ba.BR (AZ T)) (e:P=AZ T) (V:World) (h:Sr g a len cap B V)=>gY T gT V g a len cap (.slice Q n U) I J (b5.AA V h) (by rw[<-e];exact(X.AA V h).2.2));have HG:=AB (Ry.LA B (.slice Q n U) I J P ((X.AA B d.AA).2.2.mono λ_ _=>trivial));have b0:=AB (λx W (h:Sr g a len cap B W)=>GX x g a len cap B W h);have a5:=AB (And.intro b3 (And.intro a0 b2));have HL:=AB hl;obtain⟨⟨p0,p1,p⟩,y,-⟩:=X.AA B d.AA;obtain⟨gp,c9⟩:∃r:Bool,(r=true↔Ba.BR P):=by
  by_cases h:Ba.BR P
  .exact⟨true,λ_=>h,λ_=>rfl⟩
  .exact⟨false,λe=>Bool.noConfusion e,λe=>absurd e h⟩
 have a4:=AB c9;clear hP C hn b2 b3 c7 b9 c9;go_enter Tryz.func31,Tryz.ntmps31;go_upto_region 1 with fail;rw[<-Y];clear Y a0;go_cut [14] (λv wx=>Sr g a len cap B wx/\(v= .bool true\/(v= .bool false/\Ba.BR P)));case first=>
  cases gp with
  |false=>
   go_wp2_with (go_at_call 71;refine HG.AA.mono ?_;rintro e w1 ⟨r,rfl,F,i⟩;obtain rfl:r=false:=(by cases r with|false=>rfl|true=>exact(a4.AA.2 (F.1 rfl)).symm);have D:=AB (d.AA.below i);clear F i);go_meet;exact⟨D.AA,.inl rfl⟩
  |true=>
   go_wp2_with (go_at_call 71;refine HG.AA.mono ?_;rintro e w1 ⟨r,rfl,F,i⟩;obtain rfl:r=true:=F.2 (a4.AA.1 (by trivial));have D:=AB (d.AA.below i);clear F i);refine(b0.AA 25 w1 D.AA).mono ?_;rintro e w2 ⟨r,rfl,F,b4⟩;have b7:=AB (D.AA.tr b4);clear b4 F;rcases Nat.eq_zero_or_pos r with h0|h0
   .have hd:((r:Int)==0)=true:=by simp;omega
    clear h0;go_wp2_with fail;go_meet;exact⟨b7.AA,.inl (by simp[hd])⟩
   .have hd:((r:Int)==0)=false:=by simp;omega
    clear h0;go_wp2_with fail;go_meet;exact⟨b7.AA,.inr ⟨by simp[hd],a4.AA.1 (by trivial)⟩⟩
 case rest=>
  obtain⟨a8,hv⟩:=hcut;have D:=AB a8;clear p0 p1 p y b0;obtain⟨⟨p0,p1,p⟩,y,-⟩:=X.AA wc a8;clear a8;rcases hv with rfl|⟨rfl,gP⟩
  .have b1:=AB (BL.mono (BL.lit wc) D.AA.2.2.size);have c8:=AB (show Sr g a len cap B (wc.alloc (.cells #[] 24)) from D.AA.alloc _);go_wp2_with fail;go_loopw [5,6] (λov iv wr=>∃(l:Nat) (ax:Option Addr) (c:Nat) (L:List (List Int)),l<=n/\ov= .slice ax l c/\iv= .int .i64 (l:Int)/\Hid (L.length=l/\BL B.heap.size wr (.slice ax l c) L)/\Hid (Sr g a len cap B wr)) (λ_ iv _=>n-(intOf iv).toNat);case atStart=>exact⟨0,_,_,[],AX _,rfl,rfl,AB ⟨rfl,b1.AA⟩,c8⟩
   case round=>
    obtain⟨l,ax,c,L,e1,rfl,rfl,O,C⟩:=hrel;clear p0 p1 p y b1 c8;obtain⟨⟨p0,p1,p⟩,y,-⟩:=X.AA wr C.AA;by_cases b6:l<n
    .have HC:=AB (d2.AA wr C.AA);have e0:(l:Int)<(n:Int):=by omega
     have e3:(0:Int)<=(l:Int):=by omega
     have a2:=AB b6;clear b6;go_wp2_with (first|(go_at_call 72;refine HC.AA.mono ?_;rintro e b ⟨v3,s,rfl,a1,e5,N⟩;obtain⟨a3,c3,rfl,_,_⟩:=Am.form (sI a1);obtain⟨q,hq⟩:∃q,s.length=q:=⟨_,rfl⟩;rw[hq]at a1 ⊢; have c0:=AB (C.AA.tr N);have d0:=AB (show Own B.heap.size b (.slice a3 q c3) s from by have h:=KT a1 C.AA.2.2.size;exact h);obtain⟨us,h1,h2,h4⟩:=sH O.AA.2 N.2.2 (by have:=a5.AA;omega);rw[O.AA.1]at h1;have HU:=AB (And.intro h2 h4);have H1:=AB h1;have b8:=AB O.AA.1;clear a1 hq N h2 h4 h1)|(at_builtin;(refine DR _ rfl _ _ 25 rfl B.heap.size 24 j0 (.slice none 0 0) 1 24 Tryz.underlying25 S d3 d1 d5 rfl (by decide) _ _ _ rfl (H1.AA.alloc _) ⟨b.heap.size,0,none⟩ 1 1 [.slice a3 q c3] rfl rfl ?c1 ?c2 ?c3 ?c4 ?c5 ?_)));case c1=>
      intro j u S
      match j,S with
      |0,S=>simp at S;subst S;simp[Addr.add]
     case c2=>intro u z;simp at z;subst z;rfl
     case c3=>have:=a2.AA;have:=HL.AA;unfold maxLen;omega
     case c4=>have:=a2.AA;omega
     case c5=>have:=c0.AA.2.2.size;simp;omega
     .intro v' w6 a7 a9 _;obtain⟨a6,c6,rfl,_,_⟩:∃a6 c6,v'= .slice a6 (l+1) c6/\True/\True:=by
       rcases a7.2 with⟨e,h0⟩|⟨g',d4,e2,e,_⟩
       .omega
       .exact⟨_,d4,e,trivial,trivial⟩
      have d7:=AB (show(L++[s]).length=l+1/\BL B.heap.size w6 (.slice a6 (l+1) c6) (L++[s]) from⟨by rw[Bc,b8.AA];rfl,BL.push (w:=b.alloc _) (us:=us) b8.AA (H1.AA.alloc _) HU.AA.1 (λk r u F z=>(HU.AA.2 k r u F z).alloc _) (d0.AA.alloc _) a7 a9⟩);have d6:=AB (show Sr g a len cap B w6 from(c0.AA.alloc _).own d.AA a9 (λq hq=>(Aq H1.AA q hq).1));clear a7 a9 O C;go_wp2_with fail;go_roundw;case rel=>exact⟨l+1,_,_,_,a2.AA,rfl,by go_num,d7,d6⟩
      case measure=>have:=a2.AA;simp[intOf];omega
    .obtain rfl:l=n:=by omega
     have e4:¬(l:Int)<(l:Int):=by omega
     have HF:=AB (show Oe g a len cap w (.returned (.slice ax l c)) wr from⟨_,_,_,L,rfl,AQ.mono O.AA.2.sl (λk K=>by have:=a5.AA;have h3:B.heap.size<=k:=K;omega),Z.AA.tr C.AA⟩);clear O C;go_wp2_with fail;go_ret;exact HF.AA
  .obtain⟨T,eT,gT⟩:∃T,P=AZ T/\Ba.BR (AZ T):=by
    obtain⟨T,_,_,e,_⟩:=id gP;exact⟨T,e,by rw[<-e];exact gP⟩
   have HC:=AB (d8.AA T gT eT wc D.AA);clear gT eT gP;go_wp2_with (go_at_call 73;refine HC.AA.mono ?_;rintro e b ⟨va,nv,cv,L,rfl,hL,N⟩;have HF:=AB (show Oe g a len cap w (.returned (.slice va nv cv)) b from⟨_,_,_,L,rfl,AQ.mono hL (λk K=>by have h1:=D.AA.2.2.size;have h2:=a5.AA;have h3:wc.heap.size<=k:=K;omega),Z.AA.tr (D.AA.tr N)⟩);clear hL N);go_ret;exact HF.AA
end eY
namespace eZ
open RowKit AJ Bv Cr Bj KL Jm
theorem Yb {α:Type}{n:Nat}{R:Nat->α->Prop}(h:∀i:Fin n,∃x,R i.1 x):∃B:List α,B.length=n/\∀(i:Nat) x,B[i]?=some x->R i x:=
 ⟨(List.finRange n).map λi=>Classical.choose (h i),by simp,λi x C=>by
  obtain⟨hi,rfl⟩:=fin_at _ C;exact Kk (h ⟨i,hi⟩)⟩
theorem A1.sl {B:Nat}{w:World}{v:Value}(h:A1 B w v):∃l:List Int,AP (λk=>B<=k) w v l:=by
 obtain⟨n,_,h⟩:=h;obtain⟨l,_,h⟩:=h.sl;exact⟨l,h⟩
theorem A2.sl {B k:Nat}{w:World}{v:Value}(h:A2 B w k v):∃l:List (List Int),AQ (λk=>B<=k) w v l:=by
 obtain⟨us,L,F,I⟩:=h;obtain⟨C,D,J⟩:=Yb (R:=λi x=>∃u,us[i]?=some u/\AP (λk=>B<=k) w u x) λi:Fin k=>by
  have hi:i.1<us.length:=by rw[L];exact i.2
  obtain⟨l,K⟩:=A1.sl (I i.1 _ (AU hi));exact⟨l,_,AU hi,K⟩
 exact⟨C,RD F C D J⟩
theorem A3.sl {B:Nat}{K:List Nat}{w:World}{v:Value}(h:A3 B w K v):∃l:List (List (List Int)),FR (λk=>B<=k) w v l:=by
 obtain⟨us,N,F,I⟩:=h;obtain⟨C,D,J⟩:=Yb (R:=λi x=>∃u,us[i]?=some u/\AQ (λk=>B<=k) w u x) λi:Fin K.length=>by
  have hi:i.1<us.length:=by rw[N];exact i.2
  obtain⟨l,L⟩:=A2.sl (I i.1 _ _ (AU hi) (AU i.2));exact⟨l,_,AU hi,L⟩
 exact⟨C,RD F C D J⟩
theorem sJ {B:Nat}{w:World}{J L I:Value}(h:PA B w J L I):∃P:BZ,Av (λk=>B<=k) w J L I P:=by
 obtain⟨D,⟨k,C⟩,⟨K,F⟩⟩:=h;obtain⟨a,D⟩:=A1.sl D;obtain⟨b,C⟩:=A2.sl C;obtain⟨c,F⟩:=A3.sl F;exact⟨⟨a,b,c⟩,D,C,F⟩
end eZ
namespace ek
open RowKit AJ Bv Bl Ch Cr Bj EH KM KN Ih KL NI Ot QV fA Vm
def VQ (w:World)(e:Ending)(w':World):Prop:=∃(Q I C V N:Option Addr) (O L D F U K R S B J:Nat) (P:BZ) (W l:List (List Int)),e= .returned (.tuple #[.agg #[.slice Q O F,.slice I L U,.slice C D K],.slice V R S,.slice N B J])/\Av Any w' (.slice Q O F) (.slice I L U) (.slice C D K) P/\AQ Any w' (.slice V R S) W/\AQ Any w' (.slice N B J) l/\Below w.heap.size w w'
theorem pY (w:World)(a:Option Addr)(len cap:Nat)(hl:len<=4096)(hR:KO w a len):Calls Tryz.prog 6 #[.slice a len cap] w (VQ w):=by
 obtain⟨D,a5⟩:∃D,w.heap.size=D:=⟨_,rfl⟩;obtain⟨F,j⟩:∃F,F=w.alloc CV:=⟨_,rfl⟩;have a0:Keep Any w F:=by rw[j];exact AL.alloc _
 have b0:F.heap.size=D+1:=by rw[j,<-a5];simp
 have b1:=AB (show Below w.heap.size w F by rw[j];exact AY.alloc AV _);have hz:F.heap[D]?=some CV:=by rw[j,<-a5];exact Aj w _
 have HC:=AB (PN F a len cap hl (λi hi=>by
  obtain⟨b,o,z,h1,O,h4,h5⟩:=hR i hi;exact⟨b,o,z,h1,Ah O a0.size,by rw[a0.cell trivial O];exact h4,h5⟩))
 have HR:=AB (show KO F a len from λi hi=>by
  obtain⟨b,o,z,h1,O,h4,h5⟩:=hR i hi;exact⟨b,o,z,h1,Ah O a0.size,by rw[a0.cell trivial O];exact h4,h5⟩)
 have HZ:=AB hz;have a4:=AB b0;have c1:=AB a5;clear hl hR a0 hz b0;go_enter Tryz.func6,Tryz.ntmps6;go_upto_region 1 with fail;rw[<-j];clear j a5;go_upto_region 3 with(first|(go_at_call 29;refine HC.AA.mono ?_;rintro e d ⟨g,rfl,hg,B,hb⟩;have a1:=AB (show Sr g a len cap d d from⟨B,HR.AA.rd hb hg,Ez _ _⟩);have a2:=AB hb;have c4:=AB hg;clear hg B hb)|(go_at_call 30;refine(fB.UI 48 g a len cap d a1.AA).mono ?_;rintro e w3 ⟨R,Q,K,J,V,L,U,X,N,rfl,hp,Y⟩));obtain⟨P,hP⟩:=eZ.sJ hp;have a8:P.os.length=J/\J<=1000:=by
  obtain⟨n,hn,h⟩:=hp.1;obtain⟨l,hl,h⟩:=h.sl;obtain⟨_,_,e,_⟩:=Cz h;obtain⟨_,_,e',_⟩:=Cz hP.1;injection e with _ e _;injection e' with _ e' _;exact⟨e'.symm,by omega⟩
 obtain⟨gp,a7⟩:∃gp,w3.heap.size=gp:=⟨_,rfl⟩;obtain⟨C,u⟩:∃C,C=w3.alloc (.cells #[.slice R J U,.slice Q V X,.slice K L N] 28):=⟨_,rfl⟩;rw[<-u,a7];have a3:=AB (show Sr g a len cap d C by rw[u];exact Y.alloc _);have c3:=AB (show Av (λk=>d.heap.size<=k) C (.slice R J U) (.slice Q V X) (.slice K L N) P by
  rw[u];exact hP.keep ((Keep.refl _ w3).alloc _))
 have a6:=AB (show C.heap[gp]?=some (.cells #[.slice R J U,.slice Q V X,.slice K L N] 28 (0,0)) by
  rw[u,<-a7];exact Aj _ _)
 have b9:d.heap.size<=gp:=by rw[<-a7];exact Y.2.2.size
 have b3:=AB (Sr.here a3.AA);have r:=AB (λ(W:World) (B:Sr g a len cap C W)=>And.intro ((B.2.2.block gp (Bt.1 a6.AA).1 (λe=>by injection e with e;have:=a1.AA.lt;omega)).trans a6.AA)
  (show Av (λk=>d.heap.size<=k) W (.slice R J U) (.slice Q V X) (.slice K L N) P from c3.AA.keep (Keep.grown B.2.2 λk I e=>by injection e with e;have:=a1.AA.lt;omega)))
 have a9:=AB (λ(W:World) (B:Sr g a len cap C W)=>show Below F.heap.size F W from a2.AA.grown (Jd a3.AA.2.2 B.2.2) a2.AA.size (by intro k I;cases I;exact c4.AA));have HK:=AB (λ(W:World) (B:Sr g a len cap C W)=>And.intro (((a9.AA W B).block D (by have:=a4.AA;omega)).trans HZ.AA) (show D<W.heap.size by have:=(a9.AA W B).size;have:=a4.AA;omega));have b6:w.heap.size<=F.heap.size:=b1.AA.size;have HF:=AB (λ(W:World) (B:Sr g a len cap C W) (aA aV:Option Addr) (nA cA s cV:Nat) (la l:List (List Int)) (ha:AQ (λk=>F.heap.size<=k) W (.slice aA nA cA) la) (hq:AQ (λk=>F.heap.size<=k) W (.slice aV s cV) l)=>
  show VQ w (.returned (.tuple #[.agg #[.slice R J U,.slice Q V X,.slice K L N],.slice aA nA cA,.slice aV s cV])) (((W.setCell ⟨D,0,none⟩ (.slice R J U)).setCell ⟨D,1,none⟩ (.slice Q V X)).setCell ⟨D,2,none⟩ (.slice K L N)) from by
  have hB:Below w.heap.size w W:=b1.AA.trans ((a9.AA W B).mono b6);have h0:=c1.AA;have h1:=a4.AA;have h2:=a2.AA.size;have I:∀S:Nat->Prop,(∀k,S k->D+1<=k)->Keep S W (((W.setCell ⟨D,0,none⟩ (.slice R J U)).setCell ⟨D,1,none⟩ (.slice Q V X)).setCell ⟨D,2,none⟩ (.slice K L N)):=λS B=>(((Keep.refl _ W).setCell (λh=>LY _ (B _ h)) _).setCell (λh=>LY _ (B _ h)) _).setCell (λh=>LY _ (B _ h)) _;refine⟨_,_,_,_,_,_,_,_,_,_,_,_,_,_,_,P,la,l,rfl,((r.AA W B).2.keep (I _ λk h=>by omega)).mono λ_ _=>trivial,AQ.mono (AQ.keep ha (I _ λk h=>by omega)) λ_ _=>trivial,AQ.mono (AQ.keep hq (I _ λk h=>by omega)) λ_ _=>trivial,?_⟩;exact((hB.setCell (p:=⟨D,0,none⟩) (by exact Nat.le_of_eq h0) _).setCell (p:=⟨D,1,none⟩) (by exact Nat.le_of_eq h0) _).setCell (p:=⟨D,2,none⟩) (by exact Nat.le_of_eq h0) _)
 have HV:=AB (λ(W:World) (B:Sr g a len cap C W)=>eY.iO W g a len cap (.slice R J U) (.slice Q V X) (.slice K L N) P (Sr.here B) ((r.AA W B).2.mono λk I=>by have:=a1.AA.lt;omega) (by rw[a8.1];exact a8.2));obtain⟨⟨d0,d1,d2⟩,-⟩:=Aa a6.AA;have b2:=(Bt.1 a6.AA).1;have b8:=AB (show¬gp=D by have h1:=a4.AA;have O:=a2.AA.size;omega);have c5:=b8.AA;clear hp Y a7 u b6 b9 HC HR hP a8;go_upto_region 4 with(go_at_call 31;refine(HV.AA _ b3.AA).mono ?_;rintro e w5 ⟨aA,nA,cA,la,rfl,hA,b5⟩;have Z:=AB (show Sr g a len cap C w5 from b3.AA.tr b5);have c0:=AB hA;clear hA b5);clear d0 d1 d2 b2;obtain⟨⟨d0,d1,d2⟩,-⟩:=Aa (r.AA _ Z.AA).1;have b2:=(Bt.1 (r.AA _ Z.AA).1).1;go_region_law (first|(go_simp;go_at_call 31;refine(HV.AA _ (by first|exact Z.AA|exact Z.AA.drew)).mono ?_;rintro e w8 ⟨aV,s,cV,l,rfl,hv,Y⟩;have q:=AB (show Sr g a len cap C w8 from by first|exact Z.AA.tr Y|exact Z.AA.drew.tr Y);have c2:F.heap.size<=C.heap.size/\C.heap.size<=w5.heap.size:=⟨Ae a2.AA.size a3.AA.2.2.size,Z.AA.2.2.size⟩;have HQ:=AB (show AQ (λk=>F.heap.size<=k) w8 (.slice aV s cV) l from AQ.mono hv λk I=>by first|(have O:w5.heap.size<=k:=I;omega));have b7:=AB (show AQ (λk=>F.heap.size<=k) w8 (.slice aA nA cA) la from AQ.mono (AQ.keep (S:=λk=>C.heap.size<=k) c0.AA (by have c8:=a1.AA.lt;have h4:=a3.AA.2.2.size;first|exact Keep.grown Y.2.2 (λk I e=>by injection e with e;have O:C.heap.size<=k:=I;omega)|exact AL.drew.trans (Keep.grown Y.2.2 (λk I e=>by injection e with e;have O:C.heap.size<=k:=I;omega)))) λk I=>by have O:C.heap.size<=k:=I;omega);obtain⟨⟨d0,d1,d2⟩,-⟩:=Aa (r.AA _ q.AA).1;have c6:=(Bt.1 (r.AA _ q.AA).1).1;obtain⟨⟨e0,e1,e2⟩,f0,f1,f2⟩:=Aa (HK.AA _ q.AA).1;have c7:=(HK.AA _ q.AA).2;clear hv Y c2)|fail);all_goals
  go_wp2_with fail;have b4:=HF.AA _ q.AA _ _ _ _ _ _ _ _ b7.AA HQ.AA;obtain⟨⟨z0,z1,z2⟩,-⟩:=Aa (Bi (x:=.slice R J U) (y:=.slice Q V X) (z:=.slice K L N) (HK.AA _ q.AA).1);exact Au (v:=.tuple #[.agg #[.slice R J U,.slice Q V X,.slice K L N],.slice aA nA cA,.slice aV s cV]) (by simp[results,Tryz.results6,go_sem,z0,z1,z2]) rfl (by first|exact b4|exact VQ.dr b4)
end ek
namespace Sv
section
open RowKit AJ FN BU QB FX Hf
theorem jY (n k:Nat)(I:n<=6)(D:k<n)(w:World):
  Calls Tryz.prog 39 #[.int .i64 (n:Int),.int .i64 (k:Int)] w (Dz (ints ((List.replicate n 0).set k 1)) w):=by
 have L:=Fb n I;have C:=Own.made (B:=w.heap.size) w n AV (by unfold maxLen;omega);obtain⟨K,J⟩:=C.cell (j:=k) (a:=0) (by simp[D]);have F:=AB (KW (B:=w.heap.size) w ((madeCells #[.int .i64 0] n).setIfInBounds k (.int .i64 1)) (ints ((List.replicate n 0).set k 1)) AV (by simp[ints];unfold maxLen;omega) (by
  rw[Array.toList_setIfInBounds,Kc];simp[vals,ints]))
 clear C;go_enter Tryz.func39,Tryz.ntmps39;go_wp2_with fail;go_ret;have:=F.AA;simp only[BK,List.length_set,Bp]at this;refine⟨_,rfl,this,AY.alloc AV _⟩
end
section
open RowKit AJ Val Ba BN CL BU EM SF
theorem lQ {T:Tw}(g:BR (AZ T)):Valid (AZ T):=by obtain⟨_,_,_,_,h,_⟩:=g;exact h
theorem pg {T:Tw}:Cj (AZ T).os=(sz T:Int):=Xf T
def wX (n:Nat)(w:World)(e:Ending)(w':World):Prop:=e= .returned (.tuple #[.int .i64 (n:Int),.int .i64 0])/\Below w.heap.size w w'
theorem sK (T:Tw)(J:BR (AZ T))(w:World)(B F D:Value)(R:Av Any w B F D (AZ T)):
  Calls Tryz.prog 45 #[.agg #[B,F,D]] w (wX (sz T) w):=by
 obtain⟨I,Q⟩:∃I,I=w.alloc (.cells #[B,F,D] 28):=⟨_,rfl⟩;have V:=AB (show Below (w.heap.size+1) (w.alloc (.cells #[B,F,D] 28)) I by rw[Q];exact BB _ _);obtain⟨⟨U,Y,e2⟩,C,K,N⟩:=bx1 V.AA;have Z:=AB (QC.MG I B F D (AZ T) (R.keep C));have h:=AB (lQ J);have p:=(QL.RU J).2;have i:=AB R;have g:=AB (show∀x∈(AZ T).os,Bw x=true from Kq.Po J);clear C K R J;go_enter Tryz.func45,Tryz.ntmps45;go_upto_region 1 with fail;rw[<-Q];clear Q;go_wp2_with fail;refine Z.AA.mono ?_;rintro e b ⟨r,rfl,W,a⟩;obtain rfl:r=true:=W.2 h.AA;have O:=V.AA.trans (a.mono N);have l:=AB O;clear U Y e2 a W Z N;obtain⟨⟨U,Y,e2⟩,C,K,N⟩:=bx1 O;have X:=AB (KE.Jp b B (AZ T).os (i.AA.keep C).os g.AA);have d:=AB K;clear O C K;go_wp2_with fail;refine X.AA.mono ?_;rintro e q ⟨z,rfl,S,L,rfl⟩;rw[pg]at S L;have j:(sz T:Int)<=729:=by omega
 obtain rfl:z=(sz T:Int):=L (S.2 j);clear S L X;go_wp2_with fail;exact Au (v:=.tuple #[.int .i64 (sz T:Int),.int .i64 0]) (by simp[results,Tryz.results45,go_sem]) rfl ⟨rfl,d.AA⟩
theorem jZ (T:Tw)(K:BR (AZ T))(w:World)(C D B:Value)(O:Av Any w C D B (AZ T)):
  Calls Tryz.prog 19 #[.agg #[C,D,B]] w λe w'=>e= .returned (.int .i64 (sz T:Int))/\Below w.heap.size w w':=by
 obtain⟨F,I⟩:∃F,F=w.alloc (.cells #[C,D,B] 28):=⟨_,rfl⟩;have J:=AB (show Below (w.heap.size+1) (w.alloc (.cells #[C,D,B] 28)) F by rw[I];exact BB _ _);obtain⟨⟨V,X,e2⟩,N,U,L⟩:=bx1 J.AA;have R:=AB (sK T K F C D B (O.keep N));clear N U O K;go_enter Tryz.func19,Tryz.ntmps19;go_upto_region 1 with fail;rw[<-I];clear I;go_wp2_with fail;refine R.AA.mono ?_;rintro e W ⟨rfl,Q⟩;have S:=AB (bx1 (J.AA.trans (Q.mono L))).2.2.1;clear Q R L;go_wp2_with fail;go_ret;exact⟨rfl,S.AA⟩
end
open RowKit AJ Val BN Dn
open Df(Iu KJ)
def JL (n k:Nat):List (List Nat):=(List.range k).map λi=>(List.replicate n 0).set i 1
theorem lS (n k:Nat):JL n (k+1)=JL n k++[(List.replicate n 0).set k 1]:=by simp[JL,FB]
theorem pq (n k:Nat):(JL n k).length=k:=by simp[JL]
theorem iP (n:Nat)(hn:n<=6)(w:World):
  Calls Tryz.prog 13 #[.int .i64 (n:Int),.int .i64 0] w (KJ ((JL n n).map ints) w):=by
 obtain⟨j0,B,a0,x,a4⟩:=Bd Iu;have y:=AB (λ(V:World) (k:Nat) (hk:k<n)=>jY n k hn hk V);have d:=AB (BL.lit w);have Z:=AB (show Below w.heap.size w (w.alloc (.cells #[] 24)) from AY.alloc AV _);go_enter Tryz.func13,Tryz.ntmps13;go_wp2_with fail;go_loopw [5,6] (λov N wr=>∃(l:Nat) (a:Option Addr) (c:Nat),l<=n/\ov= .slice a l c/\N= .int .i64 (l:Int)/\Hid (BL w.heap.size wr (.slice a l c) ((JL n l).map ints))/\Hid (Below w.heap.size w wr)) (λ_ N _=>n-(intOf N).toNat);case atStart=>exact⟨0,_,_,AX _,rfl,rfl,d,Z⟩
 case round=>
  obtain⟨l,a,c',a8,rfl,rfl,F,C⟩:=hrel;clear d Z;by_cases Q:l<n
  .have HU:=AB (y.AA wr l Q);have a9:(l:Int)<(n:Int):=by omega
   have J:=AB Q;have s:=AB (pq n l);have z:=AB (show(JL n (l+1)).map ints=(JL n l).map ints++[ints ((List.replicate n 0).set l 1)] by rw[lS];simp);clear Q;go_wp2_with (first|(go_at_call 39;refine HU.AA.mono ?_;rintro e R ⟨v3,rfl,K,X⟩;have D:=AB (C.AA.trans (X.mono C.AA.size));obtain⟨v,c3,rfl,_,_⟩:=Am.form K.sl;obtain⟨q,p⟩:∃q,(ints ((List.replicate n 0).set l 1)).length=q:=⟨_,rfl⟩;rw[p]at K ⊢; have a5:=AB (show Own w.heap.size R (.slice v q c3) (ints ((List.replicate n 0).set l 1)) from KT K C.AA.size);obtain⟨us,S,b,h⟩:=F.AA.keep X;rw[BC,s.AA]at S;have i:=AB (And.intro b h);have L:=AB S;clear K X p b h S)|(at_builtin;(refine DR _ rfl _ _ 25 rfl w.heap.size 24 j0 (.slice none 0 0) 1 24 Tryz.underlying25 B a0 x a4 rfl (by decide) _ _ _ rfl (L.AA.alloc _) ⟨R.heap.size,0,none⟩ 1 1 [.slice v q c3] rfl rfl ?c1 ?c2 ?c3 ?c4 ?c5 ?_)));case c1=>
    intro j u B
    match j,B with
    |0,B=>simp at B;subst B;simp[Addr.add]
   case c2=>intro u I;simp at I;subst I;rfl
   case c3=>have:=J.AA;unfold maxLen;omega
   case c4=>have:=J.AA;omega
   case c5=>have:=D.AA.size;simp;omega
   .intro v' w6 O Y _;obtain⟨U,W,rfl⟩:∃U W,v'= .slice U (l+1) W:=by
     rcases O.2 with⟨e,h0⟩|⟨g',a2,b0,e,_⟩
     .omega
     .exact⟨_,a2,e⟩
    have a7:=AB (show BL w.heap.size w6 (.slice U (l+1) W) ((JL n (l+1)).map ints) from by
     rw[z.AA];exact BL.push (w:=R.alloc _) (us:=us) (by rw[BC];exact s.AA) (L.AA.alloc _) i.AA.1 (λk r u hr I=>(i.AA.2 k r u hr I).alloc _) (a5.AA.alloc _) O Y)
    have a1:=AB (show Below w.heap.size w w6 from(D.AA.alloc (by have:=D.AA.size;omega) _).grown Y (by simp;have:=D.AA.size;omega) (λg hg=>(Aq L.AA g hg).1));clear O Y F;go_wp2_with fail;go_roundw;case rel=>exact⟨l+1,_,_,J.AA,rfl,by go_num,a7,a1⟩
    case measure=>have:=J.AA;simp[intOf];omega
  .obtain rfl:l=n:=by omega
   have b1:¬(l:Int)<(l:Int):=by omega
   have HF:=AB (show KJ ((JL l l).map ints) w (.returned (.slice a l c')) wr from⟨_,rfl,F.AA,C.AA⟩);clear F C;go_wp2_with fail;go_ret;exact HF.AA
end Sv
namespace fC
open RowKit AJ Val BN CL GK Dk EF Gj IA Gm Sn
theorem Yc {T:Tw}{a b:List (List Nat)}{C:List (List Int)}{k:Int}(B:Ba.BR (AZ T))(ha:BD T T a)(F:BD T T b)(h:Ia (AZ T) (a.map ints) (b.map ints) C k):k=0/\C=(cmp T a b).map ints:=by
 rcases h with⟨_,_,h⟩|⟨I,N,O,L,e,J,K,_,_,_,D⟩
 .exact absurd ⟨⟨T,a,rfl,rfl,B,ha⟩,⟨T,b,rfl,rfl,B,F⟩⟩ h
 .obtain rfl:=Ba.FK e;obtain rfl:=MJ J;obtain rfl:=MJ K;exact⟨I,D⟩
theorem Yd {P:BZ}{D F I K:List (List Int)}{k L:Int}(h:Ia P D F I k)(J:Ia P D F K L):K=I/\L=k:=by
 rcases h with⟨rfl,rfl,h⟩|⟨rfl,T,a,b,rfl,rfl,rfl,B,ha,C,rfl⟩
 .rcases J with⟨rfl,rfl,_⟩|⟨_,T,a,b,e,Q,R,B,ha,C,_⟩
  .exact⟨rfl,rfl⟩
  .exact absurd ⟨⟨T,a,e,Q,B,ha⟩,⟨T,b,e,R,B,C⟩⟩ h
 .obtain⟨O,N⟩:=Yc B ha C J;exact⟨N,O⟩
theorem pu {T:Tw}{a:List (List Nat)}{B:List (List Int)}{k:Int}(F:Ba.BR (AZ T))(ha:BD T T a)(h:InvV (AZ T) (a.map ints) B k):k=0/\∃q,Mt T a (q+1)/\B=(pw T a q).map ints:=by
 rcases h with⟨_,_,h⟩|⟨C,K,L,q,e,J,_,_,D,I⟩
 .exact absurd ⟨T,a,rfl,rfl,F,ha⟩ h
 .obtain rfl:=Ba.FK e;obtain rfl:=MJ J;exact⟨C,q,D,I⟩
theorem pz {T:Tw}{a:List (List Nat)}{n k:Int}(B:Ba.BR (AZ T))(ha:BD T T a)(h:SK (AZ T) (a.map ints) n k):k=0/\∃q:Nat,n=(q:Int)/\0<q/\q∣(Bo T T T.length []).length:=by
 obtain⟨hT,_,hg,C⟩:=EM.FJ B;rcases h with⟨_,_,h⟩|⟨I,K,L,q,e,J,_,_,D,F⟩
 .exact absurd ⟨T,a,rfl,rfl,B,ha⟩ h
 .obtain rfl:=Ba.FK e;obtain rfl:=MJ J;exact⟨I,q+1,F,Nat.succ_pos _,oo hT hg C ha D⟩
theorem lT {T:Tw}{a:List (List Nat)}{q:Nat}{B:List (List Int)}{k:Int}(C:Ba.BR (AZ T))(ha:BD T T a)(D:Mt T a (q+1))(h:Ia (AZ T) (a.map ints) ((pw T a q).map ints) B k):k=0/\B=(Az T).map ints:=by
 obtain⟨hT,_,hg,J⟩:=EM.FJ C;obtain⟨I,F⟩:=Yc C ha (IY hT hg ha q) h;refine⟨I,F.trans ?_⟩;have e:=Nv hT hg ha 1 q;rw[ZH hT hg ha]at e;rw[<-e,Gh 1 q,D.2.1]
theorem qA {T:Tw}(B:Ba.BR (AZ T))(I:sz T<=27){n k:Int}(F:VE.VL (AZ T) n k):k=0/\n=(((Bo T T T.length []).length:Nat):Int):=by
 rcases F with⟨_,_,h⟩|⟨U,e,_,⟨_,_,h⟩|⟨D,_,C⟩⟩
 .exact absurd B h
 .obtain rfl:=Ba.FK e;omega
 .obtain rfl:=Ba.FK e;refine⟨D,?_⟩;rw[Rx.oh B B,BC];exact C
theorem qB {P:BZ}{D I B:List (List Int)}(h:Ia P D I B 0):∃T a b,P=AZ T/\D=a.map ints/\I=b.map ints/\Ba.BR (AZ T)/\BD T T a/\BD T T b/\BD T T (cmp T a b)/\B=(cmp T a b).map ints:=by
 rcases h with⟨J,_,_⟩|⟨_,T,a,b,rfl,rfl,rfl,C,ha,F,rfl⟩
 .exact absurd J (by decide)
 .obtain⟨hT,_,hg,K⟩:=EM.FJ C;exact⟨T,a,b,rfl,rfl,rfl,C,ha,F,Rz hT hg ha F,rfl⟩
theorem sM {P:BZ}{I J C:List (List Int)}{k:Int}(h:Ia P I J C k)(D:k≠0):k=1/\C=[]:=by
 rcases h with⟨B,F,_⟩|⟨B,_⟩
 .exact⟨B,F⟩
 .exact absurd B D
end fC
namespace Sw
open RowKit AJ Bv
open BU(Any)
def Jn (b:Bool)(w:World)(e:Ending)(w':World):Prop:=e= .returned (.bool b)/\Below w.heap.size w w'
theorem Wz {α:Type}{l B:List α}{k:Nat}{x:α}(h:l.take k=B.take k)(D:l[k]?=some x)(C:B[k]?=some x):l.take (k+1)=B.take (k+1):=by rw[EL,EL,h,D,C]
theorem Xg {α:Type}{l B:List α}{n:Nat}(h:l.take n=B.take n)(C:l.length=n)(D:B.length=n):l=B:=by
 rwa[Jh (Nat.le_of_eq C),Jh (Nat.le_of_eq D)]at h
theorem Zz {α:Type}{l C:List α}{k:Nat}{x y:α}(D:l[k]?=some x)(B:C[k]?=some y)(h:¬x=y):¬l=C:=λe=>by
 subst e;rw[D,EQ]at B;exact h B
theorem Ye (w:World)(i d:Value)(l B:List Int)(ha:AP Any w i l)(L:AP Any w d B):Calls Tryz.prog 18 #[i,d] w (Jn (decide (l=B)) w):=by
 obtain⟨aA,cA,rfl,j,Z⟩:=Cz ha;obtain⟨aB,cB,rfl,r,a1⟩:=Cz L;obtain⟨n,R⟩:∃n,l.length=n:=⟨_,rfl⟩;obtain⟨m,V⟩:∃m,B.length=m:=⟨_,rfl⟩;have h:=AB ha;have g:=AB L;have O:=AB R;have K:=AB V;rw[R]at h j ⊢;rw[V]at g r ⊢;have a7:(n:Int)<=9223372036854775807:=by unfold maxLen at Z;omega
 clear ha L R V Z a1 j r;go_enter Tryz.func18,Tryz.ntmps18;by_cases W:n=m
 .subst W;have a0:((n:Int) !=(n:Int))=false:=by simp
  go_wp2_with fail;go_loopw [5] (λX wr=>∃k:Nat,k<=n/\X= .int .i64 (k:Int)/\Hid (l.take k=B.take k)/\Hid (Below w.heap.size w wr)) (λX _=>n-(intOf X).toNat);case atStart=>exact⟨0,AX _,rfl,AB rfl,AB AY⟩
  case round=>
   obtain⟨k,hk,rfl,hT,C⟩:=hrel;by_cases a5:k<n
   .obtain⟨x,Q⟩:∃x,l[k]?=some x:=⟨_,AU (by rw[O.AA];omega)⟩;obtain⟨y,N⟩:∃x,B[k]?=some x:=⟨_,AU (by rw[K.AA];omega)⟩;obtain⟨bA,s,u,rfl,_,Y,a,rfl⟩:=Ce h.AA Q;obtain⟨bB,oB,v,rfl,_,p,q,rfl⟩:=Ce g.AA N;have D:=AO (S:=Any) C.AA;have a4:=(D.cell (b:=bA) (o:=s+k) trivial Y).trans a;have a2:=(D.cell (b:=bB) (o:=oB+k) trivial p).trans q;have b0:=Ah Y D.size;have a8:=Ah p D.size;have a6:(k:Int)<(n:Int):=by omega
    have a9:(0:Int)<=(k:Int):=by omega
    have J:=AB (And.intro Q N);clear Q N a q D;by_cases I:x=y
    .subst I;have a3:(x !=x)=false:=by simp
     go_wp2_with fail;go_region_held3 (λw'=>(∀b o,b<wr.heap.size->w'.cell? ⟨b,o,none⟩=wr.cell? ⟨b,o,none⟩)/\Keep (λ_=>True) wr w')
      (first|exact Ap (by repeat(first|exact Ab|exact AL|refine AR ?_ ‹_›)))
      (fail)
     rename_i U;clear U;have z:=AB ((C.AA).drew);clear a4 a2 C;go_wp2_with fail;go_roundw;case rel=>exact⟨k+1,by omega,by go_num,AB (Wz hT.AA J.AA.1 J.AA.2),z⟩
     case measure=>simp[intOf];omega
    .have a3:(x !=y)=true:=by simp[I]
     have F:=AB (show Jn (decide (l=B)) w (.returned (.bool false)) wr.drew from⟨by rw[ED (Zz J.AA.1 J.AA.2 I)],C.AA.drew⟩);clear I;go_wp2_with fail;go_region_held3 (λw'=>(∀b o,b<wr.heap.size->w'.cell? ⟨b,o,none⟩=wr.cell? ⟨b,o,none⟩)/\Keep (λ_=>True) wr w')
      (first|exact Ap (by repeat(first|exact Ab|exact AL|refine AR ?_ ‹_›)))
      (fail)
     rename_i U;clear U;go_wp2_with fail;go_ret;exact F.AA
   .obtain rfl:k=n:=by omega
    have F:=AB (show Jn (decide (l=B)) w (.returned (.bool true)) wr from⟨by rw[ET (Xg hT.AA O.AA K.AA)],C.AA⟩);clear C hT;go_wp2_with fail;go_ret;exact F.AA
 .have a0:((n:Int) !=(m:Int))=true:=by simp;omega
  have F:=AB (show Jn (decide (l=B)) w (.returned (.bool false)) w from⟨by rw[ED (λe=>W (by rw[<-O.AA,<-K.AA,e]))],BB _ _⟩);clear W;go_wp2_with fail;go_ret;exact F.AA
theorem qD (w:World)(p vb:Value)(l B:List (List Int))(ha:AQ Any w p l)(N:AQ Any w vb B):Calls Tryz.prog 9 #[p,vb] w (Jn (decide (l=B)) w):=by
 obtain⟨aA,cA,rfl,r,g⟩:=Cz ha;obtain⟨aB,cB,rfl,a1,a7⟩:=Cz N;obtain⟨n,Y⟩:∃n,l.length=n:=⟨_,rfl⟩;obtain⟨m,a⟩:∃m,B.length=m:=⟨_,rfl⟩;have i:=AB ha;have HB:=AB N;have O:=AB Y;have L:=AB a;have HI:=AB (λW u v x y h1 h2=>Ye W u v x y h1 h2);rw[Y]at i r ⊢;rw[a]at HB a1 ⊢;have a8:(n:Int)<=9223372036854775807:=by unfold maxLen at g;omega
 clear ha N Y a g a7 r a1;go_enter Tryz.func9,Tryz.ntmps9;by_cases R:n=m
 .subst R;have a4:((n:Int) !=(n:Int))=false:=by simp
  go_wp2_with fail;go_loopw [5] (λU wr=>∃k:Nat,k<=n/\U= .int .i64 (k:Int)/\Hid (l.take k=B.take k)/\Hid (Below w.heap.size w wr)) (λU _=>n-(intOf U).toNat);case atStart=>exact⟨0,AX _,rfl,AB rfl,AB AY⟩
  case round=>
   obtain⟨k,hk,rfl,hT,C⟩:=hrel;by_cases b2:k<n
   .obtain⟨x,Q⟩:∃x,l[k]?=some x:=⟨_,AU (by rw[O.AA];omega)⟩;obtain⟨y,X⟩:∃x,B[k]?=some x:=⟨_,AU (by rw[L.AA];omega)⟩;obtain⟨bA,oA,u,rfl,_,a2,h,q⟩:=Ce i.AA Q;obtain⟨bB,oB,v,rfl,_,a0,a3,hv⟩:=Ce HB.AA X;have D:=AO (S:=Any) C.AA;have z:=(D.cell (b:=bA) (o:=oA+k) trivial a2).trans h;have j:=(D.cell (b:=bB) (o:=oB+k) trivial a0).trans a3;have b1:=Ah a2 D.size;have a9:=Ah a0 D.size;have b3:(k:Int)<(n:Int):=by omega
    have b0:(0:Int)<=(k:Int):=by omega
    have K:=AB (And.intro Q X);have d:=AB (AP.keep q D);have s:=AB (AP.keep hv D);clear Q X h a3 D q hv;by_cases F:x=y
    .have V:decide (x=y)=true:=ET F;have a5:=AB F;clear F;go_wp2_with fail;go_region_held3 (λw'=>(∀b o,b<wr.heap.size->w'.cell? ⟨b,o,none⟩=wr.cell? ⟨b,o,none⟩)/\Keep (λ_=>True) wr w')
      (first|exact Ap (by repeat(first|exact Ab|exact AL|refine AR ?_ ‹_›)))
      (first|(go_at_call 18;refine(HI.AA _ u v x y (d.AA.keep (by repeat(first|exact AL.drew|exact AL))) (s.AA.keep (by repeat(first|exact AL.drew|exact AL)))).mono ?_;rintro e w6 ⟨rfl,I⟩;rw[V]))
     rename_i Z;clear Z;have a6:=AB (C.AA.trans ((((BB wr.heap.size wr).drew).trans I).mono C.AA.size));clear z j C I;go_wp2_with fail;go_roundw;case rel=>exact⟨k+1,by omega,by go_num,AB (Wz hT.AA K.AA.1 (by rw[a5.AA];exact K.AA.2)),a6⟩
     case measure=>simp[intOf];omega
    .have V:decide (x=y)=false:=ED F;have HF:=AB (show decide (l=B)=false from ED (Zz K.AA.1 K.AA.2 F));clear F;go_wp2_with fail;go_region_held3 (λw'=>(∀b o,b<wr.heap.size->w'.cell? ⟨b,o,none⟩=wr.cell? ⟨b,o,none⟩)/\Keep (λ_=>True) wr w')
      (first|exact Ap (by repeat(first|exact Ab|exact AL|refine AR ?_ ‹_›)))
      (first|(go_at_call 18;refine(HI.AA _ u v x y (d.AA.keep (by repeat(first|exact AL.drew|exact AL))) (s.AA.keep (by repeat(first|exact AL.drew|exact AL)))).mono ?_;rintro e w6 ⟨rfl,I⟩;rw[V]))
     rename_i Z;clear Z;have J:=AB (show Jn (decide (l=B)) w (.returned (.bool false)) w6 from⟨by rw[HF.AA],C.AA.trans ((((BB wr.heap.size wr).drew).trans I).mono C.AA.size)⟩);clear z j C I;go_wp2_with fail;go_ret;exact J.AA
   .obtain rfl:k=n:=by omega
    have J:=AB (show Jn (decide (l=B)) w (.returned (.bool true)) wr from⟨by rw[ET (Xg hT.AA O.AA L.AA)],C.AA⟩);clear C hT;go_wp2_with fail;go_ret;exact J.AA
 .have a4:((n:Int) !=(m:Int))=true:=by simp;omega
  have J:=AB (show Jn (decide (l=B)) w (.returned (.bool false)) w from⟨by rw[ED (λe=>R (by rw[<-O.AA,<-L.AA,e]))],BB _ _⟩);clear R;go_wp2_with fail;go_ret;exact J.AA
end Sw
end Go.Proofs.YtgjadpmbnejaoaaGreat
