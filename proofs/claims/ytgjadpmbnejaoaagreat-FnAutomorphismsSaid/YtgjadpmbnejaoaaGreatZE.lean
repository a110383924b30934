import Derived.Test.YtgjadpmbnejaoaaGreatZD
/-
  Lemmas for the law FnAutomorphisms, in short spelling.
-/
set_option linter.unusedVariables false
set_option linter.unusedSimpArgs false
set_option maxRecDepth 100000
set_option maxHeartbeats 40000000
namespace Go.Proofs.YtgjadpmbnejaoaaGreat
namespace dm
open RowKit AJ Val BN CL GK Dk EF Gj Dn Hz IA Df Gm Ls
open BU(Any)
open Bj(Aa)
theorem pQ {w:World}{g:Nat}{B:Value}{l:List Int}(h:w.cell? ⟨g,0,none⟩=some B)(hg:g<w.heap.size)(C:AP Any w B l):AQ Any w (.slice (some ⟨g,0,none⟩) 1 1) [l]:=by
 refine⟨some ⟨g,0,none⟩,1,rfl,Al _,by decide,λh=>by simp at h,λi x hi=>?_⟩;cases i with
 |zero=>
  simp at hi;subst hi;exact⟨g,0,rfl,trivial,hg,_,h,C⟩
 |succ i=>simp at hi
theorem jR (T:Tw)(d:Ba.BR (AZ T))(w:World)(N Z K s:Value)(x:List Nat)(hP:Av Any w N Z K (AZ T))(R:AP Any w s (ints x))(j:El T x):
  Calls Tryz.prog 17 #[.agg #[N,Z,K],s] w (λe w'=>∃b n c,e= .returned (.tuple #[.slice b n c,.int .i64 0])/\AQ Any w' (.slice b n c) ((inn T x).map ints)/\Below w.heap.size w w'):=by
 obtain⟨hT,U,q,b2⟩:=EM.FJ d;obtain⟨V,O,rfl,_,_⟩:=Am.form R;obtain⟨Q,a0⟩:∃n,(ints x).length=n:=⟨_,rfl⟩;rw[a0]at R ⊢;obtain⟨g,hg⟩:∃g,w.heap.size=g:=⟨_,rfl⟩;obtain⟨B,I⟩:∃B,B=w.alloc (.cells #[N,Z,K] 28):=⟨_,rfl⟩;have J:Below w.heap.size w B:=by rw[I];exact AY.alloc AV _
 have b1:B.heap.size=g+1:=by rw[I,<-hg];simp
 have a1:B.heap[g]?=some (.cells #[N,Z,K] 28 (0,0)):=by rw[I,<-hg];exact Aj w _
 obtain⟨D,F⟩:∃D,D=B.alloc (.cells #[.slice V Q O] 24):=⟨_,rfl⟩;have Y:Below B.heap.size B D:=by rw[F];exact AY.alloc AV _
 have C:∀(W:World),Below B.heap.size B W->BH Any W g 0 (AZ T)/\AP Any W (.slice V Q O) (ints x):=λW h=>by
  obtain⟨p0,p1,p2⟩:=(Aa ((h.block g (by omega)).trans a1)).1;have b6:g<W.heap.size:=by have:=h.size;omega
  exact⟨⟨trivial,b6,_,_,_,p0,p1,p2,(hP.keep (AO J)).keep (AO (S:=Any) h)⟩,(R.keep (AO J)).keep (AO (S:=Any) h)⟩
 have a6:=AB (Kq.V5 D g 0 (AZ T) (.slice (some ⟨B.heap.size,0,none⟩) 1 1) [ints x] (C D Y).1 (pQ (by rw[F];exact Ar _ _ _ #[.slice V Q O] _ (0,0) (Aj _ _)) (by rw[F];simp) (C D Y).2));have a8:=AB (show Ba.BR (AZ T)/\∀l∈[ints x],Be (AZ T).os 0 l from⟨d,λl hl=>by rw[ES.1 hl];exact Ph j⟩);have b4:=AB (λ(W:World) (h:Below B.heap.size B W)=>QT.UF T U.1 W g 0 (C W h).1);have b0:=AB (λ(W:World) (h:Below B.heap.size B W) (v:Value) (X:AQ Any W v ((Az T).map ints))=>jQ T hT U q W g 0 v (.slice V Q O) (Az T) x (C W h).1 X (C W h).2 (Gt hT) j (λh=>by simpa[Az]using h) (by have:=U.1;simp[Az];omega));have HB:=AB (λ(W:World) (h:Below B.heap.size B W)=>J.trans (h.mono J.size));have a2:=AB Y;obtain⟨m,hm⟩:∃m,((inn T x).map ints).length=m:=⟨_,rfl⟩;have HM:=AB hm;clear hP R j J b1 a1 hT U q b2 d C Y a0 hm;go_enter Tryz.func17,Tryz.ntmps17;go_upto_region 1 with fail;rw[<-I];clear I hg;go_wp2_with fail;rw[<-F];clear F;refine a6.AA.mono ?_;rintro e w2 ⟨r,rfl,hr,a3⟩;obtain rfl:r=true:=hr.2 a8.AA;have i:=AB (a2.AA.trans (a3.mono a2.AA.size));clear hr a3 a6;go_wp2_with (first|(go_at_call 36;refine(b4.AA w2 i.AA).mono ?_;rintro e w3 ⟨v,rfl,X,a7⟩;have b3:=AB (LP X);have a:=AB (i.AA.trans (a7.mono i.AA.size));clear X a7)|(go_at_call 44;refine(b0.AA w3 a.AA _ b3.AA).mono ?_;rintro e p ⟨u,rfl,hu,a5⟩;have L:=AQ.mono (S':=Any) hu.sl (λ_ _=>trivial);obtain⟨y,z,rfl,_,_⟩:=Am.form L;rw[show((KH T (Az T) x).map ints).length=m from HM.AA]at L ⊢; have a9:=AB (show AQ Any p (.slice y m z) ((inn T x).map ints) from L);have b5:=AB (HB.AA p (a.AA.trans (a5.mono a.AA.size)));clear hu L a5));exact Au (v:=.tuple #[.slice y m z,.int .i64 0]) (by simp[results,Tryz.results17,go_sem]) rfl ⟨_,_,_,rfl,a9.AA,b5.AA⟩
end dm
namespace Sq
open RowKit AJ Val BN CL GK Dk EF Gj Dn Hz IA Df Gm Ls
open BU(Any)
open CP(Ai Br Ct)
open Kr(Ay)
theorem pR {T:Tw}(hT:Wf T)(hg:AJ.Good T){x z:List Nat}(C:El T x)(D:El T z):Gen.com (mul T) (Ai T) x z=AJ.one T↔Ay T z x=z:=by
 have G:=BA hT hg;have B:=G.cl D C;have F:=G.cl C D;obtain⟨R,N,L⟩:=Br hT hg B;obtain⟨I,O,K⟩:=Br hT hg C;have Q:Gen.com (mul T) (Ai T) x z=AJ.one T↔mul T x z=mul T z x:=by
  unfold Gen.com;constructor
  .intro h;have:=Ck (mul T (mul T z x)) h;rwa[<-G.Ag B R F,N,G.eL F,G.eR B]at this
  .intro h;rw[h];exact L
 have J:Ay T z x=z↔mul T x z=mul T z x:=by
  unfold Ay;constructor
  .intro h;have:=Ck (mul T x) h;rw[<-G.Ag C I B,O,G.eL B]at this;exact this.symm
  .intro h;rw[<-h,<-G.Ag I C D,K,G.eL D]
 rw[Q,J]
theorem pU {T:Tw}{x:List Nat}:JK T x↔∀(k:Nat) (z:List Nat),(Az T)[k]?=some z->Ay T z x=z:=by
 unfold JK inn;constructor
 .intro h k z B;have:=Ck (λl=>l[k]?) h;simp only[Bh,B,Option.map_some]at this;exact IL this
 .intro h;refine GN λk=>?_;rw[Bh];cases B:(Az T)[k]? with
  |none=>rfl
  |some z=>rw[Option.map_some,h k z B]
theorem ku {T:Tw}{k:Nat}(h:k<T.length):(Az T)[k]?=some (unit T k):=by
 unfold Az;rw[Bh,List.getElem?_range h];rfl
theorem ky (T:Tw)(hT:Wf T)(D:Small T)(hg:AJ.Good T)(w:World)(b o:Nat)(C:Value)(x:List Nat)(Q:BH Any w b o (AZ T))(L:AP Any w C (ints x))(N:DW.NN C)(B:El T x):
  Calls Tryz.prog 55 #[.pointer (some ⟨b,o,none⟩),.slice none 0 0,C] w (CO (x=AJ.one T) w):=by
 have O:=AB (QS.YY T hT D hg w b o (.slice none 0 0) C [] x Q (OA w) (AX _) L N B (λu X=>absurd X (by simp)));have U:=AB (Dr.YZ hT B);have Z:=D.1;have R:=AB (λW v h=>QS.Qe W v x h (by rw[Ad B];omega));clear Q L N B hT D hg;go_enter Tryz.func55,Tryz.ntmps55;go_wp2_with fail;refine O.AA.mono ?_;rintro e F ⟨g,c,rfl,I,K⟩;have Y:=AB K;have S:=AB (R.AA F _ (I.sl.mono (λ_ _=>trivial)));clear I K O R;go_wp2_with fail;refine S.AA.mono ?_;rintro e a ⟨r,rfl,J,rfl⟩;have V:=AB (show CO (x=AJ.one T) w (.returned (.bool r)) F from⟨r,rfl,J.trans U.AA,Y.AA⟩);clear J S;go_wp2_with fail;go_ret;exact V.AA
theorem gW (T:Tw)(hT:Wf T)(O:Small T)(hg:AJ.Good T)(w:World)(b o W S:Nat)(y:Value)(x:List Nat)(X:BH Any w b o (AZ T))(a:AP Any w y (ints x))(J:El T x)
  (L:w.cell? ⟨W,0,none⟩=some (.pointer (some ⟨b,o,none⟩))) (I:w.cell? ⟨S,0,none⟩=some (.slice none 0 0)) (b3:W<w.heap.size) (b4:S<w.heap.size):
  Calls Tryz.prog 97 #[y,.pointer (some ⟨W,0,none⟩),.pointer (some ⟨S,0,none⟩)] w (CO (JK T x) w):=by
 have b7:=AB (QT.UF T O.1 w b o X);obtain⟨n,hn⟩:∃n,T.length=n:=⟨_,rfl⟩;have c5:n<=6:=by rw[<-hn];exact O.1
 have Z:=AB (show(Az T).length=n by rw[Az,BC,List.length_range,hn]);have b9:=AB (λz (B:z∈Az T)=>Gt hT z B);have b8:=AB (λ(V:World) (D:Keep Any w V) (v:Value) (z:List Nat) (B:El T z) (K:AP Any V v (ints z)) (L:0<n)=>Vi.V7 T hT O hg V b o y v x z (X.keep D) (a.keep D) (DW.Je (a.keep D) (by rw[Ad J];omega)) K (DW.Je K (by rw[Ad B];omega)) J B);have b6:=AB (λ(V:World) (D:Keep Any w V) (v:Value) (z:List Nat) (B:El T z) (K:AP Any V v (ints (Gen.com (mul T) (Ai T) x z))) (L:0<n)=>show Calls Tryz.prog 55 #[.pointer (some ⟨b,o,none⟩),.slice none 0 0,v] V (CO (Ay T z x=z) V) from by
  have F:=Ct hT hg;have hc:El T (Gen.com (mul T) (Ai T) x z):=by
   unfold Gen.com;exact F.G.cl (F.iM (F.G.cl B J)) (F.G.cl J B)
  have h:=ky T hT O hg V b o v _ (X.keep D) K (DW.Je K (by rw[Ad hc];omega)) hc;rwa[pR hT hg J B]at h)
 have a8:=AB (pU (T:=T) (x:=x));have b2:=AB (λ(V:World) (Q:Below w.heap.size w V)=>And.intro ((Q.cell (p:=⟨W,0,none⟩) b3).trans L) ((Q.cell (p:=⟨S,0,none⟩) b4).trans I));have q0:=L;clear X a J hT O hg hn L I;go_enter Tryz.func97,Tryz.ntmps97;go_upto_region 2 with(go_at_call 36;refine b7.AA.mono ?_;rintro e Y ⟨v1,rfl,I,b1⟩;have a5:=AB (LP I);have U:=AB b1;obtain⟨a1,c1,rfl,_,_⟩:=Am.form (LP I);rw[BC,Z.AA]at a5 ⊢; clear I b1);go_loopw [10] (λg wr=>∃k:Nat,k<=n/\g= .int .i64 (k:Int)/\Hid (∀(j:Nat) (z:List Nat),j<k->(Az T)[j]?=some z->Ay T z x=z)/\Hid (Below Y.heap.size Y wr)) (λg _=>n-(intOf g).toNat);case atStart=>exact⟨0,AX _,rfl,AB (λj z d=>absurd d (CS _)),AB AY⟩
 case round=>
  obtain⟨k,c0,rfl,N,C⟩:=hrel;have a2:=AB (U.AA.trans (C.AA.mono U.AA.size));by_cases i:k<n
  .obtain⟨z,B⟩:∃z,(Az T)[k]?=some z:=⟨_,AU (by rw[Z.AA];exact i)⟩;obtain⟨bA,oA,u,rfl,_,c6,c2,hu⟩:=Am.get (AQ.keep a5.AA (AO C.AA)) (show((Az T).map ints)[k]?=some (ints z) by rw[Bh,B];rfl);have HZ:=AB B;have a6:=AB (b9.AA z (Af B));obtain⟨q1,q2⟩:=b2.AA wr a2.AA;have HC:=AB (λ(V:World) (D:Keep Any wr V)=>b8.AA V ((AO a2.AA).trans D) u z a6.AA (hu.keep D) (by omega));have c4:(k:Int)<(n:Int):=by omega
   have c7:(0:Int)<=(k:Int):=by omega
   have q:=AB i;clear B hu i;go_upto_region 4 with fail;go_region_law (first|(go_simp;go_at_call 98;refine(HC.AA _ (by first|exact AL.drew|exact AL)).mono ?_;rintro e s ⟨g3,c3,rfl,a7,a3⟩;have l:=AB (show Below Y.heap.size Y s from by first|exact C.AA.trans (a3.mono C.AA.size)|exact(Df.GA C.AA ⟨1,rfl⟩).trans (a3.mono C.AA.size));have R:=AB (U.AA.trans (l.AA.mono U.AA.size));obtain⟨q3,q4⟩:=b2.AA s R.AA;have HM:=AB (b6.AA s (AO R.AA) _ z a6.AA (a7.sl.mono λ_ _=>trivial) (by have:=q.AA;omega));clear a7 a3)|(go_simp;go_at_call 55;refine HM.AA.mono ?_;rintro e w5 ⟨r,rfl,hr,a0⟩;have b0:=AB hr;have a9:=AB (R.AA.trans (a0.mono R.AA.size));have b5:=AB (l.AA.trans (a0.mono l.AA.size));clear hr a0));all_goals
    (cases r with
    |true=>
     have HN:=AB (show∀(j:Nat) (z:List Nat),j<k+1->(Az T)[j]?=some z->Ay T z x=z from λj z' d a4=>by
      rcases DF.1 d with h|rfl
      .exact N.AA j z' h a4
      .rw[HZ.AA]at a4;cases a4;exact b0.AA.1 rfl)
     clear N C;go_wp2_with fail;go_roundw;case rel=>exact⟨k+1,q.AA,by go_num,HN,b5⟩
     case measure=>have:=q.AA;simp[intOf];omega
    |false=>
     have HF:=AB (λ(V:World) (Q:Below w.heap.size w V)=>show CO (JK T x) w (.returned (.bool false)) V from CO.f (λh=>by
      have h2:=b0.AA.2 (a8.AA.1 h k z HZ.AA);exact Bool.noConfusion h2) Q)
     clear N C;go_wp2_with fail;go_ret;exact HF.AA _ (by first|exact a9.AA|exact Df.GA a9.AA ⟨1,rfl⟩))
  .obtain rfl:k=n:=by omega
   have c8:¬(k:Int)<(k:Int):=by omega
   have HF:=AB (show CO (JK T x) w (.returned (.bool true)) wr from CO.t (a8.AA.2 λj z B=>N.AA j z (by rw[<-Z.AA];exact(Ak.1 B).1) B) a2.AA);clear N C;go_wp2_with fail;go_ret;exact HF.AA
end Sq
namespace dw
open RowKit AJ Val BN CL GK Dk EF Gj Dn Hz IA Df Gm Ls Sq
open BU(Any)
open Kr(Ay)
open CP(Ai Br Ct)
open QU(Jk VP TW)
open NH(DT)
open Vj(Ht UG)
open Hy(Dl)
open Sm(Lh UH)
open IB(ME)
open Fe(FE)
open Classical in
noncomputable def Cm (T:Tw)(k:Nat):List (List Nat):=((List.range k).filter λc=>decide (JK T (at_ T c))).map (at_ T)
theorem kz {T:Tw}{k:Nat}(h:JK T (at_ T k)):Cm T (k+1)=Cm T k++[at_ T k]:=by
 unfold Cm;rw[FB,List.filter_append,IM];simp[h]
theorem pV {T:Tw}{k:Nat}(h:¬JK T (at_ T k)):Cm T (k+1)=Cm T k:=by
 unfold Cm;rw[FB,List.filter_append,IM];simp[h]
theorem RB {T:Tw}(hT:Wf T){k:Nat}:∀x∈Cm T k,El T x:=λx B=>by
 unfold Cm at B;obtain⟨c,_,rfl⟩:=BX.1 B;exact Cb hT c
theorem jS {T:Tw}{im tl D:List (List Nat)}(hT:Wf T)(hg:AJ.Good T)(N:∀x∈im++D,El T x)(h:Ht T im tl []):Ht T (im++D) tl D:=by
 have mono:∀y,Gen.Gen (mul T) (AJ.one T) im y->Gen.Gen (mul T) (AJ.one T) (im++D) y:=λy C S J F=>C S J λy c C Q=>F y c C (OJ _ Q);refine⟨h.tb,λd y C=>mono y (h.tg d y C),λw B=>Gen.Gen.of (BA hT hg) N (LZ _ B),λt' O B=>?_⟩;obtain⟨J,F,K⟩:=h.ob t' O (λw B=>by simp at B);refine⟨λx L=>?_,F,K⟩;rcases DY.1 L with I|I
 .exact J x I
 .exact B x I
theorem Jl {S:Nat->Prop}{w:World}{u:Value}{x:List Int}{t:TypeId}(D:AP S w u x)(C:S w.heap.size):AQ S (w.alloc (.cells #[u] t)) (.slice (some ⟨w.heap.size,0,none⟩) 1 1) [x]:=by
 refine⟨_,_,rfl,by simp,by unfold maxLen;simp,by simp,λi y B=>?_⟩
 match i,B with
 |0,B=>
  simp at B;subst B;exact⟨w.heap.size,0,rfl,C,by simp,u,by rw[Ar _ _ _ _ _ (0,0) (Aj w _)];rfl,D.keep (AL.alloc _)⟩
theorem iJ {T:Tw}(hT:Wf T)(hg:AJ.Good T):Ht T (Cm T 0) (List.replicate T.length []) []:=by
 unfold Ht;rw[ME,show Cm T 0=[] from rfl];exact FE.start (Ct hT hg) (im:=[]) (λc B=>absurd B (by simp))
theorem lC (T:Tw)(hT:Wf T)(hs:Small T)(hg:AJ.Good T)(hp:EN.Pr T)(hz:sz T<=128)(w:World)(b o U Q:Nat)(d:BH Any w b o (AZ T))
  (h0:w.cell? ⟨U,0,none⟩=some (.pointer (some ⟨b,o,none⟩))) (h1:w.cell? ⟨Q,0,none⟩=some (.slice none 0 0)) (s:U<w.heap.size) (a0:Q<w.heap.size):
  Calls Tryz.prog 96 #[.pointer (some ⟨b,o,none⟩),.func (.func 97) #[] #[.pointer (some ⟨U,0,none⟩),.pointer (some ⟨Q,0,none⟩)]] w (Lh T (Cm T (sz T)) w):=by
 have C:=AB hT;have q:=AB hs;have N:=AB hg;have c7:=AB hp;have HP:=AB d;have a6:=AB (λV (Z:Below w.heap.size w V)=>d.keep (AO Z));have a8:=AB (TW T hs.1 w b o d);have e5:=AB (λ(V:World) (Z:Below w.heap.size w V)=>And.intro ((Z.cell (p:=⟨U,0,none⟩) s).trans h0) ((Z.cell (p:=⟨Q,0,none⟩) a0).trans h1));have b7:=AB (And.intro s a0);have d1:sz T<=729:=by omega
 clear hT hs hg hp d h0 h1 s a0;go_enter Tryz.func96,Tryz.ntmps96;go_upto_region 2 with(go_at_call 113;refine a8.AA.mono ?_;rintro e w9 ⟨sb,gb,rfl,c2,b0,b2,a3⟩);have b1:=AB b2;have a4:=AB a3;have b3:=AB c2;have e6:=AB b0;have b6:=AB (Mj.Ya T C.AA q.AA.1 d1 w9 b o (a6.AA w9 a3));clear b2 a3 c2 b0 a8;go_upto_region 3 with(go_at_call 148;refine b6.AA.mono ?_;rintro e w3 ⟨vA,rfl,h,c6⟩;obtain⟨aA,cA,rfl,_,_⟩:=h.form;rw[Mj.MF]at h ⊢; have e2:=AB h;have y:=AB c6;clear h c6 b6);go_loopw [13] (λv wr=>∃(x:Nat) (tl:List (List Nat)),x<=sz T/\v= .int .i64 (x:Int)/\Hid (DT wr b o sb gb (λk=>k≠gb) T.length tl)/\Hid (Ht T (Cm T x) tl [])/\Hid (w3.grownBy wr (some gb))) (λv _=>sz T-(intOf v).toNat);case atStart=>exact⟨0,_,AX _,rfl,AB (b1.AA.below y.AA),AB (iJ C.AA N.AA),AB (EO.Qf _ _)⟩
 case round=>
  obtain⟨x,tl,hx,rfl,L,O,K⟩:=hrel;have e9:=b1.AA.tb.lt;have B:=AB (show Below w.heap.size w wr from((a4.AA.trans (y.AA.mono a4.AA.size))).grown K.AA (Ae a4.AA.size y.AA.size) (λg hg=>by cases hg;exact b3.AA));by_cases a2:x<sz T
  .have b4:(Mj.Ib T (sz T))[x]?=some (at_ T x):=by simp[Mj.Ib,a2]
   obtain⟨bA,oA,u,eA,d6,e8,c8,R⟩:=Am.get (AQ.keep (S:=λk=>w9.heap.size<=k) e2.AA.sl (Keep.grown K.AA (λk l e=>by injection e with e;omega))) (show((Mj.Ib T (sz T)).map ints)[x]?=some (ints (at_ T x)) by rw[Bh,b4];rfl);cases eA;obtain⟨aU,cU,rfl,_,_⟩:=Am.form R;obtain⟨z,b8⟩:∃n,(ints (at_ T x)).length=n:=⟨_,rfl⟩;rw[b8]at R c8;have HU:=AB (show AP (λk=>k≠gb) wr (.slice aU z cU) (ints (at_ T x)) from R.mono (λk l e=>by omega));obtain⟨q0,q1⟩:=e5.AA wr B.AA;have d5:=AB (Cb C.AA x);have HC:=AB (gW T C.AA q.AA N.AA wr b o U Q (.slice aU z cU) (at_ T x) (a6.AA wr B.AA) (R.mono λ_ _=>trivial) d5.AA q0 q1 (Ah b7.AA.1 B.AA.size) (Ah b7.AA.2 B.AA.size));have e7:(x:Int)<(sz T:Int):=by omega
   have f0:(0:Int)<=(x:Int):=by omega
   have i:=AB a2;have f2:gb<wr.heap.size:=L.AA.tb.lt;clear R b4 d6 a2 b8 q0 q1;by_cases I:JK T (at_ T x)
   rotate_left
   .have HN:=AB (show Ht T (Cm T (x+1)) tl [] from by rw[pV I];exact O.AA);have X:=AB I;clear I;go_wp2_with (go_at_call 97;refine HC.AA.mono ?_;rintro e D ⟨r,rfl,Y,J⟩;obtain rfl:r=false:=(by cases r with|false=>rfl|true=>exact absurd (Y.1 rfl) X.AA);have a1:=AB (show w3.grownBy D (some gb) from EO.FW K.AA (EO.NR J));have a5:=AB (L.AA.below J);clear Y J);go_roundw;case rel=>exact⟨x+1,tl,i.AA,by go_num,a5,HN,a1⟩
    case measure=>have:=i.AA;simp[intOf];omega
   .have b9:=AB (kz (T:=T) I);have X:=AB I;clear I;go_upto_region 6 with(go_at_call 97;refine HC.AA.mono ?_;rintro e D ⟨r,rfl,Y,J⟩;obtain rfl:r=true:=Y.2 X.AA;have W:=AB J;clear Y J);have a1:=AB (show w3.grownBy D (some gb) from EO.FW K.AA (EO.NR W.AA));have a5:=AB (L.AA.below W.AA);obtain⟨F,j⟩:∃F,F=D.alloc (.cells #[.slice aU z cU] 24):=⟨_,rfl⟩;have d0:wr.heap.size<=D.heap.size:=W.AA.size;have a:Below D.heap.size D F:=by rw[j];exact AY.alloc AV _
    have e0:=AB (show AQ (λk=>k≠gb) F (.slice (some ⟨D.heap.size,0,none⟩) 1 1) ([at_ T x].map ints) from by
     rw[j];exact Jl (HU.AA.keep (AO W.AA)) (by show D.heap.size≠gb;omega))
    have d7:=AB (a5.AA.below a);have d4:=AB (show Below w.heap.size w F from(B.AA.trans (W.AA.mono B.AA.size)).trans (a.mono (Ae B.AA.size d0)));have e3:=AB (show BH (λk=>k≠gb) F b o (AZ T) from(((DW.LQ HP.AA).keep (AO d4.AA)).mono (λk l=>by have:=b3.AA;omega)));have c0:=AB (UG T C.AA q.AA N.AA c7.AA F b o sb gb (.slice (some ⟨D.heap.size,0,none⟩) 1 1) (Cm T (x+1)) [at_ T x] tl e3.AA d7.AA e0.AA (RB C.AA) (by rw[b9.AA];exact jS C.AA N.AA (by rw[<-b9.AA];exact RB C.AA) O.AA) (by simp));have e1:=AB (EO.FW a1.AA (EO.NR a));clear a L O K HC;go_wp2_with fail;rw[<-j];clear j;refine c0.AA.mono ?_;rintro e f3 ⟨bl,e4,rfl,a9,c4,b5⟩;have d2:=AB c4;have d9:=AB a9;have c9:=AB (EO.FW e1.AA b5);clear a9 c4 b5 c0;go_wp2_with fail;go_roundw;case rel=>exact⟨x+1,e4,i.AA,by go_num,d2,d9,c9⟩
    case measure=>have:=i.AA;simp[intOf];omega
  .obtain rfl:x=sz T:=by omega
   have f1:¬((sz T:Nat):Int)<((sz T:Nat):Int):=by omega
   have d8:=AB (UH T C.AA q.AA N.AA (Cm T (sz T)) tl (λk=>k≠gb) wr b o sb gb (a6.AA wr B.AA) L.AA (FE.Oo (Ct C.AA N.AA) (RB C.AA) (show Ht T (Cm T (sz T)) tl [] from O.AA)));clear L O K;go_wp2_with (go_at_call 115;refine d8.AA.mono ?_;rintro e d3 ⟨a7,u,rfl,c3,c5,c1⟩;have X:=AB (show Lh T (Cm T (sz T)) w (.returned a7) d3 from⟨a7,u,rfl,c3,AQ.mono c5 (λk l=>Ae B.AA.size l),B.AA.trans (c1.mono B.AA.size)⟩);clear c3 c5 c1);go_ret;exact X.AA
end dw
namespace dx
open RowKit AJ Val BN CL GK Dk EF Gj Sl Dn Hz IA Df Gm Ls Sq dw
open BU(Any)
open Bj(Aa)
open Kr(Ay)
open Hy(Dl)
open Lr QR dz
open Sm(Lh)
open Classical in
theorem Qt {T:Tw}(hT:Wf T){x:List Nat}:x∈Cm T (sz T)↔El T x/\JK T x:=by
 unfold Cm;rw[BX];constructor
 .rintro⟨t,C,rfl⟩;exact⟨Cb hT t,@VC _ _ (KG.1 C).2⟩
 .rintro⟨B,D⟩;exact⟨num T x,KG.2 ⟨Cg.2 (Em B hT),@ET _ _ (by rw[EY hT B];exact D)⟩,EY hT B⟩
theorem iK {T:Tw}:(Cm T (sz T)).Nodup:=by
 unfold Cm;refine List.pairwise_map.2 (Mg ?_ (List.nodup_range.filter _));intro a b ha B C e;exact C (Nw (Cg.1 (KG.1 ha).1) (Cg.1 (KG.1 B).1) e)
theorem pW {T:Tw}(hT:Wf T)(hg:AJ.Good T){x:List Nat}:Gen.Gen (mul T) (AJ.one T) (Cm T (sz T)) x↔x∈Cm T (sz T):=by
 have G:=BA hT hg;constructor
 .intro h;refine h (λy=>y∈Cm T (sz T)) ((Qt hT).2 ⟨CR hT,Q8 hT hg⟩) λy c F J=>?_;obtain⟨B,K⟩:=(Qt hT).1 F;obtain⟨C,D⟩:=(Qt hT).1 J;refine(Qt hT).2 ⟨G.cl B C,?_⟩;show inn T (mul T y c)=Az T;rw[<-Ni hT hg B C,show inn T y=Az T from K,show inn T c=Az T from D];have I:=Ni hT hg (CR hT) (CR hT);rwa[G.eL (CR hT),Q8 hT hg]at I
 .exact λh=>Gen.Gen.of G (RB hT) h
theorem ZO {T:Tw}(hT:Wf T)(hg:AJ.Good T)(B:GQ T){us:List (List Nat)}(K:Dl T (Cm T (sz T)) us):sz (BI T us)=(Cm T (sz T)).length:=by
 obtain⟨L,I⟩:=Pg hT hg B K;have X:=Pq hT hg B L;have J:((List.range (sz (BI T us))).map λk=>ev (mul T) (AJ.one T) us (at_ (BI T us) k)).Perm (Cm T (sz T)):=by
  refine(List.perm_ext_iff_of_nodup (List.pairwise_map.2 (Mg ?_ List.nodup_range)) iK).2 λx=>?_
  .intro a b ha F D e;exact D (Nw (Cg.1 ha) (Cg.1 F) (X.em.inj _ _ (Cb X.wf a) (Cb X.wf b) e))
  .rw[<-pW hT hg,<-I,BX];constructor
   .rintro⟨k,_,rfl⟩;exact⟨_,Cb X.wf k,rfl⟩
   .rintro⟨z,C,rfl⟩;exact⟨num _ z,Cg.2 (Em C X.wf),by rw[EY X.wf C]⟩
 simpa using J.length_eq
theorem sG {T:Tw}:(Cm T (sz T)).length<=sz T:=by
 unfold Cm;rw[BC];exact Ae (List.length_filter_le _ _) (by simp)
theorem jT {T:Tw}(hT:Wf T)(hg:AJ.Good T)(B:GQ T):∃k,0<k/\sz T=k*(Cm T (sz T)).length/\k∣(Bo T T T.length []).length:=by
 have h:=jM hT hg B;unfold Cm;rw[BC];exact h
theorem jU (T:Tw)(hT:Wf T)(V:Small T)(hg:AJ.Good T)(S:EN.Pr T)(i:sz T<=128)(w:World)(b o:Nat)(X:BH Any w b o (AZ T)):
  Calls Tryz.prog 50 #[.pointer (some ⟨b,o,none⟩),.slice none 0 0] w (Lh T (Cm T (sz T)) w):=by
 obtain⟨B,Q⟩:∃B,w.heap.size=B:=⟨_,rfl⟩;obtain⟨C,I⟩:∃C,C=w.alloc (.cells #[.pointer (some ⟨b,o,none⟩)] 59):=⟨_,rfl⟩;obtain⟨D,F⟩:∃D,D=C.alloc (.cells #[.slice none 0 0] 25):=⟨_,rfl⟩;have J:C.heap.size=B+1:=by rw[I,<-Q];simp
 have r:D.heap.size=B+2:=by rw[F];simp[J]
 have L:Below w.heap.size w C:=by rw[I];exact AY.alloc AV _
 have O:Below C.heap.size C D:=by rw[F];exact AY.alloc AV _
 have R:C.cell? ⟨B,0,none⟩=some (.pointer (some ⟨b,o,none⟩)):=by rw[I,<-Q];exact Ar _ _ _ _ _ (0,0) (Aj w _)
 have l:D.cell? ⟨B+1,0,none⟩=some (.slice none 0 0):=by rw[F,<-J];exact Ar _ _ _ _ _ (0,0) (Aj C _)
 have j:D.cell? ⟨B,0,none⟩=some (.pointer (some ⟨b,o,none⟩)):=(O.cell (p:=⟨B,0,none⟩) (show B<C.heap.size by omega)).trans R;have N:Below w.heap.size w D:=L.trans (O.mono L.size);have K:=AB N;have h:=AB (lC T hT V hg S i D b o B (B+1) (X.keep (AO N)) j l (by omega) (by omega));have q:∀(U:Fn) (first cap:Array Value) (w:World),(Instr.makeFunc U first cap).run Tryz.prog w= .ok (.func U first cap) w:=λ_ _ _ _=>rfl;clear hT V hg S X L O N R;go_enter Tryz.func50,Tryz.ntmps50;go_upto_region 1 with fail;rw[<-I,<-F];clear F I Q J;go_wp2_with (go_at_call 96;refine h.AA.mono ?_;rintro e a ⟨v,us,rfl,Y,W,Z⟩;have d:=AB (show Lh T (Cm T (sz T)) w (.returned v) a from⟨v,us,rfl,Y,AQ.mono W (λk g=>Ae K.AA.size g),K.AA.trans (Z.mono K.AA.size)⟩);clear Y W Z);go_ret;exact d.AA
theorem gX (T:Tw)(i:Ba.BR (AZ T))(s:sz T<=128)(w:World)(F I K:Value)(a:Av Any w F I K (AZ T)):
  Calls Tryz.prog 21 #[.agg #[F,I,K]] w (λe w'=>∃k:Nat,e= .returned (.tuple #[.int .i64 (k:Int),.int .i64 0])/\0<k/\k∣(Bo T T T.length []).length/\Below w.heap.size w w'):=by
 obtain⟨hT,Q,D,C⟩:=EM.FJ i;obtain⟨g,hg⟩:∃g,w.heap.size=g:=⟨_,rfl⟩;obtain⟨B,L⟩:∃B,B=w.alloc (.cells #[F,I,K] 28):=⟨_,rfl⟩;have N:Below w.heap.size w B:=by rw[L];exact AY.alloc AV _
 have b5:B.heap.size=g+1:=by rw[L,<-hg];simp
 have j:B.heap[g]?=some (.cells #[F,I,K] 28 (0,0)):=by rw[L,<-hg];exact Aj w _
 have R:∀(W:World),Below B.heap.size B W->BH Any W g 0 (AZ T):=λW h=>by
  obtain⟨p0,p1,p2⟩:=(Aa ((h.block g (by omega)).trans j)).1;have a0:g<W.heap.size:=by have:=h.size;omega
  exact⟨trivial,a0,_,_,_,p0,p1,p2,(a.keep (AO N)).keep (AO (S:=Any) h)⟩
 obtain⟨k,a1,V,q⟩:=jT hT D C;obtain⟨m,O⟩:∃m,(Cm T (sz T)).length=m:=⟨_,rfl⟩;obtain⟨z,b⟩:∃z,sz T=z:=⟨_,rfl⟩;have HK:=AB (And.intro a1 q);have b6:0<m:=by
  have:=FM hT;rw[V,O]at this;exact Nat.pos_of_mul_pos_left this
 have b9:wrap64 (((k:Int)*(m:Int)).tdiv (m:Int))=(k:Int):=by
  have d:k*1<=k*m:=Md k b6;rw[<-O,<-V]at d;rw[Int.mul_tdiv_cancel _ (by omega)];unfold wrap64;omega
 have a6:=AB (Mi.LA B F I K (AZ T) (a.keep (AO N)));have b4:=AB i;have a9:=AB (λ(W:World) (h:Below B.heap.size B W)=>show Calls Tryz.prog 48 #[.pointer (some ⟨g,0,none⟩)] W (λe w'=>e= .returned (.int .i64 (z:Int))/\Below W.heap.size W w') from by rw[<-b];exact Gz.Gs T hT Q.1 (by omega) W g 0 (R W h));have a8:=AB (λ(W:World) (h:Below B.heap.size B W)=>jU T hT Q D C s W g 0 (R W h));have b0:=AB (λ(W:World) (h:Below B.heap.size B W) (Y:Value) (us:List (List Nat)) (J:Dl T (Cm T (sz T)) us) (U:AQ Any W Y (us.map ints))=>show Calls Tryz.prog 49 #[.pointer (some ⟨g,0,none⟩),Y] W (λe w'=>e= .returned (.int .i64 (m:Int))/\Below W.heap.size W w') from by
  have b3:=(Pg hT D C J).1;have X:=Pq hT D C b3;have d:=Vh.WZ T Q W g 0 Y us (R W h) U (by have:=J.le;have:=Q.1;omega) (λu U=>⟨J.el u U,J.dep u U⟩) (by rw[ZO hT D C J];have:=sG (T:=T);omega);rwa[ZO hT D C J,O]at d)
 have HB:=AB (λ(W:World) (h:Below B.heap.size B W)=>N.trans (h.mono N.size));have hq:(z:Int)=(k:Int)*(m:Int):=by rw[<-b,V,O];simp
 have a7:B.cell? ⟨g,0,none⟩=some F/\B.cell? ⟨g,1,none⟩=some I/\B.cell? ⟨g,2,none⟩=some K:=(Aa j).1;obtain⟨c0,c1,c2⟩:=a7;have a0:g<B.heap.size:=by omega
 clear a N b5 j hT Q D C i R V a1 q O b s;go_enter Tryz.func21,Tryz.ntmps21;go_upto_region 1 with fail;rw[<-L];clear L hg;go_upto_region 3 with(go_at_call 47;refine a6.AA.mono ?_;rintro e w1 ⟨r,rfl,hr,p⟩;obtain rfl:r=true:=hr.2 b4.AA;have x:=AB p;have b1:=AB (a9.AA w1 p);clear hr p);go_wp2_with (first|(go_at_call 48;refine b1.AA.mono ?_;rintro e w2 ⟨rfl,a2⟩;have l:=AB (x.AA.trans (a2.mono x.AA.size));have b8:=AB (a8.AA w2 l.AA);clear a2)|(go_at_call 50;refine b8.AA.mono ?_;rintro e w3 ⟨v,us,rfl,a4,y,a5⟩;have Z:=AB (l.AA.trans (a5.mono l.AA.size));have b7:=AB (b0.AA w3 Z.AA v us a4 (AQ.mono y λ_ _=>trivial));clear a4 y a5)|(go_at_call 49;refine b7.AA.mono ?_;rintro e w4 ⟨rfl,a3⟩;have b2:=AB (HB.AA w4 (Z.AA.trans (a3.mono Z.AA.size)));clear a3));rw[b9];go_ret2;exact⟨k,rfl,HK.AA.1,HK.AA.2,b2.AA⟩
end dx
namespace eB
open RowKit AJ Val BN Dn NF Lp Hz
open BU(Any)
open Bj(Aa)
theorem lD (T:Tw)(hT:Wf T)(hs:Small T)(hg:AJ.Good T)(w:World)(F I J vi:Value)(im:List (List Nat))(x:Av Any w F I J (AZ T))(hi:AQ Any w vi (im.map ints))(v:∀c∈im,El T c)
  (R:∀r∈Db T,(∀l∈r,DZ im.length l)/\r.length<=1000) (hn:(Db T).length<=1000) (a4:im.length<=1000):
  Calls Tryz.prog 75 #[.agg #[F,I,J],.agg #[F,I,J],vi] w (Ff (∀r∈Db T,Bb T im r=AJ.one T) w):=by
 obtain⟨aI,cI,rfl,_,_⟩:=Am.form hi;obtain⟨m,X⟩:∃m,im.length=m:=⟨_,rfl⟩;rw[BC,X]at hi ⊢;rw[X]at R a4;obtain⟨n,p⟩:∃n,(Db T).length=n:=⟨_,rfl⟩;rw[p]at hn;obtain⟨g,j⟩:∃g,w.heap.size=g:=⟨_,rfl⟩;obtain⟨B,N⟩:∃B,B=(w.alloc (.cells #[F,I,J] 28)).alloc (.cells #[F,I,J] 28):=⟨_,rfl⟩;have Q:Below w.heap.size w B:=by rw[N];exact(AY.alloc AV _).alloc (by simp) _
 have b7:B.heap.size=g+2:=by rw[N,<-j];simp
 have a9:B.heap[g]?=some (.cells #[F,I,J] 28 (0,0)):=by rw[N,<-j];exact(Ji _ _ (by simp)).trans (Aj w _)
 have a7:B.heap[g+1]?=some (.cells #[F,I,J] 28 (0,0)):=by rw[N,<-j];exact Bj.IZ w _ _
 have b1:=AB (λ(W:World) (h:Below B.heap.size B W)=>And.intro (Aa ((h.block g (by omega)).trans a9)).1 (And.intro (Aa ((h.block (g+1) (by omega)).trans a7)).1 (And.intro (show g<W.heap.size by have:=h.size;omega) (show g+1<W.heap.size by have:=h.size;omega))));have b8:=AB (eD.gM T hT hs B F I J (x.keep (AO Q)));have c3:=AB (λ(V:World) (L:Keep Any B V) (a:Option Addr) (q c:Nat) (r:List Int) (D:r∈Db T) (C:r.length=q) (hv:AP Any V (.slice a q c) r)=>eG.lF T hT hs hg V F I J a aI q c m cI r im ((x.keep (AO Q)).keep L) C (by rw[<-C];exact(R r D).2) X a4 hv ((hi.keep (AO Q)).keep L) v (R r D).1);have b9:=AB (λr (D:r∈Db T)=>R5 hT hg v r (by rw[X];exact(R r D).1));have HB:=AB (λ(W:World) (h:Below B.heap.size B W)=>Q.trans (h.mono Q.size));have S:=AB p;obtain⟨⟨p0,p1,p2⟩,⟨q0,q1,q2⟩,l0,l1⟩:=b1.AA B AY;have b6:=AB hT;clear x hi v R hT hs hg Q b7 a9 a7 p X;go_enter Tryz.func75,Tryz.ntmps75;go_upto_region 1 with fail;rw[<-N];clear N j;go_wp2_with (go_at_call 133;refine b8.AA.mono ?_;rintro e O ⟨v1,rfl,h1,b0⟩;have s:=AB (AQ.mono (S':=Any) h1.sl (λ_ _=>trivial));have Y:=AB b0;obtain⟨a1,c1,rfl,_,_⟩:=Am.form s.AA;rw[S.AA]at s ⊢; clear h1 b0);go_loopw [8] (λy wr=>∃i:Nat,i<=n/\y= .int .i64 (i:Int)/\Hid (∀r∈(Db T).take i,Bb T im r=AJ.one T)/\Hid (Below O.heap.size O wr)) (λy _=>n-(intOf y).toNat);case atStart=>exact⟨0,AX _,rfl,AB (by simp),AB AY⟩
 case round=>
  obtain⟨i,c7,rfl,U,K⟩:=hrel;have a2:=AB (Y.AA.trans (K.AA.mono Y.AA.size));by_cases a0:i<n
  .obtain⟨r,D⟩:∃r,(Db T)[i]?=some r:=⟨_,AU (by rw[S.AA];exact a0)⟩;have b:=Af D;obtain⟨bR,oR,u,eR,_,c6,b4,Z⟩:=Am.get (AQ.keep s.AA (AO K.AA)) D;cases eR;obtain⟨aU,cU,rfl,_,_⟩:=Am.form Z;obtain⟨q,C⟩:∃q,r.length=q:=⟨_,rfl⟩;rw[C]at Z b4;obtain⟨⟨c0,c5,c2⟩,⟨d0,d1,d2⟩,l0,l1⟩:=b1.AA wr a2.AA;have HC:=AB (λ(V:World) (L:Keep Any wr V)=>c3.AA V ((AO a2.AA).trans L) aU q cU r b C (Z.keep L));have b5:=AB (Dr.YZ b6.AA (b9.AA r b));have b2:=AB (show∀q∈(Db T).take (i+1),q∈(Db T).take i\/q=r from λq C=>by
    rw[EL,D]at C;simpa using C)
   have c8:(i:Int)<(n:Int):=by omega
   have c4:(0:Int)<=(i:Int):=by omega
   have a5:=AB a0;have b3:=AB b;clear D b Z a0 C;go_upto_region 5 with fail;go_region_law (first|(go_simp;go_at_call 134;refine(HC.AA _ (by first|exact AL.drew|exact AL)).mono ?_;rintro e w3 ⟨v3,rfl,a6,a3⟩;have d:=AB (show Below O.heap.size O w3 from by first|exact K.AA.trans (a3.mono K.AA.size)|exact(Df.GA K.AA ⟨1,rfl⟩).trans (a3.mono K.AA.size));have HZ:=AB (λV (L:Keep Any w3 V)=>Oq.lG V v3 (Bb T im r) ((a6.sl.mono λ_ _=>trivial).keep L));clear a6 a3)|(go_simp;go_at_call 107;refine(HZ.AA _ (by first|exact AL.drew|exact AL)).mono ?_;rintro e w5 ⟨z,rfl,hz,rfl⟩;have a8:=AB (hz.trans b5.AA);clear hz));all_goals
    (cases z with
    |true=>
     have S:=AB (show∀q∈(Db T).take (i+1),Bb T im q=AJ.one T from λq C=>by
      rcases b2.AA q C with h|rfl
      .exact U.AA q h
      .exact a8.AA.1 rfl)
     clear U K;go_wp2_with fail;go_roundw;case rel=>exact⟨i+1,a5.AA,by go_num,S,AB (by first|exact d.AA|exact Df.GA d.AA ⟨1,rfl⟩)⟩
     case measure=>have:=a5.AA;simp[intOf];omega
    |false=>
     have HF:=AB (λ(V:World) (hb:Below O.heap.size O V)=>show Ff (∀r∈Db T,Bb T im r=AJ.one T) w (.returned (.bool false)) V from⟨false,rfl,⟨λe=>Bool.noConfusion e,λh=>Bool.noConfusion (a8.AA.2 (h r b3.AA))⟩,HB.AA V (Y.AA.trans (hb.mono Y.AA.size))⟩);clear U K;go_wp2_with fail;go_ret;exact HF.AA _ (by first|exact d.AA|exact Df.GA d.AA ⟨1,rfl⟩))
  .obtain rfl:i=n:=by omega
   have p:¬(i:Int)<(i:Int):=by omega
   have HF:=AB (show Ff (∀r∈Db T,Bb T im r=AJ.one T) w (.returned (.bool true)) wr from⟨true,rfl,⟨λ_ r D=>U.AA r (by rw[<-S.AA,FO];exact D),λ_=>rfl⟩,HB.AA _ a2.AA⟩);clear U K;go_wp2_with fail;go_ret;exact HF.AA
end eB
namespace Vk
open RowKit AJ Val Ba BN CP Fe SF Kl Kq Hy
open BU(Any)
theorem TK (w:World)(C D F d:Value)(P:BZ)(l:List (List Int))(y:Av Any w C D F P)(S:AQ Any w d l)(u:∀x∈P.os,Bw x=true):
  Calls Tryz.prog 74 #[.agg #[C,D,F],d] w (CO (∀r∈l,Be P.os 0 r) w):=by
 have HP:=AB y;have HU:=AB S;have a5:=AB (λW vx r h1 h2=>V6 W C D F vx P r h1 h2 u);obtain⟨aU,cU,rfl,g,Z⟩:=Am.form S;obtain⟨n,X⟩:∃n,l.length=n:=⟨_,rfl⟩;have p:=AB X;rw[X]at HU g ⊢;have a8:(n:Int)<=9223372036854775807:=by unfold maxLen at Z;omega
 obtain⟨O,R⟩:∃O,O=w.alloc (.cells #[C,D,F] 28):=⟨_,rfl⟩;have a3:=AB (show Below (w.heap.size+1) (w.alloc (.cells #[C,D,F] 28)) O by rw[R];exact BB _ _);clear y S u X g Z;go_enter Tryz.func74,Tryz.ntmps74;go_upto_region 1 with fail;rw[<-R];clear R;go_wp2_with fail;go_loopw [5] (λV wr=>∃k:Nat,k<=n/\V= .int .i64 (k:Int)/\Hid (∀j r,j<k->l[j]?=some r->Be P.os 0 r)/\Hid (Below (w.heap.size+1) (w.alloc (.cells #[C,D,F] 28)) wr)) (λV _=>n-(intOf V).toNat);case atStart=>exact⟨0,AX _,rfl,AB (λj r h=>absurd h (CS _)),a3⟩
 case round=>
  obtain⟨k,hk,rfl,K,N⟩:=hrel;obtain⟨⟨a,v,e2⟩,B,Q,a2⟩:=bx1 N.AA;by_cases z:k<n
  .obtain⟨x,U⟩:∃x,l[k]?=some x:=⟨_,AU (by rw[p.AA];exact z)⟩;obtain⟨bU,oU,q,rfl,_,a1,s,hq⟩:=Am.get HU.AA U;have a4:=(B.cell (b:=bU) (o:=oU+k) trivial a1).trans s;have b1:=Ah a1 B.size;have HX:=AB U;have HQ:=AB (AP.keep hq B);have a7:=AB (HP.AA.keep B);have b2:(k:Int)<(n:Int):=by omega
   have a9:(0:Int)<=(k:Int):=by omega
   have b0:w.heap.size<wr.heap.size:=by omega
   clear U s hq B Q;go_wp2_with fail;go_region_held3 (λw'=>(∀b o,b<wr.heap.size->w'.cell? ⟨b,o,none⟩=wr.cell? ⟨b,o,none⟩)/\Keep (λ_=>True) wr w')
    (first|exact Ap (by repeat(first|exact Ab|exact AL|refine AR ?_ ‹_›)))
    (first|(go_at_call 132;refine(a5.AA _ q x (a7.AA.keep (by repeat(first|exact AL.drew|exact AL))) (HQ.AA.keep (by repeat(first|exact AL.drew|exact AL)))).mono ?_;rintro e w6 ⟨r,rfl,I,i⟩))
   rename_i a6;clear a6;have a0:=AB (N.AA.trans ((((BB wr.heap.size wr).drew).trans i).mono a2));clear i a4 a v e2 N;cases r with
   |false=>
    have Y:=AB (show CO (∀r∈l,Be P.os 0 r) w (.returned (.bool false)) w6 from CO.f (λh=>Bool.noConfusion (I.2 (h x (Af HX.AA)))) (bx1 a0.AA).2.2.1);clear I K;go_wp2_with fail;go_ret;exact Y.AA
   |true=>
    have HN:=AB (show∀j r,j<k+1->l[j]?=some r->Be P.os 0 r from λj r L J=>by
     rcases DF.1 L with h|h
     .exact K.AA j r h J
     .subst h;rw[HX.AA]at J;injection J with J;rw[<-J];exact I.1 rfl)
    clear I K;go_wp2_with fail;go_roundw;case rel=>exact⟨k+1,by omega,by go_num,HN,a0⟩
    case measure=>simp[intOf];omega
  .obtain rfl:k=n:=by omega
   have Y:=AB (show CO (∀r∈l,Be P.os 0 r) w (.returned (.bool true)) wr from CO.t (λr I=>by
    obtain⟨j,L⟩:=Eb I;exact K.AA j r (by have:=(Ak.1 L).1;rw[p.AA]at this;exact this) L) Q)
   clear K N B Q a2 z a v e2;go_wp2_with fail;go_ret;exact Y.AA
def vX (T:Tw)(im:List (List Nat))(w:World)(e:Ending)(w':World):Prop:=∃v us,e= .returned v/\Dl T im us/\AQ Any w' v (us.map ints)/\Below w.heap.size w w'
theorem jV (T:Tw)(hT:Wf T)(N:Small T)(hg:AJ.Good T)(V:EN.Pr T)(w:World)(L I C F:Value)(im:List (List Nat))(O:Av Any w L I C (AZ T))(hi:AQ Any w F (im.map ints))(Q:∀x∈im,El T x)(W:im.length<=T.length):
  Calls Tryz.prog 76 #[.agg #[L,I,C],F] w (vX T im w):=by
 have g:=N.1;rcases Nat.eq_zero_or_pos T.length with K|K
 .obtain rfl:T=[]:=Di K;obtain rfl:im=[]:=Di (by simpa using W);obtain⟨U,R,a,Z,h,i,rfl,-⟩:=O.open;refine(Ux.Wh w I C F U R hi).mono ?_;rintro e w' ⟨v,rfl,D,J⟩;have B:=FE.Oo (Ct hT hg) (im:=[]) (λc B=>by simp at B) (FE.start (Ct hT hg) (λc B=>by simp at B));exact⟨v,[],rfl,⟨_,λ_=>none,B,λd=>⟨λ_=>rfl,λy X=>by cases X⟩,rfl⟩,D,J⟩
 .refine(Ml.Wx T hT N hg V K w L I C F im O hi Q (by omega)).mono ?_;rintro e w' ⟨v,tl,b,rfl,D,_,J,Y,S⟩;exact⟨v,_,rfl,⟨_,_,D,uX hT hg D J,rfl⟩,Y,S⟩
end Vk
namespace Vl
open RowKit AJ Val BN Dk Lr Sk Sl Dn NF Lp Hz IA
open BU(Any)
open Bj(Aa)
theorem Wy (T:Tw)(R:Ba.BR (AZ T))(w:World)(vO U Y vi:Value)(ls:List (List Int))(hP:Av Any w vO U Y (AZ T))(hi:AQ Any w vi ls):
  Calls Tryz.prog 34 #[.agg #[vO,U,Y],vi] w (Ff (Cc (AZ T) ls) w):=by
 obtain⟨hT,J,K,S⟩:=EM.FJ R;obtain⟨aI,cI,rfl,_,_⟩:=Am.form hi;obtain⟨I,a9⟩:∃n,ls.length=n:=⟨_,rfl⟩;rw[a9]at hi ⊢;obtain⟨v,cO,rfl,_,_⟩:=Am.form hP.os;obtain⟨p,a8⟩:∃n,(AZ T).os.length=n:=⟨_,rfl⟩;rw[a8]at hP ⊢;obtain⟨g,hg⟩:∃g,w.heap.size=g:=⟨_,rfl⟩;obtain⟨B,u⟩:∃B,B=w.alloc (.cells #[.slice v p cO,U,Y] 28):=⟨_,rfl⟩;have a1:Below w.heap.size w B:=by rw[u];exact AY.alloc AV _
 have c6:B.heap.size=g+1:=by rw[u,<-hg];simp
 have c2:B.heap[g]?=some (.cells #[.slice v p cO,U,Y] 28 (0,0)):=by rw[u,<-hg];exact Aj w _
 have d:=AB (λ(W:World) (h:Below B.heap.size B W)=>And.intro (Aa ((h.block g (by omega)).trans c2)).1 (show g<W.heap.size by have:=h.size;omega));have j:=AB (λ(V:World) (F:Keep Any B V)=>And.intro ((hP.keep (AO a1)).keep F) (AQ.keep (AQ.keep hi (AO a1)) F));have HB:=AB (λ(W:World) (h:Below B.heap.size B W)=>a1.trans (h.mono a1.size));have a3:=AB (λ(W:World) (C:Below B.heap.size B W) (h:¬Cc (AZ T) ls)=>show Ff (Cc (AZ T) ls) w (.returned (.bool false)) W from⟨false,rfl,⟨λe=>Bool.noConfusion e,λh'=>absurd h' h⟩,HB.AA W C⟩);have b0:=AB (λ(V:World) (F:Keep Any B V)=>Vk.TK V (.slice v p cO) U Y (.slice aI I cI) (AZ T) ls (j.AA V F).1 (j.AA V F).2 (Kq.Po R));have d0:=AB (And.intro hT (And.intro J (And.intro K (And.intro S R))));have a0:=AB (And.intro a9 (show T.length=p by rw[<-a8,Jv]));have q0:=λx:BW B.heap.size B=>(d.AA x.1 x.2).1.1;have q1:=λx:BW B.heap.size B=>(d.AA x.1 x.2).1.2.1;have q2:=λx:BW B.heap.size B=>(d.AA x.1 x.2).1.2.2;obtain⟨⟨p0,p1,p2⟩,l0⟩:=d.AA B AY;clear hP hi a1 c6 c2 hT J K S a9 a8;go_enter Tryz.func34,Tryz.ntmps34;go_upto_region 1 with fail;rw[<-u];clear u hg;by_cases b4:I=p
 rotate_left
 .have hd:((I:Int)==(p:Int))=false:=by simp;omega
  have L:=AB (show¬Cc (AZ T) ls from by
   rintro⟨T',a,e,rfl,_,N⟩;obtain rfl:=Ba.FK e;have h1:=N.len;have h2:=a0.AA.1;rw[BC]at h2;have h3:=a0.AA.2;omega)
  have HR:=AB (λ(V:World) (C:Below B.heap.size B V)=>a3.AA V C L.AA);clear b4 R;refine O3 B.heap.size B AY (by kernel_rfl) (by kernel_rfl) ?_;repeat(go_big_quiet_step (fail))
  refine wpQuiet_nil ?_;intro O Q;have C:Below B.heap.size B O:=by obtain⟨x1,rfl⟩:=Q;exact x1.2
  clear Q;have b:=AB (HR.AA O C);clear C;go_wp2_with fail;go_ret;exact b.AA
 .subst b4;by_cases N:∀r∈ls,Be (AZ T).os 0 r
  rotate_left
  .have L:=AB (show¬Cc (AZ T) ls from by
    rintro⟨T',a,e,rfl,_,s⟩;obtain rfl:=Ba.FK e;exact N λr D=>by
     obtain⟨c,hc,rfl⟩:=BX.1 D;exact Ph (s.el c hc))
   have HR:=AB (λ(V:World) (C:Below B.heap.size B V)=>a3.AA V C L.AA);have z:=AB N;have HC:=AB (λx:BW B.heap.size B=>(b0.AA x.1 (AO x.2)).mono (λe w' h=>show e= .returned (.bool false)/\Below x.1.heap.size x.1 w' from by
    obtain⟨r,rfl,D,C⟩:=h;refine⟨?_,C⟩;cases r with
    |false=>rfl
    |true=>exact absurd (D.1 rfl) z.AA))
   clear N R;refine O3 B.heap.size B AY (by kernel_rfl) (by kernel_rfl) ?_;repeat(go_big_quiet_step ((first|(go_at_call 74;exact Qd AV (HC.AA _)))))
   refine wpQuiet_nil ?_;intro O Q;have C:Below B.heap.size B O:=by obtain⟨x1,rfl⟩:=Q;exact x1.2
   clear Q;have b:=AB (HR.AA O C);clear C;go_wp2_with fail;go_ret;exact b.AA
  .obtain⟨a,rfl,i⟩:=Uf N;obtain⟨hT,J,K,S,-⟩:=d0.AA;have a4:a.length=T.length:=by rw[a0.AA.2,<-a0.AA.1,BC]
   have b6:=J.1;have b9:=AB (λ(V:World) (F:Keep Any B V)=>eB.lD T hT J K V (.slice v I cO) U Y (.slice aI I cI) a (j.AA V F).1 (j.AA V F).2 i (λr D=>by rw[a4];exact(Ra hT J).1 r D) (Ra hT J).2 (by omega));have c3:=AB (YS hT K i a4);have b7:=AB N;by_cases q:∀r∈Db T,Bb T a r=AJ.one T
   rotate_left
   .have L:=AB (show¬Cc (AZ T) (a.map ints) from by
     rintro⟨T',a',e,e2,_,s⟩;obtain rfl:=Ba.FK e;obtain rfl:=Gm.MJ e2;exact q (c3.AA.1 s.rel))
    have HR:=AB (λ(V:World) (C:Below B.heap.size B V)=>a3.AA V C L.AA);have z:=AB q;have HC:=AB (λx:BW B.heap.size B=>(b0.AA x.1 (AO x.2)).mono (λe w' h=>show e= .returned (.bool true)/\Below x.1.heap.size x.1 w' from by
     obtain⟨r,rfl,D,C⟩:=h;obtain rfl:r=true:=D.2 b7.AA;exact⟨rfl,C⟩))
    have c8:=AB (λx:BW B.heap.size B=>(b9.AA x.1 (AO x.2)).mono (λe w' h=>show e= .returned (.bool false)/\Below x.1.heap.size x.1 w' from by
     obtain⟨r,rfl,D,C⟩:=h;refine⟨?_,C⟩;cases r with
     |false=>rfl
     |true=>exact absurd (D.1 rfl) z.AA))
    clear N R q hT J K S i a4 b6;refine O3 B.heap.size B AY (by kernel_rfl) (by kernel_rfl) ?_;repeat(go_big_quiet_step ((first|(go_at_call 74;exact Qd AV (HC.AA _))|(go_at_call 75;exact Qd AV (c8.AA _)))))
    refine wpQuiet_nil ?_;intro O Q;have C:Below B.heap.size B O:=by obtain⟨x1,rfl⟩:=Q;exact x1.2
    clear Q;have b:=AB (HR.AA O C);clear C;go_wp2_with fail;go_ret;exact b.AA
   .have c9:=AB (λ(V:World) (F:Keep Any B V)=>Vk.jV T hT J K S V (.slice v I cO) U Y (.slice aI I cI) a (j.AA V F).1 (j.AA V F).2 i (by omega));have c4:=AB (λus (hc:Hy.Dl T a us)=>Xa hT K S i (c3.AA.2 q) hc);have b:=AB q;have b5:=AB (show T.length=I from a0.AA.2);have c7:=AB R;clear N R q hT J K S i a4 b6 q0 q1 q2;go_wp2_with fail;have l:Below B.heap.size B B:=BB _ _;go_region_law (first|(go_simp;go_at_call 74;refine(b0.AA _ (by first|exact AO l|exact(AO l).drew)).mono ?_;rintro e w3 ⟨r,rfl,D,b3⟩;obtain rfl:r=true:=D.2 b7.AA;have Z:Below B.heap.size B w3:=(by first|exact l.trans (b3.mono l.size)|exact(Df.GA l ⟨1,rfl⟩).trans (b3.mono l.size));obtain⟨⟨e3,d3,d5⟩,e0⟩:=d.AA w3 Z;clear b3;clear D)|(go_simp;go_at_call 75;refine(b9.AA _ (by first|exact AO Z|exact(AO Z).drew)).mono ?_;rintro e w4 ⟨r4,rfl,b8,b2⟩;obtain rfl:r4=true:=b8.2 b.AA;have X:Below B.heap.size B w4:=(by first|exact Z.trans (b2.mono Z.size)|exact(Df.GA Z ⟨1,rfl⟩).trans (b2.mono Z.size));obtain⟨⟨d4,d8,d2⟩,d9⟩:=d.AA w4 X;clear b2;clear b8)|(go_simp;go_at_call 76;refine(c9.AA _ (by first|exact AO X|exact(AO X).drew)).mono ?_;rintro e w5 ⟨v5,us,rfl,c0,c1,b1⟩;obtain⟨a5,c5,rfl,_,_⟩:=Am.form c1;obtain⟨m5,a7⟩:∃m,us.length=m:=⟨_,rfl⟩;rw[BC,a7];have a6:=AB (And.intro c0 a7);have a2:Below B.heap.size B w5:=(by first|exact X.trans (b1.mono X.size)|exact(Df.GA X ⟨1,rfl⟩).trans (b1.mono X.size));obtain⟨⟨d6,e1,d7⟩,d1⟩:=d.AA w5 a2;clear b1;clear c1 c0 a7));all_goals
     (by_cases y:m5=I
      .have L:=AB (λ(V:World) (C:Below B.heap.size B V)=>show Ff (Cc (AZ T) (a.map ints)) w (.returned (.bool true)) V from⟨true,rfl,⟨λ_=>⟨T,a,rfl,rfl,c7.AA,(c4.AA us a6.AA.1).1 (by rw[a6.AA.2,y,b5.AA])⟩,λ_=>rfl⟩,HB.AA V C⟩);have hd:((m5:Int)==(I:Int))=true:=by simp[y]
       clear y;go_wp2_with fail;go_ret;rw[hd];exact L.AA _ (by first|exact a2|exact Df.GA a2 ⟨1,rfl⟩)
      .have z:=AB (show¬Cc (AZ T) (a.map ints) from by
        rintro⟨T',a',e,e2,_,s⟩;obtain rfl:=Ba.FK e;obtain rfl:=Gm.MJ e2;exact y (by rw[<-a6.AA.2,(c4.AA us a6.AA.1).2 s,b5.AA]))
       have L:=AB (λ(V:World) (C:Below B.heap.size B V)=>a3.AA V C z.AA);have hd:((m5:Int)==(I:Int))=false:=by simp;omega
       clear y;go_wp2_with fail;go_ret;rw[hd];exact L.AA _ (by first|exact a2|exact Df.GA a2 ⟨1,rfl⟩))
end Vl
namespace eH
open RowKit AJ Val BN CL GK Dk EF Gj Dn Hz IA Df Gm
open BU(Any)
open Bj(Aa)
theorem lH (w:World)(L N K V:Value)(P:BZ)(ls:List (List Int))(Q:Av Any w L N K P)(hi:AQ Any w V ls):
  Calls Tryz.prog 33 #[.agg #[L,N,K],V] w (Ff (Cc P ls) w):=by
 obtain⟨g,hg⟩:∃g,w.heap.size=g:=⟨_,rfl⟩;obtain⟨B,D⟩:∃B,B=w.alloc (.cells #[L,N,K] 28):=⟨_,rfl⟩;have I:Below w.heap.size w B:=by rw[D];exact AY.alloc AV _
 have X:B.heap.size=g+1:=by rw[D,<-hg];simp
 have U:B.heap[g]?=some (.cells #[L,N,K] 28 (0,0)):=by rw[D,<-hg];exact Aj w _
 have j:=AB (λ(W:World) (h:Below B.heap.size B W)=>And.intro (Aa ((h.block g (by omega)).trans U)).1 (show g<W.heap.size by have:=h.size;omega));have Z:=AB (λ(W:World) (h:Below B.heap.size B W)=>I.trans (h.mono I.size));have Y:=AB (Ry.LA B L N K P (Q.keep (AO I)));obtain⟨⟨p0,z,v⟩,l0⟩:=j.AA B AY;by_cases F:Ba.BR P
 .obtain⟨T,l,b⟩:∃T,P=AZ T/\Ba.BR (AZ T):=by
   obtain⟨T,_,_,e,_⟩:=id F;exact⟨T,e,by rw[<-e];exact F⟩
  subst l;have q:=AB (λ(W:World) (h:Below B.heap.size B W)=>Vl.Wy T b W L N K V ls ((Q.keep (AO I)).keep (AO h)) (AQ.keep (AQ.keep hi (AO I)) (AO h)));have S:=AB F;clear Q hi I X U F b;go_enter Tryz.func33,Tryz.ntmps33;go_upto_region 1 with fail;rw[<-D];clear D hg;go_wp2_with (first|(go_at_call 71;refine Y.AA.mono ?_;rintro e O ⟨r,rfl,C,J⟩;obtain rfl:r=true:=C.2 S.AA;have d:=AB J;obtain⟨⟨c0,x,y⟩,l1⟩:=j.AA O J;have s:=AB (q.AA O J);clear C J)|(go_at_call 34;refine s.AA.mono ?_;rintro e u ⟨r,rfl,C,i⟩;have R:=AB (show Ff (Cc (AZ T) ls) w (.returned (.bool r)) u from⟨r,rfl,C,Z.AA _ (d.AA.trans (i.mono d.AA.size))⟩);clear C i));go_ret;exact R.AA
 .have p:=AB (show¬Cc P ls from λ⟨T,a,e,_,h,_⟩=>F h);have S:=AB F;clear Q hi I X U F;go_enter Tryz.func33,Tryz.ntmps33;go_upto_region 1 with fail;rw[<-D];clear D hg;go_wp2_with (go_at_call 71;refine Y.AA.mono ?_;rintro e O ⟨r,rfl,C,J⟩;obtain rfl:r=false:=(by cases r with|false=>rfl|true=>exact absurd (C.1 rfl) S.AA);have R:=AB (show Ff (Cc P ls) w (.returned (.bool false)) O from⟨false,rfl,⟨λe=>Bool.noConfusion e,λh=>absurd h p.AA⟩,Z.AA _ J⟩);clear C J);go_ret;exact R.AA
theorem jW (T:Tw)(hT:Wf T)(z:Small T)(hg:AJ.Good T)(w:World)(K N Q va j:Value)(x y:List (List Nat))(hP:Av Any w K N Q (AZ T))(ha:AQ Any w va (x.map ints))(J:AQ Any w j (y.map ints))(hx:∀c∈x,El T c)(hy:∀c∈y,El T c)(a7:y.length=T.length)(b5:x.length<=1000):
  Calls Tryz.prog 35 #[.agg #[K,N,Q],va,j] w (KJ ((cmp T x y).map ints) w):=by
 obtain⟨j0,hj,b4,b1,b8⟩:=Bd Iu;obtain⟨aA,cA,rfl,_,_⟩:=Am.form ha;obtain⟨n,hn⟩:∃n,x.length=n:=⟨_,rfl⟩;rw[BC,hn]at ha ⊢;rw[hn]at b5;obtain⟨g,a0⟩:∃g,w.heap.size=g:=⟨_,rfl⟩;obtain⟨B,U⟩:∃B,B=w.alloc (.cells #[K,N,Q] 28):=⟨_,rfl⟩;have F:Below w.heap.size w B:=by rw[U];exact AY.alloc AV _
 have b9:B.heap.size=g+1:=by rw[U,<-a0];simp
 have a9:B.heap[g]?=some (.cells #[K,N,Q] 28 (0,0)):=by rw[U,<-a0];exact Aj w _
 have b0:=AB (λ(W:World) (h:Below B.heap.size B W)=>And.intro (Aa ((h.block g (by omega)).trans a9)).1 (show g<W.heap.size by have:=h.size;omega));have HB:=AB (λ(W:World) (h:Below B.heap.size B W)=>F.trans (h.mono F.size));have HW:=AB F.size;have HA:=AB (AQ.keep ha (AO F));have HN:=AB hn;have G:=BA hT hg;have b7:=AB (λ(V:World) (D:Keep Any B V) (v:Value) (c:List Nat) (O:c∈x) (hv:AP Any V v (ints c))=>show Calls Tryz.prog 60 #[.agg #[K,N,Q],j,v] V (Dz (ints (phi T y c)) V) from by
  have hE:=hx c O;have h:=Iy.PD T hT z hg V K N Q j v y c ((hP.keep (AO F)).keep D) (AQ.keep (AQ.keep J (AO F)) D) hv (by rw[Ad hE,a7];exact Al _) (by have:=z.1;omega) hy (λa ha=>by
   obtain⟨k,D⟩:=Eb ha;obtain⟨L,hL,i⟩:=Gb hE D;have:=z.2 L (Af hL);omega)
  rwa[G.IJ hy]at h)
 have b2:=AB (show∀k c,x[k]?=some c->(cmp T (x.take (k+1)) y).map ints=(cmp T (x.take k) y).map ints++[ints (phi T y c)] from λk c h=>by
  unfold cmp;rw[EL,h];simp)
 have a3:=AB (BL.lit B);have a2:=AB (show Below B.heap.size B (B.alloc (.cells #[] 24)) from AY.alloc AV _);obtain⟨⟨p0,p1,p2⟩,l0⟩:=b0.AA B AY;clear hP ha J hx hy a7 hn z hT hg G F b9 a9;go_enter Tryz.func35,Tryz.ntmps35;go_upto_region 1 with fail;rw[<-U];clear U a0;go_wp2_with fail;go_loopw [7,8] (λov iv wr=>∃(k l:Nat) (a:Option Addr) (c:Nat),k<=n/\l=k/\ov= .slice a l c/\iv= .int .i64 (k:Int)/\Hid (BL B.heap.size wr (.slice a l c) ((cmp T (x.take k) y).map ints))/\Hid (Below B.heap.size B wr)) (λ_ iv _=>n-(intOf iv).toNat);case atStart=>exact⟨0,0,_,_,AX _,rfl,rfl,rfl,a3,a2⟩
 case round=>
  obtain⟨k,l,a,c',c2,rfl,rfl,rfl,b,I⟩:=hrel;clear p0 p1 p2 a3 a2 l0;by_cases i:l<n
  .obtain⟨c,O⟩:∃c,x[l]?=some c:=⟨_,AU (by rw[HN.AA];exact i)⟩;obtain⟨bA,oA,u,eA,_,c7,c3,d⟩:=Am.get (AQ.keep HA.AA (AO I.AA)) (show(x.map ints)[l]?=some (ints c) by rw[Bh,O];rfl);cases eA;have HC:=AB (λ(V:World) (D:Keep Any wr V)=>b7.AA V ((AO I.AA).trans D) u c (Af O) (d.keep D));have b3:=AB (b2.AA l c O);obtain⟨⟨p0,p1,p2⟩,l0⟩:=b0.AA wr I.AA;have c4:(l:Int)<(n:Int):=by omega
   have c8:(0:Int)<=(l:Int):=by omega
   have a6:=AB i;have a8:=AB (show(cmp T (x.take l) y).length=l by unfold cmp;rw[BC,Ec,HN.AA];omega);obtain⟨us,p,h2,h4⟩:=b.AA;rw[BC,a8.AA]at p;have HU:=AB (And.intro h2 h4);have Y:=AB p;have Z:=AB I.AA;obtain⟨q,hq⟩:∃q,(ints (phi T y c)).length=q:=⟨_,rfl⟩;have HQ:=AB hq;clear O d i p h2 h4 b I hq;go_upto_region 5 with fail;go_region_law (first|(go_simp;go_at_call 60;refine(HC.AA _ (by first|exact AL.drew|exact AL)).mono ?_;rintro e R ⟨v5,rfl,s,a1⟩;have C:=AB (show Below wr.heap.size wr R from by first|exact a1|exact(Df.GA AY ⟨1,rfl⟩).trans a1);obtain⟨a5,c5,rfl,_,_⟩:=Am.form s.sl;rw[HQ.AA]at s ⊢; have c0:=AB (show Own B.heap.size R (.slice a5 q c5) (ints (phi T y c)) from KT s Z.AA.size);clear s a1)|(refine Ja _ (by rfl) _ _ _ (by rfl) B.heap.size 24 j0 (.slice none 0 0) 1 24 Tryz.underlying25 hj b4 b1 b8 rfl (by decide) _ l us (by rfl) (Aw Y.AA (S:=Any) (by first|exact(AO C.AA).alloc _|exact((AO C.AA).alloc _).drew|exact((AO C.AA).drew).alloc _) (λ_ _=>trivial)) ⟨R.heap.size,0,none⟩ 1 1 [.slice a5 q c5] (by rfl) (by rfl) (Cw (cs:= #[.slice a5 q c5]) (t:=24) (fr:=(0,0)) (by first|exact Aj R _|exact Aj R.drew _)) (by simp[Value.oneCell']) (by omega) (by unfold maxLen;omega) (by omega) (by have p:=Z.AA.size;have h2:=C.AA.size;simp;omega) _ rfl ?_;intro g6 c6 w6 a4 X _ _;have c1:=AB (show BL B.heap.size w6 (.slice (some ⟨g6,0,none⟩) (l+1) c6) ((cmp T (x.take (l+1)) y).map ints) from by rw[b3.AA];exact BL.push (us:=us) (by rw[BC];exact a8.AA) (Aw Y.AA (S:=Any) (by first|exact(AO C.AA).alloc _|exact((AO C.AA).alloc _).drew|exact((AO C.AA).drew).alloc _) (λ_ _=>trivial)) HU.AA.1 (λk r u hr d=>Aw (HU.AA.2 k r u hr d) (S:=Any) (by first|exact(AO C.AA).alloc _|exact((AO C.AA).alloc _).drew|exact((AO C.AA).drew).alloc _) (λ_ _=>trivial)) (Aw c0.AA (S:=Any) (by first|exact Ab|exact AL|exact AL.drew.alloc _) (λ_ _=>trivial)) a4 X);have b6:=AB (show Below B.heap.size B w6 from by have hz:B.heap.size<=R.heap.size:=Ae Z.AA.size C.AA.size;have J:=Z.AA.trans (C.AA.mono Z.AA.size);first|exact(J.alloc hz _).grown X (by simp;omega) (λg hg=>(Aq Y.AA g hg).1)|exact((J.alloc hz _).drew).grown X (by simp;omega) (λg hg=>(Aq Y.AA g hg).1)|exact(J.drew.alloc hz _).grown X (by simp;omega) (λg hg=>(Aq Y.AA g hg).1));clear a4 X)|fail);all_goals
    go_wp2_with fail;go_roundw;case rel=>exact⟨l+1,_,_,_,a6.AA,rfl,by go_num,by go_num,c1,b6⟩
    case measure=>have:=a6.AA;simp[intOf];omega
  .obtain rfl:l=n:=by omega
   have c9:¬(l:Int)<(l:Int):=by omega
   have HF:=AB (show KJ ((cmp T x y).map ints) w (.returned (.slice a l c')) wr from⟨_,rfl,by
    have h:=b.AA;rw[show x.take l=x by rw[<-HN.AA,FO]]at h;exact BL.mono h HW.AA,HB.AA _ I.AA⟩)
   clear b I;go_wp2_with fail;go_ret;exact HF.AA
theorem gQ (w:World)(Q U O x s:Value)(P:BZ)(Y L:List (List Int))(hP:Av Any w Q U O P)(ha:AQ Any w x Y)(hb:AQ Any w s L):
  Calls Tryz.prog 8 #[.agg #[Q,U,O],x,s] w (Le P Y L w):=by
 obtain⟨g,hg⟩:∃g,w.heap.size=g:=⟨_,rfl⟩;obtain⟨B,i⟩:∃B,B=w.alloc (.cells #[Q,U,O] 28):=⟨_,rfl⟩;have V:Below w.heap.size w B:=by rw[i];exact AY.alloc AV _
 have a8:B.heap.size=g+1:=by rw[i,<-hg];simp
 have a6:B.heap[g]?=some (.cells #[Q,U,O] 28 (0,0)):=by rw[i,<-hg];exact Aj w _
 have D:=AB (λ(W:World) (h:Below B.heap.size B W)=>And.intro (Aa ((h.block g (by omega)).trans a6)).1 (And.intro (show g<W.heap.size by have:=h.size;omega) (And.intro ((hP.keep (AO V)).keep (AO (S:=Any) h)) (And.intro ((ha.keep (AO V)).keep (AO (S:=Any) h)) ((hb.keep (AO V)).keep (AO (S:=Any) h))))));have HB:=AB (λ(W:World) (h:Below B.heap.size B W)=>V.trans (h.mono V.size));have HA:=AB (lH B Q U O x P Y (D.AA B AY).2.2.1 (D.AA B AY).2.2.2.1);have a5:=AB (λ(T:Tw) (J:Ba.BR (AZ T)) (eP:P=AZ T) (W:World) (h:Below B.heap.size B W)=>Vl.Wy T J W Q U O s L (by rw[<-eP];exact(D.AA W h).2.2.1) (D.AA W h).2.2.2.2);clear hP ha hb V a8 a6;go_enter Tryz.func8,Tryz.ntmps8;go_upto_region 1 with fail;rw[<-i];obtain⟨⟨p0,p1,p2⟩,a2,-⟩:=D.AA B AY;clear i hg;by_cases I:Cc P Y
 .by_cases Z:Cc P L
  .obtain⟨T,a,b,rfl,rfl,rfl,J,X,z⟩:=YX I Z;obtain⟨hT,a1,a3,a9⟩:=EM.FJ J;have N:=AB (And.intro I Z);have a0:=AB J;have b0:=AB (λ(W:World) (h:Below B.heap.size B W)=>jW T hT a1 a3 W Q U O x s a b (D.AA W h).2.2.1 (D.AA W h).2.2.2.1 (D.AA W h).2.2.2.2 X.el z.el z.len (by rw[X.len];have:=a1.1;omega));have l:=AB (show Ia (AZ T) (a.map ints) (b.map ints) ((cmp T a b).map ints) 0 from .inr ⟨rfl,T,a,b,rfl,rfl,rfl,J,X,z,rfl⟩);clear I Z J X z hT a1 a3 a9;go_wp2_with (first|(go_at_call 34;refine(a5.AA T a0.AA rfl K R.AA).mono ?_;rintro e p ⟨r,rfl,C,j⟩;obtain rfl:r=true:=C.2 N.AA.2;have y:=AB (R.AA.trans (j.mono R.AA.size));obtain⟨⟨p0,p1,p2⟩,a2,-⟩:=D.AA p y.AA;clear C j)|(go_at_call 33;refine HA.AA.mono ?_;rintro e K ⟨r,rfl,C,F⟩;obtain rfl:r=true:=C.2 N.AA.1;have R:=AB F;obtain⟨⟨p0,p1,p2⟩,a2,-⟩:=D.AA K F;clear C F)|(go_at_call 35;refine(b0.AA p y.AA).mono ?_;rintro e w3 ⟨u,rfl,hu,a7⟩;have q:=AQ.mono (S':=Any) hu.sl (λ_ _=>trivial);obtain⟨aU,cU,rfl,_,_⟩:=Am.form q;obtain⟨nU,a4⟩:∃n,((cmp T a b).map ints).length=n:=⟨_,rfl⟩;rw[a4]at q ⊢; have d:=AB (show Le (AZ T) (a.map ints) (b.map ints) w (.returned (.tuple #[.slice aU nU cU,.int .i64 0])) w3 from⟨_,_,_,0,_,rfl,l.AA,q,HB.AA w3 (y.AA.trans (a7.mono y.AA.size))⟩);clear hu q a7 a4));exact Au (v:=.tuple #[.slice aU nU cU,.int .i64 0]) (by simp[results,Tryz.results8,go_sem]) rfl d.AA
  .obtain⟨T,a,rfl,rfl,J,X⟩:=id I;have a0:=AB J;have N:=AB (And.intro I Z);have l:=AB (show Ia (AZ T) (a.map ints) L [] 1 from .inl ⟨rfl,rfl,λh=>Z h.2⟩);clear I Z J X;go_wp2_with (first|(go_at_call 34;refine(a5.AA T a0.AA rfl K R.AA).mono ?_;rintro e p ⟨r,rfl,C,j⟩;obtain rfl:r=false:=(by cases r with|false=>rfl|true=>exact absurd (C.1 rfl) N.AA.2);have d:=AB (show Le (AZ T) (a.map ints) L w (.returned (.tuple #[.slice none 0 0,.int .i64 1])) p from⟨_,_,_,1,_,rfl,l.AA,OA _,HB.AA p (R.AA.trans (j.mono R.AA.size))⟩);clear C j)|(go_at_call 33;refine HA.AA.mono ?_;rintro e K ⟨r,rfl,C,F⟩;obtain rfl:r=true:=C.2 N.AA.1;have R:=AB F;obtain⟨⟨p0,p1,p2⟩,a2,-⟩:=D.AA K F;clear C F));exact Au (v:=.tuple #[.slice none 0 0,.int .i64 1]) (by simp[results,Tryz.results8,go_sem]) rfl d.AA
 .have N:=AB I;have l:=AB (show Ia P Y L [] 1 from .inl ⟨rfl,rfl,λh=>I h.1⟩);clear I;go_wp2_with (go_at_call 33;refine HA.AA.mono ?_;rintro e K ⟨r,rfl,C,F⟩;obtain rfl:r=false:=(by cases r with|false=>rfl|true=>exact absurd (C.1 rfl) N.AA);have d:=AB (show Le P Y L w (.returned (.tuple #[.slice none 0 0,.int .i64 1])) K from⟨_,_,_,1,_,rfl,l.AA,OA _,HB.AA K F⟩);clear C F);exact Au (v:=.tuple #[.slice none 0 0,.int .i64 1]) (by simp[results,Tryz.results8,go_sem]) rfl d.AA
end eH
end Go.Proofs.YtgjadpmbnejaoaaGreat
