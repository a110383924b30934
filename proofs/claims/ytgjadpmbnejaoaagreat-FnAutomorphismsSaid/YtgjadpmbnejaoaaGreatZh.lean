import Derived.Deep.CutBlock
import Derived.Test.YtgjadpmbnejaoaaGreatZg
/-
  Lemmas for the law FnAutomorphisms, in short spelling.
-/
set_option linter.unusedVariables false
set_option linter.unusedSimpArgs false
set_option maxRecDepth 100000
set_option maxHeartbeats 40000000
namespace Go.Proofs.YtgjadpmbnejaoaaGreat
namespace fI
open RowKit AJ Val Bv Bl Ch Cr Bj Jm NL Ov
structure fJ (n:Nat)(os:List Int)(ps:List (List Nat))(cs:List (List (List Nat))):Prop where
 n6:n<=6
 ol:os.length=n
 pr:∀o∈os,o=2\/o=3\/o=5\/o=7
 pl:ps.length=n
 pv:∀v∈ps,v.length=n/\∀q∈v,q<=7
 cl:cs.length=n
 cv:∀i L,cs[i]?=some L->L.length=n-(i+1)/\∀v∈L,v.length=n/\∀q∈v,q<=7
theorem dH (o:Int)(h:o=2\/o=3\/o=5\/o=7)(w:World):Calls Tryz.prog 272 #[.int .i64 o] w (Fg 1 w):=by
 have B:∀m:Nat,(Lib.decDigits m).length<=1->m<=1000->Calls Tryz.prog 272 #[.int .i64 (m:Int)] w (Fg 1 w):=λm C F=>by
  refine(QM.qW m w (by omega)).mono ?_;rintro e w' ⟨rfl,D⟩;exact⟨_,rfl,by show(Lib.decDigits m).length<=1;exact C,D⟩
 rcases h with rfl|rfl|rfl|rfl
 .exact B 2 (by rw[Lib.decDigits];simp) (by decide)
 .exact B 3 (by rw[Lib.decDigits];simp) (by decide)
 .exact B 5 (by rw[Lib.decDigits];simp) (by decide)
 .exact B 7 (by rw[Lib.decDigits];simp) (by decide)
theorem VI {a b c:World}{B:Nat}(h:Below a.heap.size a b)(D:B<=b.heap.size)(C:Below b.heap.size b c):Below a.heap.size a c:=h.trans (C.mono h.size)
theorem Nr {w:World}{v:Value}{n:Nat}{α:Type}{E:World->Value->α->Prop}{S:Nat->Prop}{l:List α}(h:Am E S w v l)(C:l.length=n):∃a c,v= .slice a n c:=by
 obtain⟨a,c,B,_⟩:=h;exact⟨a,c,by rw[B,C]⟩
theorem qh (n:Nat)(os:List Int)(ps:List (List Nat))(cs:List (List (List Nat)))(h:fJ n os ps cs)(vO vP vC:Value)(w:World)(hV:Av (λ_=>True) w vO vP vC ⟨os,ps.map ints,cs.map (λL=>L.map ints)⟩):
  Calls Tryz.prog 263 #[.agg #[vO,vP,vC]] w (Fg 4000 w):=by
 obtain⟨aO,cO,rfl⟩:=Nr hV.os h.ol;obtain⟨aP,cP,rfl⟩:=Nr hV.ps (n:=n) (by simp[h.pl]);obtain⟨aC,cC,rfl⟩:=Nr hV.cs (n:=n) (by simp[h.cl]);have H:=AB h;have i8:n<=6:=h.n6;have HV:=AB hV;clear h hV;go_enter Tryz.func263,Tryz.ntmps263;go_upto_region 1 with fail;obtain⟨C,y⟩:∃C,C=w.alloc (.cells #[.slice aO n cO,.slice aP n cP,.slice aC n cC] 28):=⟨_,rfl⟩;rw[<-y];have a8:=AB (show Below w.heap.size w C by rw[y];exact AY.alloc AV _);have a4:=AB (λ(W:World) (O:Below C.heap.size C W)=>show(W.cell? ⟨w.heap.size,0,none⟩=some (.slice aO n cO)/\W.cell? ⟨w.heap.size,1,none⟩=some (.slice aP n cP)/\W.cell? ⟨w.heap.size,2,none⟩=some (.slice aC n cC))/\w.heap.size<W.heap.size from by
  have hl:w.heap.size<C.heap.size:=by rw[y];simp
  have hr:C.heap[w.heap.size]?=some (.cells #[.slice aO n cO,.slice aP n cP,.slice aC n cC] 28 (0,0)):=by rw[y];exact Aj _ _
  exact⟨Mm ((O.block _ hl).trans hr),Ah hl O.size⟩)
 have b0:=AB (HV.AA.keep (AO a8.AA));clear y;obtain⟨⟨z,p,e2⟩,a1⟩:=a4.AA C AY;by_cases d0:n=0
 .have hz:((n:Int)==0)=true:=by rw[d0];rfl
  have HF:=AB (show Fg 4000 w (.returned (.string ⟨#[49]⟩)) C from⟨_,rfl,by show 1<=_;omega,a8.AA⟩);clear d0;go_wp2_with fail;go_ret;exact HF.AA
 have hz:((n:Int)==0)=false:=Hq.2 (by omega);clear d0;go_wp2_with fail;go_loopw [4,5] (λd N wr=>∃(i:Nat) (s:ByteArray),i<=n/\s.size<=2*i/\N= .int .i64 (i:Int)/\d= .string s/\Hid (Below C.heap.size C wr)) (λ_ N _=>n-(intOf N).toNat);case atStart=>exact⟨0,_,AX _,Al _,rfl,rfl,AB AY⟩
 case round=>
  clear z p e2 a1;obtain⟨i,s,hi,Z,rfl,rfl,B⟩:=hrel;by_cases R:i<n
  .have e3:(i:Int)<(n:Int):=by omega
   have e6:(0:Int)<=(i:Int):=by omega
   obtain⟨x,l⟩:∃x,os[i]?=some x:=⟨_,AU (by rw[H.AA.ol];exact R)⟩;have b3:=AB (H.AA.pr x (Af l));obtain⟨b',o',u,rfl,_,a9,a5,rfl⟩:=Ce (b0.AA.os.keep (AO B.AA)) l;obtain⟨⟨z,p,e2⟩,a1⟩:=a4.AA wr B.AA;clear l;have q1:(9223372036854775807<s.size+1)=False:=eq_false (by omega);go_upto_if 20 with(fail);go_cut [4] (λv W=>∃D:ByteArray,v= .string D/\D.size<=2*i+1/\W=wr);case first=>
    by_cases d2:i=0
    .have h0:¬0<i:=by omega
     clear d2;go_wp2_with fail;go_meet;exact⟨s,rfl,by omega,rfl⟩
    .have h0:0<i:=by omega
     clear d2;go_wp2_with fail;go_meet;exact⟨_,rfl,by rw[ByteArray.size_append];show _+1<=_;omega,rfl⟩
   case rest=>
    obtain⟨D,rfl,b8,rfl⟩:=hcut;rename World=>wr;have b4:=AB (dH x b3.AA wr);clear Z q1;go_wp2_with (first|(go_at_call 272;refine b4.AA.mono ?_;rintro e w2 ⟨s1,rfl,g7,e7⟩;have q2:(9223372036854775807<D.size+s1.size)=False:=eq_false (by omega))|fail);have a2:=AB (show(D++s1).size<=2*(i+1) from by rw[ByteArray.size_append];omega);have V:=AB (B.AA.trans (e7.mono B.AA.size));clear g7 e7 B b8 q2;go_roundw;case rel=>exact⟨i+1,_,by omega,a2.AA,by go_num,rfl,V⟩
    case measure=>simp[intOf];omega
  .obtain rfl:n=i:=by omega
   have d9:s.size<=12+0*60:=by omega
   have e5:=B;clear B Z R hi;rename World=>w8;go_wp2_with fail;go_loopw [4,6] (λd N wr=>∃(k:Nat) (s:ByteArray),k<=n/\s.size<=12+k*60/\N= .int .i64 (k:Int)/\d= .string s/\Hid (Below C.heap.size C wr)) (λ_ N _=>n-(intOf N).toNat);case atStart=>exact⟨0,_,AX _,d9,rfl,rfl,e5⟩
   case round=>
    clear e5 d9;obtain⟨k,s,q,Z,rfl,rfl,B⟩:=hrel;by_cases R:k<n
    .have e3:(k:Int)<(n:Int):=by omega
     have e6:(0:Int)<=(k:Int):=by omega
     obtain⟨v,a⟩:∃v,ps[k]?=some v:=⟨_,AU (by rw[H.AA.pl];exact R)⟩;have Q:=AB (H.AA.pv v (Af a));obtain⟨b',o',u,rfl,_,a9,a5,I⟩:=Ce (b0.AA.ps.keep (AO B.AA)) (show(ps.map ints)[k]?=some (ints v) by simp[a]);obtain⟨au,cu,rfl⟩:=Nr I (n:=n) (by rw[BK];exact Q.AA.1);obtain⟨⟨z,p,e2⟩,a1⟩:=a4.AA wr B.AA;obtain⟨x,l⟩:∃x,os[k]?=some x:=⟨_,AU (by rw[H.AA.ol];exact R)⟩;have b3:=AB (H.AA.pr x (Af l));obtain⟨bq,oq,uq,rfl,_,h9,i1,rfl⟩:=Ce (b0.AA.os.keep (AO B.AA)) l;have a0:=AB I;have HZ:=AB (sP au n cu (ints v) (by rw[BK];exact Q.AA.1) (by omega) wr I);clear a I l;go_upto_block 3 with(fail);go_cut [4] (λv W=>∃D:ByteArray,v= .string D/\D.size<=s.size+60/\Hid (Below C.heap.size C W));case rest=>
      obtain⟨D,rfl,b8,b6⟩:=hcut;clear a0 HZ B;go_wp2_with fail;go_roundw;case rel=>exact⟨k+1,D,by omega,by omega,by go_num,rfl,b6⟩
      case measure=>simp[intOf];omega
     case first=>
      have b5:=AB (λW (q:Keep (λ_=>True) wr W)=>PH au n cu v Q.AA.1 (by omega) Q.AA.2 W (a0.AA.keep q));have d1:=AB (λW=>Ta k (by omega) W);have b4:=AB (λW=>dH x b3.AA W);have b1:s.size<=400:=by omega
      have c0:(9223372036854775807<s.size+2)=False:=eq_false (by omega);go_upto_if 42 with(go_at_call 107;refine HZ.AA.mono ?_;rintro e Y ⟨r,rfl,rfl⟩);cases r with
      |true=>
       go_wp2_with fail;go_meet;exact⟨s,rfl,by omega,B⟩
      |false=>
       go_upto_region 15 with fail;go_region_held3 (λw'=>(∀b o,b<Y.heap.size->w'.cell? ⟨b,o,none⟩=Y.cell? ⟨b,o,none⟩)/\Keep (λ_=>True) Y w')
        (first|exact Ap (by repeat(first|exact Ab|exact AL|refine Keep.drewN ?_ _|refine AR ?_ ‹_›)))
        (first|(go_at_call 273;refine(d1.AA _).mono ?_;rintro e wa ⟨F,rfl,h5,f9⟩;have c1:(9223372036854775807<s.size+2+F.size)=False:=(eq_false (by omega));have c2:(9223372036854775807<s.size+2+F.size+1)=False:=(eq_false (by omega)))|(go_at_call 272;refine(b4.AA _).mono ?_;rintro e wb ⟨J,rfl,h4,g6⟩;have c3:(9223372036854775807<s.size+2+F.size+1+J.size)=False:=(eq_false (by omega));have c4:(9223372036854775807<s.size+2+F.size+1+J.size+1)=False:=(eq_false (by omega)))|(go_at_call 190;refine(b5.AA _ (by repeat(first|exact Ab|exact AL|refine Keep.drewN ?_ _|refine AR ?_ ‹_›))).mono ?_;rintro e w6 ⟨n6,a6,c6,rfl,⟨l6,a3,c9,-, g8⟩,g0⟩)|(go_at_call 274;refine(Tq a6 n6 c6 l6 a3 (by omega) _ (Gw c9 a3)).mono ?_;rintro e w7 ⟨X,rfl,g1,h3⟩;have c5:(9223372036854775807<s.size+2+F.size+1+J.size+1+X.size)=False:=(eq_false (by omega))))
       have U:Below Y.heap.size Y w7:=(by repeat(first|exact BB _ _|exact AY.drew|refine VI ?_ AV ‹_›));have V:=AB (B.AA.trans (U.mono B.AA.size));have a2:=AB (show(((((((s++⟨#[59,32]⟩)++F)++⟨#[94]⟩)++J)++⟨#[61]⟩)++X):ByteArray).size<=s.size+60 from by
        simp only[ByteArray.size_append];show s.size+2+F.size+1+J.size+1+X.size<=_;omega)
       clear U;go_wp2_with fail;go_meet;exact⟨_,rfl,a2.AA,V⟩
    .obtain rfl:n=k:=by omega
     have f1:s.size<=372+0*360:=by omega
     have d6:=AB B.AA;clear B R q Z;rename World=>w9;go_wp2_with fail;go_loopw [4,7] (λd N wr=>∃(i:Nat) (s:ByteArray),i<=n/\s.size<=372+i*360/\N= .int .i64 (i:Int)/\d= .string s/\Hid (Below C.heap.size C wr)) (λ_ N _=>n-(intOf N).toNat);case atStart=>exact⟨0,_,AX _,f1,rfl,rfl,d6⟩
     case round=>
      clear d6 f1;obtain⟨i,s,hi,Z,rfl,rfl,B⟩:=hrel;by_cases R:i<n
      .have e3:(i:Int)<(n:Int):=by omega
       have e6:(0:Int)<=(i:Int):=by omega
       have h8:i<=6:=by omega
       obtain⟨L,hL⟩:∃L,cs[i]?=some L:=⟨_,AU (by rw[H.AA.cl];exact R)⟩;obtain⟨a7,f2⟩:=H.AA.cv i L hL;obtain⟨K,b9⟩:∃K,n-(i+1)=K:=⟨_,rfl⟩;rw[b9]at a7;have i9:=AB b9;have j2:K<=6:=by omega
       obtain⟨bC,oC,u,rfl,_,b2,f0,I⟩:=Ce b0.AA.cs (show(cs.map (λL=>L.map ints))[i]?=some (L.map ints) by simp[hL]);obtain⟨aL,cL,rfl⟩:=Nr I (n:=K) (by rw[BC];exact a7);have f8:=AB I;have d4:=AB (λ(W:World) (O:Below C.heap.size C W)=>show W.cell? ⟨bC,oC+i,none⟩=some (.slice aL K cL)/\bC<W.heap.size from⟨((AO (S:=λ_=>True) O).cell trivial b2).trans f0,Ah b2 O.size⟩);have e9:=AB (And.intro a7 f2);have b1:s.size<=372+i*360+0*60:=by omega
       have e8:=AB B.AA;have y:IntKind.i64.wrap ((i:Int)+1)=(i:Int)+1:=Ac _ (by omega);have i2:i+1+K=n:=by omega
       clear hL a7 f2 b9 I Z B b2 f0;go_wp2_with fail;go_loopw [4,8] (λd jv wr=>∃(k:Nat) (s:ByteArray),k<=K/\s.size<=372+i*360+k*60/\jv= .int .i64 ((i:Int)+1+(k:Int))/\d= .string s/\Hid (Below C.heap.size C wr)) (λ_ jv _=>n-(intOf jv).toNat);case atStart=>exact⟨0,_,AX _,b1,by simp,rfl,e8⟩
       case round=>
        clear e8 b1;obtain⟨k,s,q,Z,rfl,rfl,B⟩:=hrel;have f4:IntKind.i64.wrap ((i:Int)+1+(k:Int))=(i:Int)+1+(k:Int):=Ac _ (by omega);have g9:IntKind.i64.wrap ((i:Int)+1+(k:Int)+1)=(i:Int)+1+(k:Int)+1:=Ac _ (by omega);by_cases f5:k<K
        .have j1:(k:Int)<(K:Int):=by omega
         have i5:(0:Int)<=(k:Int):=by omega
         obtain⟨j,hj⟩:∃j,i+1+k=j:=⟨_,rfl⟩;have c7:(i:Int)+1+(k:Int)=(j:Int):=by omega
         have h1:j<n:=by omega
         have f7:(j:Int)<(n:Int):=by omega
         have j3:i<j:=by omega
         rw[c7]at f4 g9 ⊢;have f6:=AB c7;have i0:IntKind.i64.wrap ((j:Int)-(i:Int))=(j:Int)-(i:Int):=Ac _ (by omega);have i7:IntKind.i64.wrap ((j:Int)-(i:Int)-1)=(k:Int):=by rw[Ac _ (by omega)];omega
         have i3:IntKind.i64.wrap (j:Int)=(j:Int):=Ac _ (by omega);have j0:IntKind.i64.wrap (i:Int)=(i:Int):=Ac _ (by omega);obtain⟨v,a⟩:∃v,L[k]?=some v:=⟨_,AU (by rw[e9.AA.1];exact f5)⟩;have Q:=AB (e9.AA.2 v (Af a));obtain⟨b',o',u,rfl,_,c8,d5,I⟩:=Ce f8.AA (show(L.map ints)[k]?=some (ints v) by simp[a]);obtain⟨au,cu,rfl⟩:=Nr I (n:=n) (by rw[BK];exact Q.AA.1);have a0:=AB I;have b7:=AB (λ(W:World) (O:Below C.heap.size C W)=>show W.cell? ⟨b',o'+k,none⟩=some (.slice au n cu)/\b'<W.heap.size from⟨((AO (S:=λ_=>True) O).cell trivial c8).trans d5,Ah c8 O.size⟩);have i6:s.size<=3000:=by omega
         clear a I c8 d5 hj c7;go_upto_block 7 with(fail);go_cut [4] (λv W=>∃D:ByteArray,v= .string D/\D.size<=s.size+60/\Hid (Below C.heap.size C W));case rest=>
          obtain⟨D,rfl,b8,b6⟩:=hcut;have e4:(j:Int)+1=(i:Int)+1+((k+1:Nat):Int):=by have:=f6.AA;omega
          have g4:=AB e4;have HM:=AB (show n-(intOf (.int .i64 ((j:Int)+1))).toNat<n-(intOf (.int .i64 (j:Int))).toNat from by simp[intOf];omega);clear a0 b7 Q B e4;go_wp2_with fail;go_roundw;case rel=>exact⟨k+1,D,by omega,by omega,Ck (Value.int .i64) g4.AA,rfl,b6⟩
          case measure=>exact HM.AA
         case first=>
          obtain⟨⟨z,p,e2⟩,a1⟩:=a4.AA wr B.AA;obtain⟨a5,a9⟩:=d4.AA wr B.AA;obtain⟨d8,d7⟩:=b7.AA wr B.AA;have g2:=AB (λW=>(Bj.PM n j (by omega) h1 W).mono (R':=λe w'=>∃g c,e= .returned (.slice (some ⟨g,0,none⟩) n c)/\AP (λ_=>True) w' (.slice (some ⟨g,0,none⟩) n c) (ints ((List.replicate n 0).set j 1))/\Below W.heap.size W w') (by
           rintro e w' ⟨g,c,rfl,ho,O⟩;have hl:(ints ((List.replicate n 0).set j 1)).length=n:=by rw[BK];simp
           rw[hl]at ho ⊢;exact⟨g,c,rfl,(Own.sl ho).mono (λ_ _=>trivial),O⟩))
          have f3:=AB (a0.AA.keep (AO B.AA));go_upto_region 22 with fail;go_cut [92] (λx W=>∃r:Bool,x= .bool r/\Hid (Below C.heap.size C W));case first=>
           go_region_held3 (λw'=>(∀b o,b<wr.heap.size->w'.cell? ⟨b,o,none⟩=wr.cell? ⟨b,o,none⟩)/\Keep (λ_=>True) wr w')
            (first|exact Ap (by repeat(first|exact Ab|exact AL|refine Keep.drewN ?_ _|refine AR ?_ ‹_›)))
            (first|(go_at_call 185;refine(g2.AA _).mono ?_;rintro e Y ⟨g5,c5,rfl,g3,i4⟩)|(go_at_call 212;refine(FX.JV _ _ _ (ints v) _ (f3.AA.keep (by repeat(first|exact Ab|exact AL|refine Keep.drewN ?_ _|refine AR ?_ ‹_›))) g3).mono ?_;rintro e w8 ⟨rfl,n7,rfl⟩))
           have U:Below wr.heap.size wr (Y.drewN n7):=Cs (by repeat(first|exact BB _ _|exact AY.drew|refine VI ?_ AV ‹_›)) _;have V:=AB (B.AA.trans (U.mono B.AA.size));clear U;go_wp2_with fail;go_meet;exact⟨_,rfl,V⟩
          case rest=>
           obtain⟨r,rfl,d3⟩:=hcut;rename World=>wr;clear B z p e2 a1 a5 a9 d8 d7 f3;have B:=d3;clear d3;cases r with
           |false=>
            go_wp2_with fail;go_meet;exact⟨s,rfl,by omega,B⟩
           |true=>
            obtain⟨⟨z,p,e2⟩,a1⟩:=a4.AA wr B.AA;obtain⟨a5,a9⟩:=d4.AA wr B.AA;obtain⟨d8,d7⟩:=b7.AA wr B.AA;have b5:=AB (λW (q:Keep (λ_=>True) wr W)=>PH au n cu v Q.AA.1 (by omega) Q.AA.2 W ((a0.AA.keep (AO B.AA)).keep q));have d1:=AB (λW=>Ta j (by omega) W);have h6:=AB (λW=>Ta i (by omega) W);have c0:(9223372036854775807<s.size+2)=False:=eq_false (by omega);go_upto_region 23 with fail;go_region_held3 (λw'=>(∀b o,b<wr.heap.size->w'.cell? ⟨b,o,none⟩=wr.cell? ⟨b,o,none⟩)/\Keep (λ_=>True) wr w')
             (first|exact Ap (by repeat(first|exact Ab|exact AL|refine Keep.drewN ?_ _|refine AR ?_ ‹_›)))
             (first|(go_at_call_of 273 j;refine(d1.AA _).mono ?_;rintro e wa ⟨F,rfl,h5,f9⟩;have c1:(9223372036854775807<s.size+2+F.size)=False:=(eq_false (by omega));have c2:(9223372036854775807<s.size+2+F.size+1)=False:=(eq_false (by omega)))|(go_at_call_of 273 i;refine(h6.AA _).mono ?_;rintro e wb ⟨J,rfl,h4,g6⟩;have c3:(9223372036854775807<s.size+2+F.size+1+J.size)=False:=(eq_false (by omega));have c4:(9223372036854775807<s.size+2+F.size+1+J.size+1)=False:=(eq_false (by omega)))|(go_at_call 190;refine(b5.AA _ (by repeat(first|exact Ab|exact AL|refine Keep.drewN ?_ _|refine AR ?_ ‹_›))).mono ?_;rintro e w6 ⟨n6,a6,c6,rfl,⟨l6,a3,c9,-, g8⟩,g0⟩)|(go_at_call 274;refine(Tq a6 n6 c6 l6 a3 (by omega) _ (Gw c9 a3)).mono ?_;rintro e w7 ⟨X,rfl,g1,h3⟩;have c5:(9223372036854775807<s.size+2+F.size+1+J.size+1+X.size)=False:=(eq_false (by omega))))
            have U:Below wr.heap.size wr w7:=(by repeat(first|exact BB _ _|exact AY.drew|refine VI ?_ AV ‹_›));have a2:=AB (show(((((((s++⟨#[59,32]⟩)++F)++⟨#[94]⟩)++J)++⟨#[61]⟩)++X):ByteArray).size<=s.size+60 from by
             simp only[ByteArray.size_append];show s.size+2+F.size+1+J.size+1+X.size<=_;omega)
            have V:=AB (B.AA.trans (U.mono B.AA.size));clear U;go_wp2_with fail;go_meet;exact⟨_,rfl,a2.AA,V⟩
        .obtain rfl:K=k:=by omega
         have f7:¬(i:Int)+1+(K:Int)<(n:Int):=by omega
         have h2:=B;clear B;go_wp2_with fail;go_roundw;case rel=>exact⟨i+1,s,by omega,by omega,by go_num,rfl,h2⟩
         case measure=>simp[intOf];omega
      .obtain rfl:n=i:=by omega
       have HF:=AB (show Fg 4000 w (.returned (.string s)) wr from⟨_,rfl,by omega,a8.AA.trans (B.AA.mono a8.AA.size)⟩);clear B;go_wp2_with fail;go_ret;exact HF.AA
theorem Qk {os v:List Int}{z:Nat}(h:Be os z v)(J:∀o∈os,Bw o=true):ints (Eo v)=v/\(Eo v).length=os.length/\∀q∈Eo v,q<=7:=by
 have C:∀x∈v,0<=x/\x<=7:=λx C=>by
  obtain⟨j,I⟩:=Eb C;have K:=(Ak.1 I).1;obtain⟨o,F⟩:∃o,os[j]?=some o:=⟨_,AU (by rw[<-h.1];exact K)⟩;have B:=h.2 j x o I F;have L:=KR (J o (Af F));omega
 refine⟨Tm λx B=>(C x B).1,by unfold Eo;rw[BC];exact h.1,λq D=>?_⟩;unfold Eo at D;obtain⟨x,B,rfl⟩:=BX.1 D;have:=C x B;omega
theorem sW {P:BZ}(h:Valid P):∃D cs,P=⟨P.os,D.map ints,cs.map (λL=>L.map ints)⟩/\fJ P.os.length P.os D cs:=by
 have K:(P.ps.map Eo).map ints=P.ps:=by
  rw[List.map_map]
  conv=>rhs;rw[<-List.map_id P.ps]
  refine KC λv B=>?_;obtain⟨i,hi⟩:=Eb B;exact(Qk (h.pv i v hi) h.pr).1
 have e2:(P.cs.map (λL=>L.map Eo)).map (λL=>L.map ints)=P.cs:=by
  rw[List.map_map]
  conv=>rhs;rw[<-List.map_id P.cs]
  refine KC λL C=>?_;obtain⟨i,hi⟩:=Eb C;show(L.map Eo).map ints=L;rw[List.map_map]
  conv=>rhs;rw[<-List.map_id L]
  exact KC λv B=>(Qk ((h.cv i L hi).2 v B) h.pr).1
 refine⟨P.ps.map Eo,P.cs.map (λL=>L.map Eo),by rw[K,e2],?_⟩;refine⟨h.n6,rfl,λo N=>?_,by rw[BC,h.pl],λv B=>?_,by rw[BC,h.cl],λi L C=>?_⟩
 .have:=h.pr o N;simp[Bw]at this;omega
 .obtain⟨x,I,rfl⟩:=BX.1 B;obtain⟨i,hi⟩:=Eb I;exact(Qk (h.pv i x hi) h.pr).2
 .simp only[Bh,Hg]at C;obtain⟨c,J,rfl⟩:=C;obtain⟨O,Q⟩:=h.cv i c J;refine⟨by rw[BC,O];omega,λv B=>?_⟩;obtain⟨y,F,rfl⟩:=BX.1 B;exact(Qk (Q y F) h.pr).2
theorem mH (P:BZ)(h:Valid P)(D C B:Value)(w:World)(F:Av (λ_=>True) w D C B P):
  Calls Tryz.prog 263 #[.agg #[D,C,B]] w (Fg 4000 w):=by
 obtain⟨I,cs,e,J⟩:=sW h;rw[e]at F;exact qh _ _ I cs J D C B w F
end fI
namespace TD
open RowKit AJ Bv Bl Ch Cr Bj JN EH Ku Lx
def Oh (b:Nat)(w:World)(e:Ending)(w':World):Prop:=∃(N:Nat) (J F I:Option Addr) (D B C:Nat) (c:Int),N<=b/\e= .returned (.tuple #[.agg #[.slice J N D,.slice F N B,.slice I N C],.int .i64 c])/\PT w.heap.size w' N (.slice J N D) (.slice F N B) (.slice I N C)/\Below w.heap.size w w'
theorem ZW (B:Nat)(w:World):PT B w 0 (.slice none 0 0) (.slice none 0 0) (.slice none 0 0):=
 ⟨⟨[],rfl,FY _ _ _ _⟩,⟨[],FY _ _ _ _,λi n h=>by simp at h⟩,⟨[],FY _ _ _ _,λi n h=>by simp at h⟩⟩
theorem qi {B N g F C D:Nat}{w wr:World}{J K I:Option Addr}{b:Nat}(c:Int)(Q:N<=b)(O:PX B N wr g (.slice J N F) (.slice K N C) (.slice I N D))(L:Below w.heap.size w wr)(R:w.heap.size<B)(U:B<=wr.heap.size):
  Oh b w (.returned (.tuple #[.agg #[.slice J N F,.slice K N C,.slice I N D],.int .i64 c])) (((wr.setCell ⟨w.heap.size,0,none⟩ (.slice J N F)).setCell ⟨w.heap.size,1,none⟩ (.slice K N C)).setCell ⟨w.heap.size,2,none⟩ (.slice I N D)):=by
 refine⟨N,J,K,I,F,C,D,c,Q,rfl,?_,?_⟩
 .exact(O.2.2.ty (Ty.keep (S:=λk=>B<=k) ((((Keep.refl _ wr).setCell (by simp;omega) _).setCell (by simp;omega) _).setCell (by simp;omega) _) λ_ h=>h)).mono (by omega)
 .exact((L.setCell (p:=⟨w.heap.size,0,none⟩) AV _).setCell (p:=⟨w.heap.size,1,none⟩) AV _).setCell (p:=⟨w.heap.size,2,none⟩) AV _
theorem qj (n:Nat)(hn:1<=n/\n<=40)(w:World):Calls Tryz.prog 179 #[.int .i64 (n:Int)] w (Oh 12 w):=by
 have b0:=AB (λW=>R7 n hn.1 hn.2 W);have a7:=AB (λW=>Og (n:Int) 1 729 (by omega) (by omega) W);clear hn;go_enter Tryz.func179,Tryz.ntmps179;go_upto_region 1 with fail;obtain⟨R,V⟩:∃R,R=w.alloc CV:=⟨_,rfl⟩;rw[<-V];have K1:=AB (show R.heap[w.heap.size]?=some CV by rw[V];exact Aj _ _);have a9:=AB (show Below w.heap.size w R by rw[V];exact AY.alloc AV _);have d:=AB (show R.heap.size=w.heap.size+1 by rw[V];simp);clear V;go_wp2_with fail;refine(a7.AA _).mono ?_;rintro e w0 ⟨rfl,rfl⟩;go_wp2_with fail;refine(b0.AA _).mono ?_;rintro e B ⟨N,T,aT,cT,bT,rfl,a3,hT,c1,b1,g⟩;have HT:=AB hT;have b7:=AB a3;have a1:=AB (a9.AA.trans (g.mono (by have:=d.AA;omega)));have r:=AB (show w.heap.size<B.heap.size from by have h1:=d.AA;have h2:=g.size;omega);have s:=AB (Dj g (by have:=d.AA;omega) K1.AA);have c2:¬(6:Int)<(N:Int):=by omega
 clear hT a3 b1 g K1 a9 d b0 a7;cases bT with
 |false=>
  obtain⟨⟨f0,f1,f2⟩,q0,q1,q2⟩:=Aa s.AA;have q:=AB (show Oh 12 w (.returned (.tuple #[.agg #[.slice none 0 0,.slice none 0 0,.slice none 0 0],.int .i64 2])) (((B.setCell ⟨w.heap.size,0,none⟩ (.slice none 0 0)).setCell ⟨w.heap.size,1,none⟩ (.slice none 0 0)).setCell ⟨w.heap.size,2,none⟩ (.slice none 0 0)) from
   ⟨0,none,none,none,0,0,0,2,by omega,rfl,ZW _ _,((a1.AA.setCell (p:=⟨w.heap.size,0,none⟩) AV _).setCell (p:=⟨w.heap.size,1,none⟩) AV _).setCell (p:=⟨w.heap.size,2,none⟩) AV _⟩)
  go_wp2_with fail;obtain⟨⟨l,j,h⟩,-⟩:=Aa (Bi (x:=.slice none 0 0) (y:=.slice none 0 0) (z:=.slice none 0 0) s.AA);exact Au (v:=.tuple #[.agg #[.slice none 0 0,.slice none 0 0,.slice none 0 0],.int .i64 2]) (by simp[results,Tryz.results179,go_sem,l,j,h]) rfl q.AA
 |true=>
  go_wp2_with fail;refine(Px N (by omega) _ b7.AA _ _ HT.AA).mono ?_;rintro e w6 ⟨Q,O,X,L,K,I,rfl,a4,C⟩;go_upto_region 9 with fail;obtain⟨S,hg⟩:∃S,w6.heap.size=S:=⟨_,rfl⟩;obtain⟨Y,a⟩:∃Y,Y=w6.alloc (.cells #[.slice Q N O,.slice X N L,.slice K N I] 28):=⟨_,rfl⟩;have a2:=AB (show PX B.heap.size N Y S (.slice Q N O) (.slice X N L) (.slice K N I) by rw[a,<-hg];exact Iq a4 AV C.size);have a6:=AB (show Below B.heap.size B Y by rw[a];exact C.alloc C.size _);rw[<-a,hg];clear a hg a4 C;go_wp2_with fail;go_loopw [7] (λu wr=>∃i:Nat,i<=N/\u= .int .i64 (i:Int)/\Hid (PX B.heap.size N wr S (.slice Q N O) (.slice X N L) (.slice K N I))/\Hid (Below B.heap.size B wr)) (λu _=>N-(intOf u).toNat);case atStart=>exact⟨0,AX _,rfl,a2,a6⟩
  case round=>
   clear a2 a6;obtain⟨i,hi,rfl,D,F⟩:=hrel;have c3:IntKind.i64.wrap ((i:Int)+1)=(i:Int)+1:=Ac _ (by omega);have Z:=F.AA.size;obtain⟨⟨p0,p1,p2⟩,-⟩:=Aa D.AA.1;have b9:=D.AA.lt;by_cases b2:i+1<N
   .have b3:(i:Int)+1<(N:Int):=by omega
    have c4:(0:Int)<=(i:Int):=by omega
    have c0:(i:Int)<(N:Int):=by omega
    obtain⟨gp,rfl,a0⟩:=D.AA.Ki (i:=i) (by omega);have U:=AB a0;have b8:=Lb a0 D.AA;clear a0;have a5:=AB (λ(W:World) (hk:Keep Any wr W)=>show Calls Tryz.prog 185 #[.int .i64 (N:Int),.int .i64 ((i:Int)+1)] W (ShR N W) from U3 N (i+1) (by omega) b2 W);go_upto_region 12 with fail;go_region_held3 (λw'=>(∀b o,b<wr.heap.size->¬b=gp->w'.cell? ⟨b,o,none⟩=wr.cell? ⟨b,o,none⟩)/\Keep (λk=>k≠gp) wr w')
     (first|exact KF (by repeat(first|exact Ab|exact AL|refine Keep.setCell ?_ (by simp) _|refine AR ?_ ‹_›)))
     (first|(go_at_call 185;refine(a5.AA _ (by repeat(first|exact Ab|exact AL|refine Keep.drew ?_|refine AR ?_ ‹_›))).mono ?_;rintro e w6 ⟨g6,c6,rfl,a8,C⟩;have J:Below wr.heap.size wr w6:=(by first|exact C|exact(AY.drew).trans C);have f6:=(U.AA.below J).1;obtain⟨u6,s6⟩:=(U.AA.below J).cell)|fail)
    rename_i b5;clear b5;have b4:=AB (show PX B.heap.size N (w6.setCell ⟨gp,i,none⟩ (.slice (some ⟨g6,0,none⟩) N c6)) S (.slice Q N O) (.slice (some ⟨gp,0,none⟩) N L) (.slice K N I) from
     (U.AA.below J).put (D.AA.below J) (a8.mono (by first|exact Z|simpa using Z)))
    have b6:=AB (show Below B.heap.size B (w6.setCell ⟨gp,i,none⟩ (.slice (some ⟨g6,0,none⟩) N c6)) from
     (F.AA.trans (J.mono Z)).setCell (p:=⟨gp,i,none⟩) U.AA.2.1 _)
    clear a8 C J f6 s6 a5 b8 U b9 p0 p1 p2 D F;go_wp2_with fail;go_roundw;case rel=>exact⟨i+1,by omega,by go_num,b4,b6⟩
    case measure=>simp[intOf];omega
   .have b3:¬(i:Int)+1<(N:Int):=by omega
    have LG:=AB (Dj F.AA r.AA s.AA);obtain⟨⟨f0,f1,f2⟩,q0,q1,q2⟩:=Aa LG.AA;have q:=AB (qi (b:=12) 0 (by omega) D.AA (a1.AA.trans (F.AA.mono (Ci r.AA))) r.AA Z);clear D F;go_wp2_with fail;obtain⟨⟨l,j,h⟩,-⟩:=Aa (Bi (x:=.slice Q N O) (y:=.slice X N L) (z:=.slice K N I) LG.AA);exact Au (v:=.tuple #[.agg #[.slice Q N O,.slice X N L,.slice K N I],.int .i64 0]) (by simp[results,Tryz.results179,go_sem,l,j,h]) rfl q.AA
end TD
namespace KN
open RowKit Lib AJ Val Bv Bl Ch Cr Bj EH NL Ov Vp TD Ow
theorem PX.Bi {B n g:Nat}{w:World}{a b c x y z:Value}(h:w.heap[g]?=some (.cells #[a,b,c] 28 (0,0)))(hg:B<=g)(C:PT B w n x y z):PX B n (((w.setCell ⟨g,0,none⟩ x).setCell ⟨g,1,none⟩ y).setCell ⟨g,2,none⟩ z) g x y z:=
 ⟨Bj.Bi h,hg,C.ty (Ty.JF h)⟩
theorem Py {B g:Nat}{w W:World}(h:Below B w W)(hg:B<=g)(x y z:Value):Below B w (((W.setCell ⟨g,0,none⟩ x).setCell ⟨g,1,none⟩ y).setCell ⟨g,2,none⟩ z):=
 ((h.setCell (p:=⟨g,0,none⟩) hg _).setCell (p:=⟨g,1,none⟩) hg _).setCell (p:=⟨g,2,none⟩) hg _
theorem vG (s:ByteArray)(hs:s.size<=1000)(w:World):Calls Tryz.prog 234 #[.string s] w (Oh 12 w):=by
 obtain⟨J,a6⟩:∃J,w.heap.size=J:=⟨_,rfl⟩;obtain⟨B,a0⟩:∃B,B=w.alloc CV:=⟨_,rfl⟩;have c5:=AB a6;have a4:=AB (show Below w.heap.size w B by rw[a0];exact AY.alloc AV _);have c0:=AB (show B.heap.size=J+1 by rw[a0,<-a6];simp);have F:=AB (λ(W:World) (D:Below B.heap.size B W)=>show W.heap[J]?=some CV/\J<W.heap.size from
  ⟨(D.block J (by rw[c0.AA];omega)).trans (by rw[a0,<-a6];exact Aj _ _),by have:=D.size;rw[c0.AA]at this;omega⟩)
 have HN:=AB (λ(W:World) (D:Below B.heap.size B W)=>show Oh 12 w (.returned (.tuple #[.agg #[.slice none 0 0,.slice none 0 0,.slice none 0 0],.int .i64 6])) (((W.setCell ⟨J,0,none⟩ (.slice none 0 0)).setCell ⟨J,1,none⟩ (.slice none 0 0)).setCell ⟨J,2,none⟩ (.slice none 0 0)) from
  ⟨0,none,none,none,0,0,0,6,AX _,rfl,ZW _ _,Py (a4.AA.trans (D.mono a4.AA.size)) (Nat.le_of_eq c5.AA) _ _ _⟩)
 have c7:=AB (λW=>Ug s 59 59 rfl hs W);go_enter Tryz.func234,Tryz.ntmps234;go_upto_region 1 with fail;rw[<-a0];clear a0 a6;go_upto_region 2 with(first|(go_at_call 260;refine(c7.AA _).mono ?_;rintro e j ⟨v,L,m,rfl,d9,f3,f7,b9,hO,e9⟩)|fail);obtain⟨av,cv,rfl⟩:=II hO;have c4:=AB (show Below B.heap.size B j from e9);have g2:=AB b9;have g3:=AB d9;have i:∃x0,L[0]?=some x0:=⟨_,AU (by omega)⟩;obtain⟨x0,i⟩:=i;obtain⟨g,c',he,_⟩:=Rf hO i;obtain⟨rfl,rfl⟩:av=some ⟨g,0,none⟩/\cv=c':=by simpa using he
 have HL:=AB (λ(W:World) (D:Below j.heap.size j W) (k:Nat) (x:ByteArray) (hk:L[k]?=some x)=>show W.cell? ⟨g,k,none⟩=some (.string x)/\g<W.heap.size from by
  obtain⟨g',c',he,f5,b1⟩:=Rf hO hk;obtain⟨rfl,rfl⟩:g=g'/\cv=c':=by simpa using he
  exact⟨(D.cell (p:=⟨g,k,none⟩) b1).trans f5,Ah b1 D.size⟩)
 obtain⟨q0,b1⟩:=HL.AA j AY 0 x0 i;have e8:=AB (λW=>Tc x0 (Ae (b9 x0 (Af i)) hs) W);have h0:(m:Int)<=1001:=by omega
 have h5:(0:Int)<(m:Int):=by omega
 clear hO e9 c7 b9 d9 f7 he i;go_upto_region 3 with(first|(go_at_call 261;refine(e8.AA _).mono ?_;rintro e C ⟨n,l,ao,co,b3,rfl,c8,d5,h4,g4,b7⟩)|fail);have d6:=AB (show Below j.heap.size j C from b7);have I:=AB (show Below B.heap.size B C from c4.AA.trans (b7.mono c4.AA.size));clear q0 b1 g4 b7;cases b3 with
 |false=>
  obtain⟨⟨e0,e1,e2⟩,f0,f1,f2⟩:=Aa (F.AA C I.AA).1;have d4:=(F.AA C I.AA).2;go_wp2_with fail;obtain⟨⟨V,Q,S⟩,-⟩:=Aa (Bi (x:=.slice none 0 0) (y:=.slice none 0 0) (z:=.slice none 0 0) (F.AA C I.AA).1);exact Au (v:=.tuple #[.agg #[.slice none 0 0,.slice none 0 0,.slice none 0 0],.int .i64 6]) (by simp[results,Tryz.results234,go_sem,V,Q,S]) rfl (HN.AA C I.AA)
 |true=>
  have e5:=AB (Px n (by omega) l c8 (.slice ao n co) C d5);clear c8 d5;go_upto_region 6 with(first|(go_at_call 125;refine e5.AA.mono ?_;rintro e w4 ⟨x1,y1,u,a,Z,Y,rfl,e7,a7⟩)|fail);obtain⟨O,hg⟩:∃O,w4.heap.size=O:=⟨_,rfl⟩;obtain⟨w5,a8⟩:∃w5,w5=w4.alloc (.cells #[.slice x1 n y1,.slice u n a,.slice Z n Y] 28):=⟨_,rfl⟩;rw[<-a8,hg];have e3:=AB (show Below C.heap.size C w5 by rw[a8];exact a7.alloc a7.size _);have HI:=AB (show PX C.heap.size n w5 O (.slice x1 n y1) (.slice u n a) (.slice Z n Y) from by rw[a8,<-hg];exact Iq e7 AV a7.size);have b6:=AB (show C.heap.size<=O from HI.AA.2.1);clear a8 hg e7 a7 e5 e8;go_wp2_with fail;go_loopw [8] (λiv wr=>∃(k:Nat),k+1<=m/\iv= .int .i64 ((k:Int)+1)/\Hid (∃x1 y1 u a Z Y,PX C.heap.size n wr O (.slice x1 n y1) (.slice u n a) (.slice Z n Y))/\Hid (Below C.heap.size C wr)) (λiv _=>m+1-(intOf iv).toNat);case atStart=>exact⟨0,f3,rfl,AB ⟨_,_,_,_,_,_,HI.AA⟩,e3⟩
  case round=>
   clear HI e3;obtain⟨k,hk,rfl,hQ,q⟩:=hrel;obtain⟨X1,Y1,X2,Y2,X3,Y3,hX⟩:=hQ.AA;have X:=AB hX;have e4:=AB (show Below B.heap.size B wr from I.AA.trans (q.AA.mono I.AA.size));obtain⟨⟨d0,d1,d2⟩,-⟩:=Aa hX.1;have b4:O<wr.heap.size:=hX.lt;clear hX hQ;by_cases d7:k+1<m
   .have f8:(k:Int)+1<(m:Int):=by omega
    obtain⟨x,hx⟩:∃x,L[k+1]?=some x:=⟨_,AU (by rw[g3.AA];exact d7)⟩;obtain⟨hc,f6⟩:=HL.AA wr (d6.AA.trans (q.AA.mono d6.AA.size)) (k+1) x hx;have d3:=AB (λ(W:World) (D:Below wr.heap.size wr W)=>vB C.heap.size n (by omega) x (Ae (g2.AA x (Af hx)) hs) X1 X2 X3 Y1 Y2 Y3 W (Ae q.AA.size D.size) (X.AA.below D).2.2);clear hx;go_upto_region 9 with fail;go_cut [6] (λv W=>∃b,v= .bool b/\Hid (∃x1 y1 u a Z Y,PX C.heap.size n W O (.slice x1 n y1) (.slice u n a) (.slice Z n Y))/\Hid (Below C.heap.size C W));case first=>
     have g8:((0:Int)<=(k:Int)+1)=True:=eq_true (by omega);go_region_law
      (first|(go_simp;go_at_call 262;refine(d3.AA _ (by first|exact BB _ _|exact AY.drew)).mono ?_;rintro e w6 ⟨a1,c1,a2,c2,a3,c3,b,rfl,c6,N⟩;have K:=AB (show Below wr.heap.size wr w6 from(by first|exact N|exact(AY.drew).trans N));have g5:=AB c6;have b5:=AB (X.AA.below K.AA);obtain⟨⟨u0,u1,u2⟩,r0,r1,r2⟩:=Aa b5.AA.1;have g1:=b5.AA.lt;clear c6 N)|(fail))
     all_goals
      go_wp2_with fail;go_meet;exact⟨_,rfl,AB ⟨_,_,_,_,_,_,PX.Bi b5.AA.1 b6.AA g5.AA⟩,AB (Py (q.AA.trans (K.AA.mono q.AA.size)) b6.AA _ _ _)⟩
    case rest=>
     obtain⟨b,rfl,f9,a5⟩:=hcut;rename World=>h;have b0:=AB (show Below B.heap.size B h from I.AA.trans (a5.AA.mono I.AA.size));clear d3 b4 hc f6 d0 d1 d2 q X;cases b with
     |true=>
      go_wp2_with fail;go_roundw;case rel=>exact⟨k+1,by omega,by go_num,f9,a5⟩
      case measure=>simp[intOf];omega
     |false=>
      obtain⟨⟨e0,e1,e2⟩,f0,f1,f2⟩:=Aa (F.AA h b0.AA).1;have d4:=(F.AA h b0.AA).2;go_wp2_with fail;obtain⟨⟨V,Q,S⟩,-⟩:=Aa (Bi (x:=.slice none 0 0) (y:=.slice none 0 0) (z:=.slice none 0 0) (F.AA h b0.AA).1);exact Au (v:=.tuple #[.agg #[.slice none 0 0,.slice none 0 0,.slice none 0 0],.int .i64 6]) (by simp[results,Tryz.results234,go_sem,V,Q,S]) rfl (HN.AA h b0.AA)
   .have f8:¬(k:Int)+1<(m:Int):=by omega
    obtain⟨P,hP,-⟩:=Jm.ZR X.AA.2.2;have HV:=AB (hP.mono (S':=Any) λ_ _=>trivial);have d8:=AB (QC.MG wr _ _ _ P HV.AA);have f4:=AB (λ(d:Valid P) (W:World) (D:Below wr.heap.size wr W)=>fI.mH P d _ _ _ W (HV.AA.keep (AO D)));clear hP hk d7;go_upto_region 12 with fail;go_cut [49] (λv W=>(∃b,v= .bool b)/\Hid (Below wr.heap.size wr W));case first=>
     by_cases d:Valid P
     .have a9:=AB d;clear d;go_wp2_with (first|(go_at_call 87;refine d8.AA.mono ?_;rintro e w6 ⟨r,rfl,hr,N⟩;obtain rfl:r=true:=hr.2 a9.AA;have K:=AB N;clear hr N;have b2:=X.AA.below K.AA;have g1:=b2.lt;obtain⟨⟨d0,d1,d2⟩,-⟩:=Aa b2.1;clear b2)|(go_at_call 263;refine(f4.AA a9.AA _ K.AA).mono ?_;rintro e h ⟨st,rfl,g6,e6⟩;have a5:=AB (K.AA.trans (e6.mono K.AA.size));clear g6 e6));go_meet;exact⟨⟨_,rfl⟩,a5⟩
     .have a9:=AB d;clear d;go_wp2_with (go_at_call 87;refine d8.AA.mono ?_;rintro e w6 ⟨r,rfl,hr,N⟩;obtain rfl:r=false:=(by cases r with|false=>rfl|true=>exact absurd (hr.1 rfl) a9.AA);have K:=AB N;clear hr N);go_meet;exact⟨⟨_,rfl⟩,K⟩
    case rest=>
     obtain⟨⟨b,rfl⟩,c9⟩:=hcut;rename World=>U;have R:=AB (show Below B.heap.size B U from e4.AA.trans (c9.AA.mono e4.AA.size));obtain⟨⟨e0,e1,e2⟩,f0,f1,f2⟩:=Aa (F.AA U R.AA).1;have d4:=(F.AA U R.AA).2;clear d0 d1 d2 b4;cases b with
     |true=>
      go_wp2_with fail;obtain⟨⟨V,Q,S⟩,-⟩:=Aa (Bi (x:=.slice none 0 0) (y:=.slice none 0 0) (z:=.slice none 0 0) (F.AA U R.AA).1);exact Au (v:=.tuple #[.agg #[.slice none 0 0,.slice none 0 0,.slice none 0 0],.int .i64 6]) (by simp[results,Tryz.results234,go_sem,V,Q,S]) rfl (HN.AA U R.AA)
     |false=>
      have b8:=AB (X.AA.below c9.AA);obtain⟨⟨d0,d1,d2⟩,-⟩:=Aa b8.AA.1;have b4:=b8.AA.lt;have g9:¬O=J:=by have h1:=c0.AA;have h2:=I.AA.size;have h3:=b6.AA;omega
      go_wp2_with fail;obtain⟨⟨V,Q,S⟩,-⟩:=Aa (Bi (x:=.slice X1 n Y1) (y:=.slice X2 n Y2) (z:=.slice X3 n Y3) (F.AA U R.AA).1);exact Au (v:=.tuple #[.agg #[.slice X1 n Y1,.slice X2 n Y2,.slice X3 n Y3],.int .i64 0]) (by simp[results,Tryz.results234,go_sem,V,Q,S]) rfl
       ⟨n,_,_,_,_,_,_,0,by omega,rfl,(b8.AA.2.2.ty (Ty.JF (F.AA U R.AA).1)).mono (Ae a4.AA.size I.AA.size),Py (a4.AA.trans (R.AA.mono a4.AA.size)) (Nat.le_of_eq c5.AA) _ _ _⟩
end KN
namespace Vs
open RowKit AJ Bv Bl Ch Cr Bj JN EH Ku Lx QX
def NA (C wr:World)(D:Option Addr):Prop:=C.heap.size<=wr.heap.size/\∀B,D=some ⟨B,0,none⟩->wr.heap[B]?=C.heap[B]?
theorem Xw {B N g L gp i j:Nat}{F wr w6:World}{O Q u:Value}{D:Option Addr}(J:PX B N wr g O Q (.slice D N L))(U:Slot B N wr gp j)(I:Below wr.heap.size wr w6)
  (K:NA F wr D):NA F (w6.setCell ⟨gp,i,none⟩ u) D:=by
 refine⟨by have V:=K.1;have W:=I.size;simp;omega,λC R=>?_⟩;subst R;obtain⟨us,S,_⟩:=J.2.2.2.2;rw[JA w6 ⟨gp,i,none⟩ C u (VH (i:=0) J U),I.block C (Aq S C rfl).2];exact K.2 C rfl
theorem XH {B N g K:Nat}{F wr w6:World}{L O:Value}{D:Option Addr}(R:PX B N wr g L O (.slice D N K))(I:Below wr.heap.size wr w6)
  (J:NA F wr D):NA F w6 D:=by
 refine⟨Ae J.1 I.size,λC Q=>?_⟩;subst Q;obtain⟨us,S,_⟩:=R.2.2.2.2;rw[I.block C (Aq S C rfl).2];exact J.2 C rfl
theorem mI {B N g I i W V gr C:Nat}{D wr:World}{K Q:Value}(R:PX B N D g K Q (.slice (some ⟨C,0,none⟩) N I))(U:wr.heap[C]?=D.heap[C]?)(hi:i<N)(F:wr.cell? ⟨C,i,none⟩=some (.slice (some ⟨gr,0,none⟩) W V)):gr<D.heap.size:=by
 obtain⟨X,u,e,L,O,Z,Y⟩:=R.2.2.2.2.at (MH hi);obtain rfl:C=X:=by simpa using e
 have J:wr.cell? ⟨C,i,none⟩=D.cell? ⟨C,i,none⟩:=by simp only[World.cell?,U]
 rw[J,L]at F;injection F with F;subst F;obtain⟨us,S,_⟩:=O;exact(Aq S gr rfl).2
theorem R2.sZ {B N gr i j:Nat}{B':Nat}{w:World}{L:List Nat}{v u:Value}(h:R2 B w L v)(K:Slot B' N w gr j)(D:v.ownBlock≠some gr):R2 B (w.setCell ⟨gr,i,none⟩ u) L v:=by
 obtain⟨_,_,_,Q,u0,F,_⟩:=K;obtain⟨us,J,I⟩:=h;refine⟨us,gI J D,λk n O=>?_⟩;obtain⟨x,C,e2⟩:=I k n O;exact⟨x,C,e2.other F (by decide)⟩
where
 gI {B n gr i:Nat} {e:TypeId} {w:World} {v u:Value} {xs:List Value} (h:w.ownsRow B e 1 v n xs) (hne:v.ownBlock≠some gr):(w.setCell ⟨gr,i,none⟩ u).ownsRow B e 1 v n xs:=
  iU h (S:=λk=>k≠gr) ((Keep.refl _ w).setCell (by simp) _) (λk hk e=>hne (by rw[hk,e]))
theorem ig (p n m:Nat)(hp:1<=p/\p<=7)(hn:1<=n/\n<=40)(hm:m<=4)(ab:Option Addr)(cb:Nat)(w:World)(hA:R2 0 w (List.replicate m m) (.slice ab m cb)):
  Calls Tryz.prog 182 #[.int .i64 (p:Int),.slice ab m cb,.int .i64 (n:Int)] w (Mw 12 w):=by
 obtain⟨i0,h5,i8,j4,i9⟩:=Bd Dh;have e4:=AB (λW=>R7 n hn.1 hn.2 W);have k3:=AB hp;have HA:=AB hA;clear hn hp hA;go_enter Tryz.func182,Tryz.ntmps182;go_upto_region 1 with fail;obtain⟨w1,a2⟩:∃w1,w1=w.alloc CV:=⟨_,rfl⟩;rw[<-a2];have K1:=AB (show w1.heap[w.heap.size]?=some CV by rw[a2];exact Aj _ _);have e3:=AB (show Below w.heap.size w w1 by rw[a2];exact AY.alloc AV _);have b3:=AB (show w1.heap.size=w.heap.size+1 by rw[a2];simp);clear a2;go_wp2_with fail;refine(e4.AA _).mono ?_;rintro e w2 ⟨k,T,aT,cT,bT,rfl,g1,hT,l4,e9,b5⟩;have HT:=AB hT;have c5:=AB g1;have k0:=AB e9;have f9:=AB (e3.AA.trans (b5.mono (by have:=b3.AA;omega)));have b0:=AB (show w.heap.size<w2.heap.size from by have h1:=b3.AA;have h2:=b5.size;omega);have K2:=AB (Dj b5 (by have:=b3.AA;omega) K1.AA);clear hT g1 e9 b5 K1 e3 b3 e4;go_wp2_with fail;refine(QF k (by omega) aT cT T c5.AA _ HT.AA).mono ?_;rintro e w4 ⟨gO,cO,rfl,e5,e6⟩;have d7:=AB (show w4.ownsRow w2.heap.size 2 1 (.slice (some ⟨gO,0,none⟩) (k+0) cO) (k+0) (vals (T++List.replicate 0 (p:Int))) by simpa using e5);have d8:=AB e6;clear e5 e6;go_wp2_with fail;go_loopw [9,10] (λov R wr=>∃(i g c:Nat),i<=m/\R= .int .i64 (i:Int)/\ov= .slice (some ⟨g,0,none⟩) (k+i) c/\Hid (wr.ownsRow w2.heap.size 2 1 (.slice (some ⟨g,0,none⟩) (k+i) c) (k+i) (vals (T++List.replicate i (p:Int))))/\Hid (Below w2.heap.size w2 wr)) (λ_ R _=>m-(intOf R).toNat);case atStart=>exact⟨0,gO,cO,AX _,rfl,rfl,d7,d8⟩
 case round=>
  clear d7 d8;obtain⟨i,g,c,hi,rfl,rfl,hO,Z⟩:=hrel;by_cases a3:i<m
  .have a4:(i:Int)<(m:Int):=by omega
   obtain⟨l,hl⟩:∃l,k+i=l:=⟨_,rfl⟩;have HL:=AB hl;have m0:l<=10:=by omega
   rw[hl]at hO ⊢;have a1:=Aw hO.AA (S:=Any) ((Keep.refl _ wr).alloc (.cells #[.int .i64 (p:Int)] 2)) (λ_ _=>trivial);have d2:=Z.AA.size;clear hO hl;go_wp2_with (at_builtin;(refine ER _ rfl _ _ 24 rfl w2.heap.size 2 i0 (.int .i64 0) 1 8 Tryz.underlying24 h5 i8 j4 i9 rfl (by decide) _ _ _ rfl a1 ⟨wr.heap.size,0,none⟩ 1 1 [.int .i64 (p:Int)] rfl rfl (Cw (cs:= #[.int .i64 (p:Int)]) (t:=2) (fr:=(0,0)) (Aj wr _)) (by simp[Value.oneCell']) (by decide) (by unfold maxLen;omega) (by omega) (by simp;omega) _ rfl ?_));intro g2 c7 w6 h0 d3 j2 i2;have i7:=AB ((Z.AA.alloc d2 (.cells #[.int .i64 (p:Int)] 2)).grown d3 (by simp;omega) (λg hg=>(Aq a1 g hg).1));have j9:=AB (show w6.ownsRow w2.heap.size 2 1 (.slice (some ⟨g2,0,none⟩) (l+1) c7) (l+1) (vals (T++List.replicate (i+1) (p:Int))) from by
    rw[IK,<-Dy];simpa[vals]using h0)
   clear a1 h0 d3 j2 i2 Z d2;go_wp2_with fail;go_roundw;case rel=>exact⟨i+1,g2,c7,by omega,by go_num,by have:=HL.AA;rw[show k+(i+1)=l+1 by omega],by have:=HL.AA;rw[show k+(i+1)=l+1 by omega];exact j9,i7⟩
   case measure=>simp[intOf];omega
  .obtain rfl:m=i:=by omega
   have m1:¬(m:Int)<(m:Int):=by omega
   obtain⟨C,f7⟩:∃C,C=wr:=⟨_,rfl⟩;rw[<-f7]at hO Z ⊢;clear f7 a3 hi;obtain⟨N,hN⟩:∃N,k+m=N:=⟨_,rfl⟩;have HN:=AB hN;have j6:N<=12:=by omega
   have h3:=AB (show(T++List.replicate m (p:Int)).length=N by rw[Bc,c5.AA,Bp,hN]);rw[hN]at hO ⊢;have g5:=AB (Gw hO.AA h3.AA);have f3:=Z.AA.size;clear hN hO;go_wp2_with fail;refine(Px N (by omega) _ h3.AA _ _ g5.AA).mono ?_;rintro e w6 ⟨x1,s,x2,Y,Q,V,rfl,g3,L⟩;go_upto_region 8 with fail;obtain⟨gx,hg⟩:∃gx,w6.heap.size=gx:=⟨_,rfl⟩;obtain⟨K,b1⟩:∃K,K=w6.alloc (.cells #[.slice x1 N s,.slice x2 N Y,.slice Q N V] 28):=⟨_,rfl⟩;have g0:=AB (show PX C.heap.size N K gx (.slice x1 N s) (.slice x2 N Y) (.slice Q N V) by rw[b1,<-hg];exact Iq g3 AV L.size);have g7:=AB (show Below C.heap.size C K by rw[b1];exact L.alloc L.size _);rw[<-b1,hg];clear b1 hg g3 L g5;have l0:=AB (HT.AA.keep (AO (S:=Any) Z.AA));have d1:=AB (f9.AA.trans (Z.AA.mono (Ci b0.AA)));have b6:=AB (show w.heap.size<C.heap.size from Ah b0.AA f3);have K5:=AB (Dj Z.AA b0.AA K2.AA);have i5:=AB ((Ty.below d1.AA).two _ _ HA.AA);clear HT Z K2 HA b0 f3 f9;go_wp2_with fail;go_loopw [13] (λR wr=>∃i:Nat,i<=k/\R= .int .i64 (i:Int)/\Hid (PX C.heap.size N wr gx (.slice x1 N s) (.slice x2 N Y) (.slice Q N V))/\Hid (NA K wr Q)/\Hid (Below C.heap.size C wr)) (λR _=>k-(intOf R).toNat);case atStart=>exact⟨0,AX _,rfl,g0,AB ⟨Al _,λ_ _=>rfl⟩,g7⟩
   case round=>
    clear g7;obtain⟨i,hi,rfl,B,I,D⟩:=hrel;have j5:IntKind.i64.wrap ((i:Int)+1)=(i:Int)+1:=Ac _ (by omega);have O:=D.AA.size;obtain⟨⟨p0,p1,p2⟩,-⟩:=Aa B.AA.1;have b4:=B.AA.lt;by_cases a3:i+1<k
    .have a4:(i:Int)+1<(k:Int):=by omega
     have j8:(0:Int)<=(i:Int):=by omega
     have m2:(i:Int)<(N:Int):=by have:=HN.AA;omega
     obtain⟨gp,rfl,a0⟩:=B.AA.Ki (i:=i) (by omega);have J:=AB a0;have c1:=Lb a0 B.AA;clear a0;have a5:=AB (λ(W:World) (hk:Keep Any wr W)=>show Calls Tryz.prog 185 #[.int .i64 (N:Int),.int .i64 ((i:Int)+1)] W (ShR N W) from U3 N (i+1) (by omega) (by have:=HN.AA;omega) W);go_upto_region 12 with fail;go_region_held3 (λw'=>(∀b o,b<wr.heap.size->¬b=gp->w'.cell? ⟨b,o,none⟩=wr.cell? ⟨b,o,none⟩)/\Keep (λk=>k≠gp) wr w')
      (first|exact KF (by repeat(first|exact Ab|exact AL|refine Keep.setCell ?_ (by simp) _|refine AR ?_ ‹_›)))
      (first|(go_at_call 185;refine(a5.AA _ (by repeat(first|exact Ab|exact AL|refine Keep.drew ?_|refine AR ?_ ‹_›))).mono ?_;rintro e w6 ⟨g6,c6,rfl,a6,L⟩;have F:Below wr.heap.size wr w6:=(by first|exact L|exact(AY.drew).trans L);have f6:=(J.AA.below F).1;obtain⟨u6,s6⟩:=(J.AA.below F).cell)|fail)
     rename_i c4;clear c4;have c3:=AB (show PX C.heap.size N (w6.setCell ⟨gp,i,none⟩ (.slice (some ⟨g6,0,none⟩) N c6)) gx (.slice x1 N s) (.slice (some ⟨gp,0,none⟩) N Y) (.slice Q N V) from
      (J.AA.below F).put (B.AA.below F) (a6.mono (by first|exact O|simpa using O)))
     have b8:=AB (Xw (i:=i) (u:=(.slice (some ⟨g6,0,none⟩) N c6)) B.AA J.AA F I.AA);have c0:=AB (show Below C.heap.size C (w6.setCell ⟨gp,i,none⟩ (.slice (some ⟨g6,0,none⟩) N c6)) from
      (D.AA.trans (F.mono O)).setCell (p:=⟨gp,i,none⟩) J.AA.2.1 _)
     clear a6 L F f6 s6 a5 c1 J b4 p0 p1 p2 B D I;go_wp2_with fail;go_roundw;case rel=>exact⟨i+1,by omega,by go_num,c3,b8,c0⟩
     case measure=>simp[intOf];omega
    .have a4:¬(i:Int)+1<(k:Int):=by omega
     have d0:=AB ((Ty.below D.AA).two _ _ i5.AA);clear hi p0 p1 p2 b4 a3;go_wp2_with fail;refine(Rh m m (by omega) (by omega) ab cb _ d0.AA).mono ?_;rintro e w8 ⟨X,a,rfl,d4,b2⟩;have g4:=AB (B.AA.below b2);have d6:=AB (D.AA.trans (b2.mono O));have f5:=AB (XH B.AA b2 I.AA);have d5:=AB (show R2 K.heap.size w8 (List.replicate m m) (.slice X m a) from d4.mono I.AA.1);clear B I D O d4 b2 d0 a4 j5;go_wp2_with fail;go_loopw [14,15] (λav R wr=>∃(i:Nat) (X:Option Addr) (a:Nat),i<=k/\av= .slice X m a/\R= .int .i64 (i:Int)/\Hid (R2 K.heap.size wr (List.replicate m m) (.slice X m a))/\Hid (PX C.heap.size N wr gx (.slice x1 N s) (.slice x2 N Y) (.slice Q N V))/\Hid (NA K wr Q)/\Hid (Below C.heap.size C wr)) (λ_ R _=>k-(intOf R).toNat);case atStart=>exact⟨0,X,a,AX _,rfl,rfl,d5,g4,f5,d6⟩
     case round=>
      clear g4 d6 d5 f5;obtain⟨i,X,a,hi,rfl,rfl,U,B,I,D⟩:=hrel;by_cases a3:i<k
      .have a4:(i:Int)<(k:Int):=by omega
       have j8:(0:Int)<=(i:Int):=by omega
       have HI:=AB a3;go_wp2_with fail;go_loopw [16] (λjv wr=>∃j:Nat,j<=m/\jv= .int .i64 (j:Int)/\Hid (R2 K.heap.size wr (List.replicate m m) (.slice X m a))/\Hid (PX C.heap.size N wr gx (.slice x1 N s) (.slice x2 N Y) (.slice Q N V))/\Hid (NA K wr Q)/\Hid (Below C.heap.size C wr)) (λjv _=>m-(intOf jv).toNat);case atStart=>exact⟨0,AX _,rfl,U,B,I,D⟩
       case round=>
        clear U B I D;obtain⟨j,hj,rfl,U,B,I,D⟩:=hrel;have O:=D.AA.size;by_cases c2:j<m
        .have l3:(j:Int)<(m:Int):=by omega
         have l9:(0:Int)<=(j:Int):=by omega
         obtain⟨d,hd⟩:∃d:Nat,d+i+1=k+j:=⟨k+j-i-1,by have:=HI.AA;omega⟩;have l1:IntKind.i64.wrap ((k:Int)+(j:Int))=(k:Int)+(j:Int):=Ac _ (by omega);have a2:IntKind.i64.wrap ((k:Int)+(j:Int)-(i:Int))=(d:Int)+1:=by rw[Ac _ (by omega)];omega
         have h7:IntKind.i64.wrap ((d:Int)+1-1)=(d:Int):=by rw[Ac _ (by omega)];omega
         have l8:IntKind.i64.wrap (d:Int)=(d:Int):=Ac _ (by omega);have m9:(i:Int)<(N:Int):=by have:=HN.AA;have:=HI.AA;omega
         obtain⟨⟨p0,p1,p2⟩,-⟩:=Aa B.AA.1;have b4:=B.AA.lt;obtain⟨ni,e8⟩:∃ni,N-(i+1)=ni:=⟨_,rfl⟩;obtain⟨gc,gr,yr,rfl,b9,j0,a0⟩:=B.AA.OV (i:=i) (j:=d) (by omega) (by have:=HN.AA;omega);rw[e8]at b9;have m7:(d:Int)<(ni:Int):=by have:=HN.AA;omega
         have J:=AB a0;have c1:=Lb a0 B.AA;have i3:=VH (i:=0) B.AA a0;have m6:=mI g0.AA (I.AA.2 gc rfl) (i:=i) (by omega) b9;obtain⟨ga,aa,ca,rfl,i4,k8,e7⟩:=OW U.AA c2;have d9:¬ga=gr:=by
          obtain⟨h8,u',l7,e',_,_,_,_,_,h6,_⟩:=U.AA.at (JX c2);have:ga=h8:=by simpa using e'
          omega
         have a5:=AB (λ(W:World) (hk:Keep Any wr W)=>show Calls Tryz.prog 184 #[.int .i64 (k:Int),.slice aa m ca,.int .i64 0] W (ShR N W) from by
          have h:=Pk k 0 m (by omega) (by omega) (by omega) (.slice aa m ca) _ W ((Ty.keep hk (λ_ _=>trivial)).one _ _ e7);rw[show k+m+0=N from by have:=HN.AA;omega]at h;exact h)
         clear a0 e8 hd e7;go_upto_region 20 with fail;go_region_held3 (λw'=>(∀b o,b<wr.heap.size->¬b=gr->w'.cell? ⟨b,o,none⟩=wr.cell? ⟨b,o,none⟩)/\Keep (λk=>k≠gr) wr w')
          (first|exact KF (by repeat(first|exact Ab|exact AL|refine Keep.setCell ?_ (by simp) _|refine AR ?_ ‹_›)))
          (first|(go_at_call 184;refine(a5.AA _ (by repeat(first|exact Ab|exact AL|refine Keep.drew ?_|refine AR ?_ ‹_›))).mono ?_;rintro e w6 ⟨g6,c6,rfl,a6,L⟩;have F:Below wr.heap.size wr w6:=(by first|exact L|exact(AY.drew).trans L);have f6:=(J.AA.below F).1;obtain⟨u6,s6⟩:=(J.AA.below F).cell)|fail)
         rename_i c4;clear c4;have g8:=a6.mono (B':=C.heap.size) (by first|exact O|simpa using O);have c3:=AB (show PX C.heap.size N (w6.setCell ⟨gr,d,none⟩ (.slice (some ⟨g6,0,none⟩) N c6)) gx (.slice x1 N s) (.slice x2 N Y) (.slice (some ⟨gc,0,none⟩) N V) from
          (J.AA.below F).put (B.AA.below F) g8)
         have k5:=AB (R2.sZ (i:=d) (u:=(.slice (some ⟨g6,0,none⟩) N c6)) ((Ty.below F).two _ _ U.AA) (J.AA.below F) (by simpa[Value.ownBlock]using d9));have b8:=AB (Xw (i:=d) (u:=(.slice (some ⟨g6,0,none⟩) N c6)) B.AA J.AA F I.AA);have c0:=AB (show Below C.heap.size C (w6.setCell ⟨gr,d,none⟩ (.slice (some ⟨g6,0,none⟩) N c6)) from
          (D.AA.trans (F.mono O)).setCell (p:=⟨gr,d,none⟩) J.AA.2.1 _)
         clear a6 L F f6 s6 a5 c1 i3 J b4 p0 p1 p2 B D b9 j0 a2 h7 U g8 i4 k8 d9 I;go_wp2_with fail;go_roundw;case rel=>exact⟨j+1,by omega,by go_num,k5,c3,b8,c0⟩
         case measure=>simp[intOf];omega
        .obtain rfl:m=j:=by omega
         have l6:¬(m:Int)<(m:Int):=by omega
         obtain⟨z,hz⟩:∃z,T[i]?=some z:=⟨_,AU (by rw[c5.AA];exact HI.AA)⟩;obtain⟨q,rfl,i6,m8⟩:=k0.AA z (Af hz);have k2:=AB hz;have m5:(i:Int)<(k:Int):=by have:=HI.AA;omega
         clear hz c2 hj;go_wp2_with fail;rename World=>wo;have k7:=AB (show K.heap.size<=wo.heap.size from I.AA.1);go_loopw [14,18] (λav tv wr=>∃(t:Nat) (a9:Option Addr) (c9:Nat),t<=q/\av= .slice a9 m c9/\tv= .int .i64 (t:Int)/\Hid (R2 K.heap.size wr (List.replicate m m) (.slice a9 m c9))/\Hid (Below wo.heap.size wo wr)) (λ_ tv _=>q-(intOf tv).toNat);case atStart=>exact⟨1,X,a,i6,rfl,rfl,U,AB AY⟩
         case round=>
          obtain⟨t,a9,c9,ht,rfl,rfl,b7,r⟩:=hrel;have a7:=AB (D.AA.trans (r.AA.mono O));obtain⟨b,o,u,rfl,_,m4,l2,rfl⟩:=Ce (l0.AA.keep (AO a7.AA)) k2.AA;by_cases j1:t<q
          .have h4:(t:Int)<(q:Int):=by omega
           have f8:=AB (jr m m rfl (by omega) (p:Int) (by have:=k3.AA;omega) a9 c9 X a wr (b7.AA.mono (AX _)) (((Ty.below r.AA).two _ _ U.AA).mono (AX _)));have h9:=a7.AA.size;go_wp2_with fail;refine f8.AA.mono ?_;rintro e m3 ⟨k9,j3,rfl,g9,f4⟩;have k6:=AB (g9.mono (B':=K.heap.size) (Ae k7.AA r.AA.size));have k1:=AB (r.AA.trans (f4.mono r.AA.size));clear g9 f4 b7 r a7 h9 f8;go_wp2_with fail;go_roundw;case rel=>exact⟨t+1,k9,j3,by omega,rfl,by go_num,k6,k1⟩
           case measure=>simp[intOf];omega
          .have h4:¬(t:Int)<(q:Int):=by omega
           have i1:=AB (B.AA.below r.AA);have k4:=AB (XH B.AA r.AA I.AA);have l5:i<=100:=by omega
           clear r j1 ht;go_wp2_with fail;go_roundw;case rel=>exact⟨i+1,a9,c9,by have:=HI.AA;omega,rfl,by go_num,b7,i1,k4,a7⟩
           case measure=>have:=HI.AA;simp[intOf];omega
      .obtain rfl:k=i:=by omega
       have a4:¬(k:Int)<(k:Int):=by omega
       have O:=D.AA.size;have LG:=AB (Dj D.AA b6.AA K5.AA);obtain⟨⟨e0,e1,e2⟩,-⟩:=Aa B.AA.1;obtain⟨⟨f0,f1,f2⟩,q0,q1,q2⟩:=Aa LG.AA;have j7:=AB (Yp (b:=12) (wq:=w) j6 B.AA (d1.AA.trans (D.AA.mono (Ci b6.AA))) b6.AA O);clear B D U;go_wp2_with fail;obtain⟨⟨z0,z1,z2⟩,-⟩:=Aa (Bi (x:=.slice x1 N s) (y:=.slice x2 N Y) (z:=.slice Q N V) LG.AA);exact Au (v:=.agg #[.slice x1 N s,.slice x2 N Y,.slice Q N V]) (by simp[results,Tryz.results182,go_sem,z0,z1,z2]) rfl j7.AA
end Vs
end Go.Proofs.YtgjadpmbnejaoaaGreat
