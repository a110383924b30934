import Derived.Test.YtgjadpmbnejaoaaGreatZn
import Derived.Test.YtgjadpmbnejaoaaGreatZm
/-
  Lemmas for the law FnAutomorphisms, in short spelling.
-/
set_option linter.unusedVariables false
set_option linter.unusedSimpArgs false
set_option maxRecDepth 100000
set_option maxHeartbeats 40000000
namespace Go.Proofs.YtgjadpmbnejaoaaGreat
namespace Ca
open RowKit AJ BN
abbrev Any:Nat->Prop:=λ_=>True
def Ed (T:Tw):List Nat:=T.map Lv.o
theorem UQ {T:Tw}{i:Nat}{L:Lv}(h:T[i]?=some L):(Ed T)[i]?=some L.o:=by simp[Ed,h]
theorem O4 (T:Tw):(Ed T).length=T.length:=by simp[Ed]
theorem NU (T:Tw):(AZ T).os=ints (Ed T):=by simp[AZ,ints,Ed]
structure Os (T:Tw):Prop where
 len:T.length<=6
 pos:∀L∈T,1<=L.o
 le:sz T<=729
theorem qp {T:Tw}(h:∀L∈T,1<=L.o):1<=sz T:=by
 induction T with
 |nil=>simp[sz]
 |cons L T ih=>exact Nat.mul_pos (h L (by simp)) (ih λM B=>h M (by simp[B]))
theorem Os.get {T:Tw}(h:Os T){i:Nat}{L:Lv}(B:T[i]?=some L):1<=L.o:=h.pos L (Af B)
theorem Os.X0 {T:Tw}(h:Os T)(i:Nat):1<=sz (T.drop i):=qp λL B=>h.pos L (Hl B)
theorem Os.of {T:Tw}(hT:Wf T)(B:Small T)(F:sz T<=729):Os T:=⟨B.1,λL C=>by
 induction T with
 |nil=>simp at C
 |cons M T ih=>
  rcases EE.1 C with rfl|h
  .have:=hT.1;omega
  .exact ih hT.2.2.2.2 ⟨by have:=B.1;simp at this;omega,λN D=>B.2 N (by simp[D])⟩ (by have:=WR (M::T) hT 1;simp at this;omega) h,F⟩
theorem Ul (i a:Nat)(y:List Nat):(pad (i+1) y).set i a=pad i (a::y):=by
 unfold pad;rw[List.set_append_left _ _ (by simp),IK];simp[List.set_append]
theorem wrap_i64 {x:Int}(B:0<=x)(C:x<=1000000):wrap64 x=x:=by unfold wrap64;omega
def Kn (n:Nat)(w:World)(e:Ending)(w':World):Prop:=e= .returned (.int .i64 (n:Int))/\Below w.heap.size w w'
theorem Gs (T:Tw)(D:Os T)(w:World)(R Q J:Value)(B:AP Any w R (ints (Ed T))):
  Calls Tryz.prog 57 #[.agg #[R,Q,J]] w (Kn (sz T) w):=by
 have y:=D.len;obtain⟨X,a,rfl,N⟩:=B.open;rw[O4]at N B ⊢;have V:=AB B;have K:=AB D;clear B N D;go_enter Tryz.func57,Tryz.ntmps57;go_wp2_with fail;go_loopw [3,4] (λq i wr=>∃k:Nat,k<=T.length/\i= .int .i64 (k:Int)/\∃z:Int,q= .int .i64 z/\0<=z/\z<=729/\Hid (z*(sz (T.drop k):Int)=(sz T:Int))/\Below (w.heap.size+1) (w.alloc (.cells #[.slice X T.length a,Q,J] 28)) wr) (λ_ i _=>T.length-(intOf i).toNat);case atStart=>exact⟨0,AX _,rfl,1,rfl,by omega,by omega,AB (by simp),BB _ _⟩
 case round=>
  obtain⟨k,v,rfl,z,rfl,Z,l,S,C⟩:=hrel;have F:=AB C;obtain⟨r,s,e2⟩:=CY C;clear C;by_cases d:k<T.length
  .obtain⟨L,I⟩:∃L,T[k]?=some L:=⟨_,AU d⟩;obtain⟨h,oO,rfl,_,x,a0⟩:=(V.AA.keep (AO (Cy F.AA))).at (UQ I);have b:decide ((k:Int)<(T.length:Int))=true:=by simp;omega
   have O:z*(L.o:Int)*(sz (T.drop (k+1)):Int)=(sz T:Int):=by
    rw[<-S.AA,Jt I];push_cast;rw[Int.mul_assoc]
   have U:0<=z*(L.o:Int):=Int.mul_nonneg Z (by omega);have Y:z*(L.o:Int)<=729:=by
    have p:=K.AA.X0 (k+1);have u:z*(L.o:Int)*1<=z*(L.o:Int)*(sz (T.drop (k+1)):Int):=Int.mul_le_mul_of_nonneg_left (by omega) U;have j:=K.AA.le;omega
   have g:=AB O;clear O I;go_wp2_with fail;go_roundw;case rel=>exact⟨k+1,by omega,by go_num,_,rfl,U,Y,g,F.AA⟩
   case measure=>simp[intOf];omega
  .obtain rfl:k=T.length:=by omega
   have b:decide ((T.length:Int)<(T.length:Int))=false:=by simp
   have W:z=(sz T:Int):=by have:=S.AA;rw[OB]at this;simpa using this
   subst W;go_wp2_with fail;go_ret;exact⟨rfl,Cy F.AA⟩
theorem Qg (T:Tw)(N:Os T)(w:World)(W V Q O:Value)(x:List Nat)(I:AP Any w W (ints (Ed T)))(D:AP Any w O (ints x))(B:El T x)(F:num T x<sz T):
  Calls Tryz.prog 214 #[.agg #[W,V,Q],O] w (Kn (num T x) w):=by
 have a3:=N.len;obtain⟨d,l,rfl,S⟩:=I.open;obtain⟨aX,y,rfl,U⟩:=D.open;have g:=Ad B;rw[O4]at S I ⊢;rw[g]at U D ⊢;have Z:=AB I;have j:=AB D;have R:=AB N;have Y:=AB B;have r:=AB F;clear I S N D U B F;go_enter Tryz.func214,Tryz.ntmps214;go_wp2_with fail;go_loopw [5,6] (λq i wr=>∃k:Nat,k<=T.length/\i= .int .i64 (k:Int)/\∃z:Int,q= .int .i64 z/\0<=z/\Hid (z*(sz (T.drop k):Int)+(num (T.drop k) (x.drop k):Int)=(num T x:Int))/\Below (w.heap.size+1) (w.alloc (.cells #[.slice d T.length l,V,Q] 28)) wr) (λ_ i _=>T.length-(intOf i).toNat);case atStart=>exact⟨0,AX _,rfl,0,rfl,by omega,AB (by simp),BB _ _⟩
 case round=>
  obtain⟨k,hk,rfl,z,rfl,h,X,K⟩:=hrel;have C:=AB K;obtain⟨e0,e1,e2⟩:=CY K;clear K;by_cases F:k<T.length
  .obtain⟨L,J⟩:∃L,T[k]?=some L:=⟨_,AU F⟩;obtain⟨a,ha⟩:∃a,x[k]?=some a:=⟨_,AU (by omega)⟩;obtain⟨s,oO,rfl,_,a1,a4⟩:=(Z.AA.keep (AO (Cy C.AA))).at (UQ J);obtain⟨bX,oX,rfl,_,a2,a0⟩:=(j.AA.keep (AO (Cy C.AA))).at ha;have p:decide ((k:Int)<(T.length:Int))=true:=by simp;omega
   have B:(z*(L.o:Int)+(a:Int))*(sz (T.drop (k+1)):Int)+(num (T.drop (k+1)) (x.drop (k+1)):Int)=(num T x:Int):=by
    rw[<-X.AA,Jt J,Xp J ha];push_cast;rw[Int.add_mul,Int.mul_assoc];omega
   have b1:0<=z*(L.o:Int):=Int.mul_nonneg h (by omega);have b2:z*(L.o:Int)+(a:Int)<=729:=by
    have v:=R.AA.X0 (k+1);have h2:(z*(L.o:Int)+(a:Int))*1<=(z*(L.o:Int)+(a:Int))*(sz (T.drop (k+1)):Int):=Int.mul_le_mul_of_nonneg_left (by omega) (by omega);have u:=R.AA.le;have h4:=r.AA;omega
   have Y:=AB B;clear B J ha;go_wp2_with fail;go_quiet (fail);go_wp2_with fail;go_roundw;case rel=>exact⟨k+1,by omega,by go_num,_,rfl,by omega,Y,Cs C.AA nq⟩
   case measure=>simp[intOf];omega
  .obtain rfl:k=T.length:=by omega
   have p:decide ((T.length:Int)<(T.length:Int))=false:=by simp
   have b:z=(num T x:Int):=by have:=X.AA;rw[OB,Yk]at this;simpa using this
   subst b;go_wp2_with fail;go_ret;exact⟨rfl,Cy C.AA⟩
theorem PY (T:Tw)(R:T.length<=6)(w:World)(K F D:Value)(C:AP Any w K (ints (Ed T))):
  Calls Tryz.prog 105 #[.agg #[K,F,D]] w (CX (ints (AJ.one T)) w):=by
 have S:=BU.Fb T.length R;obtain⟨J,N,rfl,I⟩:=C.open;rw[O4]at I C ⊢;have O:=AB (Own.made (B:=w.heap.size) (w.alloc (.cells #[.slice J T.length N,F,D] 28)) T.length (by simp) (by unfold maxLen;omega));clear C I;go_enter Tryz.func105,Tryz.ntmps105;go_wp2_with fail;go_ret;have h:=O.AA;rw[JS]at h;have L:(ints (AJ.one T)).length=T.length:=by simp[ints,AJ.one]
 refine⟨w.heap.size+1,T.length,by rw[L];rfl,?_,(AY.alloc AV _).alloc (by simp) _⟩;rw[L];have Q:(w.alloc (.cells #[.slice J T.length N,F,D] 28)).heap.size=w.heap.size+1:=by simp
 rw[Q]at h;exact h
theorem Jw (T:Tw)(S:Os T)(hp:∀L∈T,L.o<=1000)(q:Nat)(r:q<=1000000)(w:World)(Z Q I:Value)(K:AP Any w Z (ints (Ed T))):
  Calls Tryz.prog 215 #[.agg #[Z,Q,I],.int .i64 (q:Int)] w (CX (ints (at_ T q)) w):=by
 have b2:=S.len;have p:=AB (λW h=>PY T b2 W Z Q I h);obtain⟨aO,Y,rfl,d⟩:=K.open;rw[O4]at d K ⊢;rw[O4]at p;have HO:=AB K;have HS:=AB S;have HQ:=AB r;clear K d S r;go_enter Tryz.func215,Tryz.ntmps215;go_wp2_with fail;have a2:=AB (BB (w.heap.size+1) (w.alloc (.cells #[.slice aO T.length Y,Q,I] 28)));refine(p.AA _ (HO.AA.keep (AO (Cy a2.AA)))).mono ?_;rintro e w1 ⟨g,c,rfl,U,B⟩;have F:(ints (AJ.one T)).length=T.length:=by simp[ints,AJ.one]
 rw[F]at U ⊢;have a3:=AB (U.mono (B':=w.heap.size+1) (by simp));have a4:=AB (a2.AA.trans (B.mono (by simp)));have b3:=a3.AA.lt;clear U B F;go_wp2_with fail;go_loopw [1,6] (λqv V wr=>∃k:Nat,k<=T.length/\V= .int .i64 ((k:Int)-1)/\∃z:Nat,qv= .int .i64 (z:Int)/\Hid (z=q/sz (T.drop k)/\z<=1000000)/\∃x:List Nat,Own (w.heap.size+1) wr (.slice (some ⟨g,0,none⟩) T.length c) (ints x)/\Hid (x=pad k (at_ (T.drop k) q))/\Below (w.heap.size+1) (w.alloc (.cells #[.slice aO T.length Y,Q,I] 28)) wr) (λ_ V _=>(intOf V+1).toNat);case atStart=>exact⟨T.length,Al _,rfl,q,rfl,AB ⟨by rw[OB];simp,HQ.AA⟩,AJ.one T,a3.AA,AB (by simp[at_,pad,AJ.one]),a4.AA⟩
 case round=>
  obtain⟨k,hk,rfl,z,rfl,J,x,s,X,B⟩:=hrel;have O:=AB B;have N:=AB s;obtain⟨e0,e1,e2⟩:=CY B;clear B s;by_cases b:k=0
  .subst b;have hd:decide (((0:Nat):Int)-1>=0)=false:=by decide
   go_wp2_with fail;go_ret;have a6:x=at_ T q:=by have:=X.AA;simpa[pad]using this
   subst a6;have F:(ints (at_ T q)).length=T.length:=by rw[BK,PG]
   refine⟨g,c,by rw[F];rfl,?_,Cy O.AA⟩;rw[F];exact N.AA.mono (by omega)
  .obtain⟨i,rfl⟩:∃i,k=i+1:=⟨k-1,by omega⟩;obtain⟨L,D⟩:∃L,T[i]?=some L:=⟨_,AU (by omega)⟩;have a1:(((i+1:Nat):Int)-1)=(i:Int):=by omega
   rw[a1];obtain⟨C,R,rfl,_,l,a0⟩:=HO.AA.at (UQ D);have a7:wr.cell? ⟨C,R+i,none⟩=some (.int .i64 (L.o:Int)):=by rw[(Cy O.AA).cell l];exact a0
   have b8:=N.AA.lt;have a8:C<wr.heap.size:=Ah l (Cy O.AA).size;have b1:C≠g:=by omega
   have a9:w.heap.size≠g:=by omega
   have b4:=HS.AA.get D;have y:=hp L (Af D);have b6:x.length=T.length:=by rw[X.AA,BS,PG,Cv];omega
   obtain⟨xi,b0⟩:∃a,x[i]?=some a:=⟨_,AU (by omega)⟩;obtain⟨s1,f1⟩:=N.AA.cell (j:=i) (a:=(xi:Int)) (by rw[Dt,b0];rfl);have k1:∀u,(wr.setCell ⟨g,i,none⟩ u).cell? ⟨C,R+i,none⟩=some (.int .i64 (L.o:Int)):=λu=>(((Keep.refl (· ≠g) wr).setCell (by simp) u).cell b1 a8).trans a7;have k2:∀u,(wr.setCell ⟨g,i,none⟩ u).cell? ⟨w.heap.size,0,none⟩=some (.slice (some ⟨C,R,none⟩) T.length Y):=λu=>(((Keep.refl (· ≠g) wr).setCell (by simp) u).cell a9 (by omega)).trans e0;have b7:(0:Int)<=(z:Int)%(L.o:Int):=Int.emod_nonneg _ (by omega);have b9:((L.o:Int)==0)=false:=by simp;omega
   have v:=AB D;have a5:=AB (show wrap64 ((z:Int)/(L.o:Int))=(z:Int)/(L.o:Int) from by
    have h1:(0:Int)<=(z:Int)/(L.o:Int):=Int.ediv_nonneg (by omega) (by omega);have h2:(z:Int)/(L.o:Int)<=(z:Int):=Int.ediv_le_self _ (by omega);have h3:=J.AA.2;exact wrap_i64 h1 (by omega))
   have b5:=AB y;clear D b a1 a0 y;go_wp2_with fail;go_roundw;case rel=>
    refine⟨i,by omega,rfl,z/L.o,by rw[a5.AA];simp,AB ⟨?_,?_⟩,pad i (at_ (T.drop i) q),?_,AB rfl,O.AA.setCell (by simp;omega) _⟩
    .rw[J.AA.1,Xq v.AA]
    .exact Ae (Nat.div_le_self _ _) J.AA.2
    .have h:=N.AA.Iz i (z%L.o);have e:x.set i (z%L.o)=pad i (at_ (T.drop i) q):=by
      rw[X.AA,Yl v.AA,J.AA.1,Ul]
     rw[e]at h;simpa using h.1
   case measure=>simp[intOf]<;>omega
end Ca
namespace EN
open RowKit AJ CP FN BU FX
def Pr (T:Tw):Prop:=∀L∈T,L.o=2\/L.o=3\/L.o=5\/L.o=7
theorem tJ {a p:Nat}(B:p=2\/p=3\/p=5\/p=7)(ha:a<p)(C:a≠0):∃c,1<=c/\c<p/\a*c%p=1:=by
 rcases B with rfl|rfl|rfl|rfl
 .obtain rfl:a=1:=by omega
  exact⟨1,by omega,by omega,rfl⟩
 .obtain rfl|rfl:a=1\/a=2:=by omega
  .exact⟨1,by omega,by omega,rfl⟩
  .exact⟨2,by omega,by omega,rfl⟩
 .obtain rfl|rfl|rfl|rfl:a=1\/a=2\/a=3\/a=4:=by omega
  .exact⟨1,by omega,by omega,rfl⟩
  .exact⟨3,by omega,by omega,rfl⟩
  .exact⟨2,by omega,by omega,rfl⟩
  .exact⟨4,by omega,by omega,rfl⟩
 .obtain rfl|rfl|rfl|rfl|rfl|rfl:a=1\/a=2\/a=3\/a=4\/a=5\/a=6:=by omega
  .exact⟨1,by omega,by omega,rfl⟩
  .exact⟨4,by omega,by omega,rfl⟩
  .exact⟨5,by omega,by omega,rfl⟩
  .exact⟨2,by omega,by omega,rfl⟩
  .exact⟨3,by omega,by omega,rfl⟩
  .exact⟨6,by omega,by omega,rfl⟩
theorem Y0 (a p:Nat)(D:0<p)(B:p<=7)(ha:a<p)(w:World):Calls Tryz.prog 193 #[.int .i64 (a:Int),.int .i64 (p:Int)] w λe w'=>e= .returned (.int .i64 (a:Int))/\w=w':=by
 have F:(a:Int).tmod (p:Int)=(a:Int):=by rw[P8 (by omega)];exact Int.emod_eq_of_lt (by omega) (by omega)
 have I:((p:Int)==0)=false:=by simp;omega
 have C:decide ((a:Int)<0)=false:=by simp
 have J:IntKind.i64.wrap (a:Int)=(a:Int):=Ac _ (by omega);go_enter Tryz.func193,Tryz.ntmps193;go_wp2_with fail;go_ret;exact⟨by simp[*],rfl⟩
theorem qw (a p:Nat)(O:p=2\/p=3\/p=5\/p=7)(ha:a<p)(R:a≠0)(w:World):Calls Tryz.prog 137 #[.int .i64 (a:Int),.int .i64 (p:Int)] w λe w'=>(∃c:Nat,e= .returned (.int .i64 (c:Int))/\c<p/\a*c%p=1)/\w=w':=by
 have V:=AB (tJ O ha R);have K:p<=7:=by omega
 have J:0<p:=by omega
 clear O;go_enter Tryz.func137,Tryz.ntmps137;go_wp2_with fail;go_loop [5] (λv=>∃k:Nat,1<=k/\k<=p/\v= .int .i64 (k:Int)/\Hid (∀c,1<=c->c<k->a*c%p≠1)) (λv=>p-(intOf v).toNat);case atStart=>exact⟨1,by omega,by omega,rfl,AB (λc B F=>by omega)⟩
 case round=>
  obtain⟨k,i,b,rfl,Q⟩:=hrel;by_cases X:k<p
  .have d:decide ((k:Int)<(p:Int))=true:=by simp;omega
   have Y:((p:Int)==0)=false:=by simp;omega
   have U:a*k<=49:=Nat.mul_le_mul (show a<=7 by omega) (show k<=7 by omega);obtain⟨m,D⟩:∃m,m=a*k:=⟨_,rfl⟩;obtain⟨r,C⟩:∃r,r=m%p:=⟨_,rfl⟩;have l:r<p:=by rw[C];exact Nat.mod_lt _ J
   have j:IntKind.i64.wrap ((a:Int)*(k:Int))=(m:Int):=by rw[<-Int.natCast_mul,<-D];exact Ac _ (by omega)
   have g:(m:Int).tmod (p:Int)=(r:Int):=by rw[P8 (by omega),C];exact(Int.natCast_emod _ _).symm
   have Z:IntKind.i64.wrap (r:Int)=(r:Int):=Ac _ (by omega);have L:=AB D;have N:=AB C;clear D C U;by_cases B:r=1
   .have W:((r:Int)==1)=true:=by rw[B];rfl
    have I:=AB (show a*k%p=1 by rw[<-L.AA,<-N.AA,B]);clear B;go_wp2_with (go_at_call 193;refine(Y0 a p J K ha _).mono ?_;rintro e w' ⟨rfl,rfl⟩);go_ret;exact⟨⟨k,rfl,X,I.AA⟩,rfl⟩
   .have W:((r:Int)==1)=false:=by simp;omega
    have I:=AB (show a*k%p≠1 by rw[<-L.AA,<-N.AA];exact B);clear B;go_wp2_with (go_at_call 193;refine(Y0 a p J K ha _).mono ?_;rintro e w' ⟨rfl,rfl⟩);go_round;case rel=>exact⟨k+1,by omega,by omega,by go_num,AB (λc B F=>by
     rcases DF.1 F with h|h
     .exact Q.AA c B h
     .subst h;exact I.AA)⟩
    case measure=>simp[intOf];omega
  .exfalso;obtain⟨c,B,F,S⟩:=V.AA;exact Q.AA c B (by omega) S
theorem mU (w:World)(v:Value)(x:List Nat)(B:AP Any w v (ints x))(d a:Nat)(D:∀j,j<d->x[j]?=some 0)(ha:x[d]?=some a)(S:a≠0)(X:x.length<=1000000):
  Calls Tryz.prog 246 #[v] w λe w'=>e= .returned (.int .i64 (d:Int))/\w=w':=by
 obtain⟨U,R,rfl,V⟩:=B.open;have C:=AB B;have F:=AB D;have I:=AB ha;have Q:d<x.length:=(Ak.1 ha).1;clear B D ha;go_enter Tryz.func246,Tryz.ntmps246;go_wp2_with fail;go_loop [3] (λv=>∃k:Nat,k<=d/\v= .int .i64 (k:Int)) (λv=>d+1-(intOf v).toNat);case atStart=>exact⟨0,by omega,rfl⟩
 case round=>
  obtain⟨k,O,rfl⟩:=hrel;by_cases K:k<d
  .obtain⟨L,N,rfl,_,_,J⟩:=C.AA.at (F.AA k K);go_wp2_with fail;go_round;case rel=>exact⟨k+1,by omega,by go_num⟩
   case measure=>simp[intOf];omega
  .obtain rfl:k=d:=by omega
   obtain⟨L,N,rfl,_,_,J⟩:=C.AA.at I.AA;have W:((a:Int) !=0)=true:=by simp;omega
   go_wp2_with fail;go_ret;exact⟨rfl,rfl⟩
theorem XK (w:World)(v:Value)(x:List Nat)(C:AP Any w v (ints x))(d a:Nat)(B:∀j,j<d->x[j]?=some 0)(ha:x[d]?=some a)(D:a≠0)(F:x.length<=1000000):
  Calls Tryz.prog 216 #[v] w λe w'=>e= .returned (.int .i64 (d:Int))/\w=w':=by
 have I:=AB (mU w v x C d a B ha D F);clear C B ha D;go_enter Tryz.func216,Tryz.ntmps216;go_wp2_with (go_at_call 246;refine I.AA.mono ?_;rintro e w' ⟨rfl,rfl⟩);go_ret;exact⟨rfl,rfl⟩
end EN
namespace Jf
open RowKit AJ CP FN BU FX Hf EN
theorem kD {L:Lv}{T:Tw}(h:Wf (L::T))(hg:AJ.Good (L::T)){x:List Nat}(C:El T x):Ai (L::T) (0::x)=0::Ai T x:=by
 have F:=h.1;have D:=h.2.2.2.2;have B:=Br D hg.1 C;refine(Yz h hg (x:=0::x) (y:=0::Ai T x) ⟨by omega,C⟩ ⟨by omega,B.1⟩ ?_).symm;rw[mul_cons,BF (by omega),it,B.2.1];rfl
theorem tK {L:Lv}{T:Tw}(h:Wf (L::T))(hg:AJ.Good T)(k:Nat):it (img T L.c) k (AJ.one T)=AJ.one T:=by
 have C:=h.2.2.2.2;have G:=BA C hg;have B:img T L.c (AJ.one T)=AJ.one T:=by
  have:∀(cs:List (List Nat)) n,BO (mul T) (AJ.one T) cs (List.replicate n 0)=AJ.one T:=by
   intro cs
   induction cs with
   |nil=>intro n;cases n<;>rfl
   |cons c cs ih=>intro n;cases n with
    |zero=>rfl
    |succ n=>exact ih n
  exact this L.c _
 induction k with
 |zero=>rfl
 |succ k ih=>rw[it,B,ih]
theorem mV {L:Lv}{T:Tw}(h:Wf (L::T))(hg:AJ.Good (L::T)){a:Nat}(X:a≠0){x:List Nat}(I:El (L::T) (a::x)):
  Ai (L::T) (a::x)=mul (L::T) (mul (L::T) (0::Ai T x) ((L.o-a)::AJ.one T)) (0::Ai T L.w)/\El (L::T) ((L.o-a)::AJ.one T)/\El (L::T) (0::Ai T x)/\El (L::T) (0::Ai T L.w):=by
 have Y:=h.1;have D:=h.2.2.2.2;have O:=h.2.1;have ha:=I.1;have K:=I.2;have G:=BA D hg.1;have B:=BA h hg;have N:=Br D hg.1 K;have Q:=Br D hg.1 O;have C:El (L::T) ((L.o-a)::AJ.one T):=⟨by omega,CR D⟩;have e2:El (L::T) (0::Ai T x):=⟨by omega,N.1⟩;have F:El (L::T) (0::Ai T L.w):=⟨by omega,Q.1⟩;have R:El (L::T) (a::AJ.one T):=⟨ha,CR D⟩;have J:El (L::T) (0::x):=⟨by omega,K⟩;refine⟨(Yz h hg I (B.cl (B.cl e2 C) F) ?_).symm,C,e2,F⟩;have S:a::x=mul (L::T) (a::AJ.one T) (0::x):=by
  rw[mul_cons,BF (by omega),it,G.eL K];rfl
 have U:mul (L::T) (0::x) (0::Ai T x)=AJ.one (L::T):=by
  rw[mul_cons,BF (by omega),it,N.2.1];rfl
 have V:mul (L::T) (a::AJ.one T) ((L.o-a)::AJ.one T)=0::L.w:=by
  rw[mul_cons,BQ (by omega),tK h hg.1,G.eL G.me,G.eR O,show a+(L.o-a)-L.o=0 by omega]
 have W:mul (L::T) (0::L.w) (0::Ai T L.w)=AJ.one (L::T):=by
  rw[mul_cons,BF (by omega),it,Q.2.1];rfl
 rw[S,<-B.Ag (B.cl R J) (B.cl e2 C) F,B.Ag R J (B.cl e2 C),<-B.Ag J e2 C,U,B.eL C,V,W]
theorem qx {T:Tw}(h:Wf T)(hg:AJ.Good T){x:List Nat}(B:El T x):El T (Ai T x):=(Br h hg B).1
theorem Below.step {B:Nat}{w a b:World}(h:Below B w a)(C:B<=w.heap.size)(D:Below a.heap.size a b):Below B w b:=h.trans (D.mono (Ae C h.size))
def Qz (T:Tw)(i:Nat):Prop:=∀(w:World) (C F D B:Value) (x:List Nat),Av Any w C F D (AZ T)->AP Any w B (ints x)->x.length=T.length->El (T.drop i) (x.drop i)->
 Calls Tryz.prog 236 #[.agg #[C,F,D],.int .i64 (i:Int),B] w (Dz (ints (pad i (Ai (T.drop i) (x.drop i)))) w)
theorem mW (T:Tw)(W:Small T):Qz T T.length:=by
 intro w l Z Y X x J R V O;have U:=W.1;have d:=Fb T.length U;obtain⟨D,I,F,C,L,K,rfl,rfl,rfl,g,j,i⟩:=J.open;have N:=AB (Own.made (B:=w.heap.size) (w.alloc (.cells #[.slice D T.length I,.slice F T.length C,.slice L T.length K] 28)) T.length (by simp) (by unfold maxLen;omega));have S:=AB (show pad T.length (Ai (T.drop T.length) (x.drop T.length))=List.replicate T.length 0 from by
  rw[JZ];have:El [] (Ai [] (x.drop T.length)):=(Br (T:=[]) trivial trivial (x:=x.drop T.length) (by rw[<-V,JZ];trivial)).1;cases h:Ai [] (x.drop T.length)with
  |nil=>simp[pad]
  |cons a b=>rw[h]at this;exact this.elim)
 clear J R O;go_enter Tryz.func236,Tryz.ntmps236;go_wp2_with fail;go_ret;have h:=N.AA;rw[JS]at h;rw[S.AA];refine⟨_,rfl,?_,(AY.alloc AV _).alloc (by simp) _⟩;have Q:(w.alloc (.cells #[.slice D T.length I,.slice F T.length C,.slice L T.length K] 28)).heap.size=w.heap.size+1:=by simp
 rw[Q]at h;exact h
theorem qy (T:Tw)(hT:Wf T)(hs:Small T)(i:Nat)(L:Lv)(R:T[i]?=some L)(Q:AJ.Good (T.drop i))(hF:Qz T (i+1)):Qz T i:=by
 intro w vO vP vC vx x hP p hl O;have hi:i<T.length:=(Ak.1 R).1;have h8:=hs.1;have j8:=Fb T.length h8;obtain⟨aO,cO,aP,cP,aC,cC,rfl,rfl,rfl,i8,i4,i9⟩:=hP.open;obtain⟨aX,cX,rfl,g6⟩:=p.open;rw[hl]at g6 p ⊢;obtain⟨N,v,rfl,_,e9,c7⟩:=hP.ord R;obtain⟨K,oP,uP,rfl,_,d6,c8,c5⟩:=hP.pow R;obtain⟨a,ha⟩:∃a,x[i]?=some a:=⟨_,AU (by omega)⟩;obtain⟨bX,oX,rfl,_,h6,d7⟩:=p.at ha;have hd:=EB R;have X:=DJ hT i;rw[hd]at X Q;have a2:x.drop i=a::x.drop (i+1):=by rw[Dp (show i<x.length by omega),(Ak.1 ha).2]
 rw[hd,a2]at O;have b2:L.o<=7:=hs.2 L (Af R);have i1:a<L.o:=O.1;have e8:(ints x).length=T.length:=by rw[BK];exact hl
 have c3:a=0->pad i (Ai (T.drop i) (x.drop i))=pad (i+1) (Ai (T.drop (i+1)) (x.drop (i+1))):=λJ=>by
  rw[hd,a2,J,kD X Q O.2,<-LU];rfl
 have b8:∀y:List Nat,pad (i+1) y=pad i (0::y):=λy=>by rw[<-LU];rfl
 have HP:=AB hP;have HX:=AB p;have c9:=AB hF;have e6:=AB (Jw T hT hs i (Ci hi));have g2:=AB c5;have u:=AB (And.intro c7 (And.intro c8 d7));have h3:=AB c3;have HE:=AB O;have Y:=AB (And.intro X Q);have r:=AB hd;have h9:=AB a2;have a3:=AB b8;have g4:=AB (λJ=>mV X Q (a:=a) J O);have h4:=AB (Br X.2.2.2.2 Q.1 O.2).1;have f6:=AB ha;clear hP p hF c5 c7 c8 d7 c3 O X Q hd a2 b8 ha hT hs R;obtain⟨wb,l⟩:∃wb,wb=w.alloc (.cells #[.slice (some ⟨N,v,none⟩) T.length cO,.slice (some ⟨K,oP,none⟩) T.length cP,.slice aC T.length cC] 28):=⟨_,rfl⟩;go_enter Tryz.func236,Tryz.ntmps236;go_upto_region 4 with fail;rw[<-l];have b3:=AB (show Below (w.heap.size+1) (w.alloc (.cells #[.slice (some ⟨N,v,none⟩) T.length cO,.slice (some ⟨K,oP,none⟩) T.length cP,.slice aC T.length cC] 28)) wb by rw[l];exact BB _ _);clear l;have w6:(i:Int)<(T.length:Int):=by omega
 have w7:(0:Int)<=(i:Int):=by omega
 have C:IntKind.i64.wrap ((i:Int)+1)=(i:Int)+1:=Ac _ (by omega);go_wp2_with fail;refine(JW Any _ _ _ (HX.AA.keep (Cq b3.AA Any)) (by omega)).mono ?_;rintro e w1 ⟨g1,c1,rfl,z,d4⟩;rw[e8]at z ⊢;have l:w.heap.size+1<=wb.heap.size:=by have:=b3.AA.size;simp at this;omega
 have Z:=AB (b3.AA.trans (d4.mono l));have i3:=z.lt;obtain⟨s1,f1⟩:=z.cell (j:=i) (a:=(a:Int)) (by rw[Dt,f6.AA];rfl);obtain⟨d,q⟩:=z.Iz i 0;have d3:=AB d;have a8:=AB (Z.AA.grown q (by have:=Z.AA.size;simp at this;omega) (by intro k hk;cases hk;omega));obtain⟨g,F,e2⟩:=CY Z.AA;have j9:¬w.heap.size=g1:=by omega
 have j7:¬g1=w.heap.size:=by omega
 clear z d4 d q;go_upto_region 6 with fail;have b1:(x.set i 0).drop (i+1)=x.drop (i+1):=by simp[List.drop_set]
 go_wp2_with fail;refine(c9.AA _ _ _ _ _ (x.set i 0) (HP.AA.keep (Cq a8.AA Any)) (d3.AA.sl.mono (λ_ _=>trivial)) (by simp[hl]) (by rw[b1];exact HE.AA.2)).mono ?_;rintro e C ⟨v3,rfl,b0,c0⟩;rw[b1]at b0;have i2:w.heap.size+1<=w1.heap.size:=by have:=Z.AA.size;simp at this;omega
 have V:=AB (a8.AA.trans (c0.mono (by simp;omega)));have a4:=AB (b0.mono (B':=w.heap.size) (by simp;omega));have a1:=Cq V.AA Any;have b4:C.cell? ⟨bX,oX+i,none⟩=some (.int .i64 (a:Int)):=by rw[a1.cell trivial h6];exact u.AA.2.2
 have g5:w.heap.size+1<=C.heap.size:=by have:=V.AA.size;simp at this;omega
 clear b0 c0 g F e2 s1 f1 a8 d3 b1;obtain⟨g,F,e2⟩:=CY V.AA;by_cases J:a=0
 .have hz:((a:Int)==0)=true:=by rw[J];rfl
  have HR:=AB (h3.AA J);have f8:=AB (Cy V.AA);clear a1;go_wp2_with fail;go_ret;rw[HR.AA];exact⟨_,rfl,a4.AA,f8.AA⟩
 .have hz:((a:Int)==0)=false:=by simp;omega
  obtain⟨b6,b9,d8,e3⟩:=g4.AA J;have b7:C.cell? ⟨N,v+i,none⟩=some (.int .i64 (L.o:Int)):=by rw[a1.cell trivial e9];exact u.AA.1
  have h5:C.cell? ⟨K,oP+i,none⟩=some uP:=by rw[a1.cell trivial d6];exact u.AA.2.1
  have f0:N<C.heap.size:=by omega
  have f9:bX<C.heap.size:=by omega
  have j4:K<C.heap.size:=by omega
  have g9:w.heap.size<C.heap.size:=by omega
  have i7:IntKind.i64.wrap ((L.o:Int)-(a:Int))=((L.o-a:Nat):Int):=by rw[Ac _ (by omega)];omega
  obtain⟨I,U⟩:∃I,I=C.alloc (.cells (madeCells #[.int .i64 0] T.length) 2):=⟨_,rfl⟩;have hN:Own w.heap.size I (.slice (some ⟨C.heap.size,0,none⟩) T.length T.length) (ints (List.replicate T.length 0)):=by
   rw[U,<-JS];exact Own.made (B:=w.heap.size) C T.length (by omega) (by unfold maxLen;omega)
  have HV:=AB (And.intro b6 (And.intro b9 (And.intro d8 e3)));clear b6 b9 d8 e3;go_upto_region 10 with fail;rw[<-U];have a7:=AB (show Below (w.heap.size+1) _ I by rw[U];exact V.AA.alloc g5 _);have s:Keep (λ_=>True) C I:=by rw[U];exact AL.alloc _
  have j6:C.heap.size<I.heap.size:=by rw[U];simp
  have h7:=(s.cell (b:=N) (o:=v+i) trivial f0).trans b7;have e7:=(s.cell (b:=bX) (o:=oX+i) trivial f9).trans b4;have d0:=(s.cell (b:=w.heap.size) (o:=0) trivial g9).trans g;obtain⟨s4,f4⟩:=hN.cell (j:=i) (a:=0) (by rw[Dt];simp[hi]);obtain⟨d,q⟩:=hN.Iz i (L.o-a);have d2:=AB d;have d9:=AB q;have c6:=AB s;have j5:¬w.heap.size=C.heap.size:=by omega
  have i6:¬bX=C.heap.size:=by omega
  have j1:¬N=C.heap.size:=by omega
  clear U hN d q s a1 g F e2 b7 b4 h5;go_cut [10] (λtv W=>tv= .slice (some ⟨C.heap.size,0,none⟩) T.length T.length/\Hid (W=(I.setCell ⟨C.heap.size,i,none⟩ (.int .i64 ((L.o-a:Nat):Int))).drew));case first=>
   go_region_law (fail);all_goals (go_wp2_with fail;go_meet)
   all_goals exact⟨rfl,AB rfl⟩
  case rest=>
   obtain⟨rfl,d5⟩:=hcut;have a5:=d5.AA;rename World=>D;have a0:Below (w.heap.size+1) (w.alloc (.cells #[.slice (some ⟨N,v,none⟩) T.length cO,.slice (some ⟨K,oP,none⟩) T.length cP,.slice aC T.length cC] 28)) D:=by
    rw[a5];exact(a7.AA.grown d9.AA (by have:=a7.AA.size;simp at this;omega) (by intro k hk;cases hk;omega)).drew
   have d1:Own w.heap.size D (.slice (some ⟨C.heap.size,0,none⟩) T.length T.length) (ints (pad i ((L.o-a)::AJ.one (T.drop (i+1))))):=by
    have h:=d2.AA.drew;rw[show(List.replicate T.length 0).set i (L.o-a)=pad i ((L.o-a)::AJ.one (T.drop (i+1))) from by
     refine P7 (by simp[pad,AJ.one];omega) λj h1 h2=>?_;simp only[pad,AJ.one,List.getElem_set,List.getElem_replicate,List.getElem_append,Bp];split
     .next e=>subst e;simp
     .next e=>
      split
      .rfl
      .rw[List.getElem_cons,dif_neg (by omega),List.getElem_replicate]]at h
    rw[a5];exact h
   have c4:Own w.heap.size D v3 (ints (pad (i+1) (Ai (T.drop (i+1)) (x.drop (i+1))))):=by
    rw[a5];refine(a4.AA.keep (S:=λk=>k≠C.heap.size) (((c6.AA.mono (λ_ _=>trivial)).setCell (by simp) _).drew) (λk hk=>?_));have:=(Aq a4.AA k hk).2;show k≠_;omega
   have a6:=Cq a0 Any;obtain⟨g,F,e2⟩:=CY a0;have j3:w.heap.size+1<=D.heap.size:=by have:=a0.size;simp at this;omega
   have j0:=(a6.cell (b:=K) (o:=oP+i) trivial d6).trans u.AA.2.1;have j2:K<D.heap.size:=by omega
   have i5:w.heap.size<D.heap.size:=by omega
   have a9:=AB (HP.AA.keep a6);have f7:=AB (g2.AA.keep a6);have g7:=AB (d1.sl.mono (S':=Any) (λ_ _=>trivial));have g0:=AB (c4.sl.mono (S':=Any) (λ_ _=>trivial));have b5:=AB a0;have L1:=AB (show(pad (i+1) (Ai (T.drop (i+1)) (x.drop (i+1)))).length=T.length by rw[BS,Ad h4.AA];simp;omega);have L2:=AB (show(pad i ((L.o-a)::AJ.one (T.drop (i+1)))).length=T.length by rw[BS];simp[AJ.one];omega);have L3:=AB (show(pad (i+1) L.w).length=T.length by rw[BS,Ad Y.AA.1.2.1];simp;omega);have F1:=AB (show El (T.drop i) ((pad (i+1) (Ai (T.drop (i+1)) (x.drop (i+1)))).drop i) by rw[a3.AA,BJ,r.AA];exact HV.AA.2.2.1);have F2:=AB (show El (T.drop i) ((pad i ((L.o-a)::AJ.one (T.drop (i+1)))).drop i) by rw[BJ,r.AA];exact HV.AA.2.1);have F3:=AB (show El (T.drop (i+1)) ((pad (i+1) L.w).drop (i+1)) by rw[BJ];exact Y.AA.1.2.1);have F4:=AB (show El (T.drop i) (mul (T.drop i) ((pad (i+1) (Ai (T.drop (i+1)) (x.drop (i+1)))).drop i) ((pad i ((L.o-a)::AJ.one (T.drop (i+1)))).drop i)) by rw[r.AA]at *; exact Bz Y.AA.1 F1.AA F2.AA);have F5:=AB (show El (T.drop i) ((pad (i+1) (Ai (T.drop (i+1)) ((pad (i+1) L.w).drop (i+1)))).drop i) by rw[BJ,a3.AA,BJ,r.AA];exact HV.AA.2.2.2);clear a5 d5 a0 d1 c4 a6 d2 d9 c6 a7 a4 V Z d0 s4 f4 h7 e7 u;go_wp2_with fail;go_region_held3 (λw'=>(∀b o,b<D.heap.size->w'.cell? ⟨b,o,none⟩=D.cell? ⟨b,o,none⟩)/\Keep (λ_=>True) D w')
    (first|exact Ap (by repeat(first|exact Ab|exact AL|refine AR ?_ ‹_›)))
    (first|(go_at_call_of 217 v3;refine(e6.AA _ _ _ _ v3 (.slice (some ⟨C.heap.size,0,none⟩) T.length T.length) _ _ (a9.AA.keep (by repeat(first|exact Ab|exact AL|refine AR ?_ ‹_›))) (g0.AA.keep (by repeat(first|exact Ab|exact AL|refine AR ?_ ‹_›))) (g7.AA.keep (by repeat(first|exact Ab|exact AL|refine AR ?_ ‹_›))) L1.AA L2.AA F1.AA F2.AA).mono ?_;rintro e w6 ⟨v6,rfl,e5,i0⟩)|(go_at_call 236;refine(c9.AA _ _ _ _ uP _ (a9.AA.keep (by repeat(first|exact Ab|exact AL|refine AR ?_ ‹_›))) (f7.AA.keep (by repeat(first|exact Ab|exact AL|refine AR ?_ ‹_›))) L3.AA F3.AA).mono ?_;rintro e w7 ⟨v7,rfl,b2,f3⟩)|(go_at_call_of 217 v7;refine(e6.AA _ _ _ _ v6 v7 _ _ (a9.AA.keep (by repeat(first|exact Ab|exact AL|refine AR ?_ ‹_›))) ((e5.sl.mono (λ_ _=>trivial)).keep (by repeat(first|exact Ab|exact AL|refine AR ?_ ‹_›))) ((b2.sl.mono (λ_ _=>trivial)).keep (by repeat(first|exact Ab|exact AL|refine AR ?_ ‹_›))) (by rw[BS,Ad F4.AA];simp;omega) (by rw[BS,BJ,Ad (qx Y.AA.1.2.2.2.2 Y.AA.2.1 Y.AA.1.2.1)];simp;omega) (by rw[BJ];exact F4.AA) F5.AA).mono ?_;rintro e w8 ⟨v8,rfl,c2,g3⟩))
   have f5:w.heap.size<=w7.heap.size:=by
    have:=(show Keep (λ_=>True) D w7 from(by repeat(first|exact Ab|exact AL|refine AR ?_ ‹_›))).size;omega
   have g8:=AB (Cy (show Below (w.heap.size+1) _ w8 from(by repeat(first|exact b5.AA|exact b5.AA.drew|refine Below.step ?_ (by simp) ‹_›))));have f2:=AB (c2.mono f5);have F:(pad (i+1) (Ai (T.drop (i+1)) (x.drop (i+1)))).drop i=0::Ai (T.drop (i+1)) (x.drop (i+1)):=by rw[a3.AA,BJ]
   have e4:(pad (i+1) (Ai (T.drop (i+1)) L.w)).drop i=0::Ai (T.drop (i+1)) L.w:=by rw[a3.AA,BJ]
   have HQ:=AB (show mul (T.drop i) ((pad i (mul (T.drop i) ((pad (i+1) (Ai (T.drop (i+1)) (x.drop (i+1)))).drop i) ((pad i ((L.o-a)::AJ.one (T.drop (i+1)))).drop i))).drop i) ((pad (i+1) (Ai (T.drop (i+1)) ((pad (i+1) L.w).drop (i+1)))).drop i)=Ai (T.drop i) (x.drop i) by
    rw[BJ (i+1) L.w,e4,F,BJ,BJ,r.AA,h9.AA];exact HV.AA.1.symm)
   clear e5 b2 c2 i0 f3 g3 F e4;go_wp2_with fail;go_ret;refine⟨_,rfl,?_,g8.AA⟩;have h:=f2.AA;rwa[HQ.AA]at h
theorem PN (T:Tw)(hT:Wf T)(B:Small T)(hg:AJ.Good T)(m:Nat):∀i,T.length-i=m->i<=T.length->Qz T i:=by
 induction m with
 |zero=>
  intro i D hi;obtain rfl:i=T.length:=by omega
  exact mW T B
 |succ m ih=>
  intro i D hi;obtain⟨L,C⟩:∃L,T[i]?=some L:=⟨_,AU (by omega)⟩;exact qy T hT B i L C (KQ hg i) (ih (i+1) (by omega) (by omega))
theorem Qu (T:Tw)(hT:Wf T)(U:Small T)(hg:AJ.Good T)(w:World)(N F D B:Value)(x:List Nat)(J:Av Any w N F D (AZ T))(I:AP Any w B (ints x))(C:El T x):
  Calls Tryz.prog 191 #[.agg #[N,F,D],B] w (Dz (ints (Ai T x)) w):=by
 have W:=AB J;have R:=AB I;have L:=AB C;have S:=AB (PN T hT U hg T.length 0 (by omega) (AX _));clear J I C;go_enter Tryz.func191,Tryz.ntmps191;go_wp2_with fail;refine(S.AA _ _ _ _ _ x (W.AA.keep (AL.alloc _)) (R.AA.keep (AL.alloc _)) (Ad L.AA) L.AA).mono ?_;rintro e Y ⟨X,rfl,O,K⟩;have Q:=AB (O.mono (B':=w.heap.size) (by simp));have V:=AB (((BB w.heap.size w).alloc AV _).trans (K.mono (by simp)));clear O K;go_wp2_with fail;go_ret;exact⟨_,rfl,Q.AA,V.AA⟩
end Jf
namespace Mo
open RowKit AJ CP FN BU FX Hf EN Jf
theorem mX (T:Tw)(hT:Wf T)(h:Small T)(hg:AJ.Good T)(w:World)(J I F N Q:Value)(x y:List Nat)(D:Av Any w J I F (AZ T))(q:AP Any w N (ints x))(r:AP Any w Q (ints y))(K:El T x)(L:El T y):
  Calls Tryz.prog 138 #[.agg #[J,I,F],N,Q] w (Dz (ints (Gen.com (mul T) (Ai T) x y)) w):=by
 have g:=AB D;have l:=AB q;have s:=AB r;have Z:=AB K;have z:=AB L;have R:=AB (λW U vb a b D ha hb S hB=>KV T hT h W J I F U vb a b D ha hb S hB);have HI:=AB (λW U a D ha S=>Qu T hT h hg W J I F U a D ha S);have a1:=AB (Bz hT L K);have a4:=AB (Bz hT K L);have a5:=AB (Br hT hg (Bz hT L K)).1;obtain⟨B,C⟩:∃B,B=w.alloc (.cells #[J,I,F] 28):=⟨_,rfl⟩;clear D q r K L;go_enter Tryz.func138,Tryz.ntmps138;go_upto_region 1 with fail;rw[<-C];have a2:=AB (show Below w.heap.size w B by rw[C];exact AY.alloc AV _);obtain⟨e0,e1,e2⟩:=CY (w:=w) (wr:=B) (by rw[C];exact BB _ _);have b1:w.heap.size<B.heap.size:=by rw[C];simp
 have O:=AB (g.AA.keep (w':=B) (by rw[C];exact AL.alloc _));have d:=AB (l.AA.keep (w':=B) (by rw[C];exact AL.alloc _));have i:=AB (s.AA.keep (w':=B) (by rw[C];exact AL.alloc _));clear C g l s;go_region_held3 (λw'=>(∀b o,b<B.heap.size->w'.cell? ⟨b,o,none⟩=B.cell? ⟨b,o,none⟩)/\Keep (λ_=>True) B w')
  (first|exact Ap (by repeat(first|exact Ab|exact AL|refine AR ?_ ‹_›)))
  (first|(go_at_call_of 166 X;refine(R.AA _ v6 X _ _ (O.AA.keep (by repeat(first|exact Ab|exact AL|refine AR ?_ ‹_›))) ((v.sl.mono (λ_ _=>trivial)).keep (by repeat(first|exact Ab|exact AL|refine AR ?_ ‹_›))) ((p.sl.mono (λ_ _=>trivial)).keep (by repeat(first|exact Ab|exact AL|refine AR ?_ ‹_›))) a5.AA a4.AA).mono ?_;rintro e w8 ⟨v8,rfl,a0,b0⟩)|(have g6:=u;clear g6;go_at_call 166;refine(R.AA _ N Q x y (O.AA.keep (by repeat(first|exact Ab|exact AL|refine AR ?_ ‹_›))) (d.AA.keep (by repeat(first|exact Ab|exact AL|refine AR ?_ ‹_›))) (i.AA.keep (by repeat(first|exact Ab|exact AL|refine AR ?_ ‹_›))) Z.AA z.AA).mono ?_;rintro e Y ⟨X,rfl,p,a7⟩)|(go_at_call 191;refine(HI.AA _ v5 _ (O.AA.keep (by repeat(first|exact Ab|exact AL|refine AR ?_ ‹_›))) ((j.sl.mono (λ_ _=>trivial)).keep (by repeat(first|exact Ab|exact AL|refine AR ?_ ‹_›))) a1.AA).mono ?_;rintro e w6 ⟨v6,rfl,v,u⟩)|(go_at_call 166;refine(R.AA _ Q N y x (O.AA.keep (by repeat(first|exact Ab|exact AL|refine AR ?_ ‹_›))) (i.AA.keep (by repeat(first|exact Ab|exact AL|refine AR ?_ ‹_›))) (d.AA.keep (by repeat(first|exact Ab|exact AL|refine AR ?_ ‹_›))) z.AA Z.AA).mono ?_;rintro e w5 ⟨v5,rfl,j,a8⟩))
 have a9:w.heap.size<=Y.heap.size:=by
  have:=(show Keep (λ_=>True) B Y from(by repeat(first|exact Ab|exact AL|refine AR ?_ ‹_›))).size;omega
 have V:=a2;have a3:=AB (show Below w.heap.size w w8 from(by repeat(first|exact V.AA|exact V.AA.drew|refine Below.step ?_ (by simp) ‹_›)));have a6:=AB (a0.mono a9);clear j v p a0 a8 u a7 b0;go_wp2_with fail;go_ret;exact⟨_,rfl,a6.AA,a3.AA⟩
theorem TP (T:Tw)(hT:Wf T)(S:Small T)(hg:AJ.Good T)(w:World)(L J I F:Value)(x:List Nat)(K:Nat)(U:K<=1000)(D:Av Any w L J I (AZ T))(C:AP Any w F (ints x))(B:El T x):
  Calls Tryz.prog 136 #[.agg #[L,J,I],F,.int .i64 (K:Int)] w (Dz (ints (npow (mul T) (AJ.one T) x K)) w):=by
 have Y:=AB D;have R:=AB C;have Z:=AB B;have b:decide ((K:Int)<0)=false:=by simp
 have V:=AB (λW D C=>O6 T hT S 0 K (AX _) hg U W L J I F x D C (Ad B) B);clear D C B;go_enter Tryz.func136,Tryz.ntmps136;go_wp2_with fail;refine(V.AA _ (Y.AA.keep (AL.alloc _)) (R.AA.keep (AL.alloc _))).mono ?_;rintro e d ⟨a,rfl,O,N⟩;have Q:=AB (O.mono (B':=w.heap.size) (by simp));have X:=AB (((BB w.heap.size w).alloc AV _).trans (N.mono (by simp)));clear O N;go_wp2_with fail;go_ret;exact⟨_,rfl,Q.AA,X.AA⟩
theorem WT (T:Tw)(hT:Wf T)(V:Small T)(hg:AJ.Good T)(w:World)(J I F N:Value)(x:List Nat)(K:Nat)(l:K<=1000)(a1:0<K)(D:Av Any w J I F (AZ T))(L:AP Any w N (ints x))(O:El T x):
  Calls Tryz.prog 136 #[.agg #[J,I,F],N,.int .i64 (-(K:Int))] w (Dz (ints (npow (mul T) (AJ.one T) (Ai T x) K)) w):=by
 have U:=AB D;have Y:=AB L;have z:=AB O;have S:=AB (Br hT hg O).1;have hd:decide (-(K:Int)<0)=true:=by simp;omega
 have hw:IntKind.i64.wrap (-(-(K:Int)))=(K:Int):=by rw[Ac _ (by omega)];omega
 have a2:IntKind.i64.wrap (K:Int)=(K:Int):=Ac _ (by omega);have q:=AB (λW Q a D ha j=>Qu T hT V hg W J I F Q a D ha j);have r:=AB (λW Q D L=>O6 T hT V 0 K (AX _) hg l W J I F Q (Ai T x) D L (Ad S.AA) S.AA);obtain⟨B,C⟩:∃B,B=w.alloc (.cells #[J,I,F] 28):=⟨_,rfl⟩;clear D L O;go_enter Tryz.func136,Tryz.ntmps136;go_upto_region 2 with fail;rw[<-C];have R:=AB (show Below w.heap.size w B by rw[C];exact AY.alloc AV _);obtain⟨e0,e1,e2⟩:=CY (w:=w) (wr:=B) (by rw[C];exact BB _ _);have a0:w.heap.size<B.heap.size:=by rw[C];simp
 have X:=AB (U.AA.keep (w':=B) (by rw[C];exact AL.alloc _));have p:=AB (Y.AA.keep (w':=B) (by rw[C];exact AL.alloc _));clear C U Y;go_region_held3 (λw'=>(∀b o,b<B.heap.size->w'.cell? ⟨b,o,none⟩=B.cell? ⟨b,o,none⟩)/\Keep (λ_=>True) B w')
  (first|exact Ap (by repeat(first|exact Ab|exact AL|refine AR ?_ ‹_›)))
  (first|(go_at_call 191;refine(q.AA _ N _ (X.AA.keep (by repeat(first|exact Ab|exact AL|refine AR ?_ ‹_›))) (p.AA.keep (by repeat(first|exact Ab|exact AL|refine AR ?_ ‹_›))) z.AA).mono ?_;rintro e w6 ⟨g,rfl,Z,u⟩)|(go_at_call_of 192 (Value.int .i64 (K:Int));refine(r.AA _ g (X.AA.keep (by repeat(first|exact Ab|exact AL|refine AR ?_ ‹_›))) ((Z.sl.mono (λ_ _=>trivial)).keep (by repeat(first|exact Ab|exact AL|refine AR ?_ ‹_›)))).mono ?_;rintro e i ⟨v8,rfl,d,y⟩))
 have v:w.heap.size<=w6.heap.size:=by
  have:=(show Keep (λ_=>True) B w6 from(by repeat(first|exact Ab|exact AL|refine AR ?_ ‹_›))).size;omega
 have h:=AB (show Below w.heap.size w i from(by repeat(first|exact R.AA|exact R.AA.drew|refine Below.step ?_ (by simp) ‹_›)));have s:=AB (d.mono v);clear Z d u y;go_wp2_with fail;go_ret;exact⟨_,rfl,s.AA,h.AA⟩
end Mo
namespace Iy
open RowKit AJ CP FN BU FX Hf EN Jf Mo
theorem iy {T:Tw}(G:CE (El T) (mul T) (AJ.one T)){us:List (List Nat)}{es:List Nat}{k a:Nat}{u:List Nat}(C:us[k]?=some u)(ha:es[k]?=some a)(D:∀u∈us,El T u):
  BO (mul T) (AJ.one T) (us.take (k+1)) (es.take (k+1))=mul T (BO (mul T) (AJ.one T) (us.take k) (es.take k)) (npow (mul T) (AJ.one T) u a)/\El T (BO (mul T) (AJ.one T) (us.take k) (es.take k)):=by
 have B:El T (BO (mul T) (AJ.one T) (us.take k) (es.take k)):=MI (El T) (mul T) (λ_ _ p q=>G.cl p q) _ (λc F=>D c (La F)) _ _ G.me;refine⟨?_,B⟩;rw[Wi (mul T) (AJ.one T) us es k a u C ha,G.U0 (D u (Af C)) B]
theorem AQ.Ka {S:Nat->Prop}{w:World}{v:Value}{rows:List (List Nat)}(h:AQ S w v (rows.map ints)){k:Nat}{r:List Nat}(I:rows[k]?=some r):
  ∃b o c u,v= .slice (some ⟨b,o,none⟩) rows.length c/\b<w.heap.size/\w.cell? ⟨b,o+k,none⟩=some u/\AP S w u (ints r):=by
 obtain⟨L,c,C,Q,O,N,K⟩:=h;obtain⟨b,o,J,_,B,u,F,D⟩:=K k (ints r) (by simp[I]);exact⟨b,o,c,u,by rw[C,J,BC],B,F,D⟩
theorem AQ.form {S:Nat->Prop}{w:World}{v:Value}{rows:List (List Nat)}(h:AQ S w v (rows.map ints)):∃a c,v= .slice a rows.length c:=by
 obtain⟨B,c,C,_⟩:=h;exact⟨B,c,by rw[C,BC]⟩
theorem Jp (T:Tw)(hT:Wf T)(V:Small T)(hg:AJ.Good T)(w:World)(D C B g N:Value)(us:List (List Nat))(es:List Nat)(J:Av Any w D C B (AZ T))(F:AQ Any w g (us.map ints))(ha:AP Any w N (ints es))(hl:us.length<=es.length)(d1:us.length<=1000)(d:∀u∈us,El T u)(s:∀a∈es,a<=1000):
  Calls Tryz.prog 109 #[.agg #[D,C,B],g,N] w (Dz (ints (BO (mul T) (AJ.one T) us es)) w):=by
 have j:=AB J;have HU:=AB F;have HA:=AB ha;have v:=AB d;have b8:=AB s;have HG:=AB (BA hT hg);have HM:=AB (λW N vb a b J ha hb Q I=>KV T hT V W D C B N vb a b J ha hb Q I);have b9:=AB (λW N a K hK J ha Q=>TP T hT V hg W D C B N a K hK J ha Q);have a7:=AB (λW O=>Ca.PY T V.1 W D C B O);obtain⟨aU,cU,rfl⟩:=AQ.form F;obtain⟨aA,cA,rfl,_⟩:=ha.open;have Y:(AZ T).os=ints (Ca.Ed T):=Ca.NU T;have a8:=AB Y;clear J F ha d s Y;go_enter Tryz.func109,Tryz.ntmps109;go_wp2_with fail;refine(a7.AA _ (by have h:=(j.AA.keep (w':=w.alloc (.cells #[D,C,B] 28)) (AL.alloc _)).os;rwa[a8.AA]at h)).mono ?_;rintro e w1 ⟨g1,c1,rfl,q,a0⟩;have a5:=AB (show Below (w.heap.size+1) (w.alloc (.cells #[D,C,B] 28)) w1 from a0.mono (by simp));have b3:=AB (q.mono (B':=w.heap.size) (by simp));clear q a0;go_wp2_with fail;go_loopw [7,8] (λov X wr=>∃k:Nat,k<=us.length/\X= .int .i64 (k:Int)/\Hid (Own w.heap.size wr ov (ints (BO (mul T) (AJ.one T) (us.take k) (es.take k))))/\Below (w.heap.size+1) (w.alloc (.cells #[D,C,B] 28)) wr) (λ_ X _=>us.length-(intOf X).toNat);case atStart=>exact⟨0,AX _,rfl,AB (by rw[List.take_zero,List.take_zero];exact b3.AA),a5.AA⟩
 case round=>
  obtain⟨k,hk,rfl,O,I⟩:=hrel;have U:=AB I;have L:=Cq I Any;obtain⟨e0,e1,e2⟩:=CY I;have d3:w.heap.size+1<=wr.heap.size:=by have:=I.size;simp at this;omega
  clear I;by_cases c2:k<us.length
  .obtain⟨u,F⟩:∃u,us[k]?=some u:=⟨_,AU c2⟩;obtain⟨a,ha⟩:∃a,es[k]?=some a:=⟨_,AU (by omega)⟩;obtain⟨R,oU,c3,vr,l,a9,r,Z⟩:=AQ.Ka HU.AA F;obtain⟨rfl,rfl⟩:aU=some ⟨R,oU,none⟩/\cU=c3:=by simpa using l
   obtain⟨p,oA,rfl,_,b5,a1⟩:=HA.AA.at ha;have c6:=(L.cell (b:=R) (o:=oU+k) trivial a9).trans r;have d2:=(L.cell (b:=p) (o:=oA+k) trivial b5).trans a1;have c9:w.heap.size<wr.heap.size:=by omega
   have c7:R<wr.heap.size:=by omega
   have d5:p<wr.heap.size:=by omega
   have b4:a<=1000:=b8.AA a (Af ha);have i:=iy HG.AA F ha v.AA;have a4:=AB i;have a2:=AB (v.AA u (Af F));have c4:=AB (HG.AA.npow a2.AA a);have y:=AB (j.AA.keep L);have a6:=AB (AP.keep Z L);have b7:=AB (O.AA.sl.mono (S':=Any) (λ_ _=>trivial));have d0:(k:Int)<(us.length:Int):=by omega
   have c8:(k:Int)<(es.length:Int):=by omega
   have d4:(0:Int)<=(k:Int):=by omega
   clear i F ha l Z r a1 L;go_wp2_with fail;go_region_held3 (λw'=>(∀b o,b<wr.heap.size->w'.cell? ⟨b,o,none⟩=wr.cell? ⟨b,o,none⟩)/\Keep (λ_=>True) wr w')
    (first|exact Ap (by repeat(first|exact Ab|exact AL|refine AR ?_ ‹_›)))
    (first|(go_at_call 136;refine(b9.AA _ vr u a b4 (y.AA.keep (by repeat(first|exact Ab|exact AL|refine AR ?_ ‹_›))) (a6.AA.keep (by repeat(first|exact Ab|exact AL|refine AR ?_ ‹_›))) a2.AA).mono ?_;rintro e w6 ⟨z,rfl,a3,c0⟩)|(go_at_call_of 166 z;refine(HM.AA _ _ z _ _ (y.AA.keep (by repeat(first|exact Ab|exact AL|refine AR ?_ ‹_›))) (b7.AA.keep (by repeat(first|exact Ab|exact AL|refine AR ?_ ‹_›))) ((a3.sl.mono (λ_ _=>trivial)).keep (by repeat(first|exact Ab|exact AL|refine AR ?_ ‹_›))) a4.AA.2 c4.AA).mono ?_;rintro e w8 ⟨v8,rfl,S,c5⟩))
   have b1:w.heap.size<=w6.heap.size:=by
    have:=(show Keep (λ_=>True) wr w6 from(by repeat(first|exact Ab|exact AL|refine AR ?_ ‹_›))).size;omega
   have b2:=AB (show Below (w.heap.size+1) (w.alloc (.cells #[D,C,B] 28)) w8 from(by repeat(first|exact U.AA|exact U.AA.drew|refine Below.step ?_ (by simp) ‹_›)));rw[<-a4.AA.1]at S;have b0:=AB (S.mono b1);clear a3 S c0 c5;go_wp2_with fail;go_roundw;case rel=>exact⟨k+1,by omega,by go_num,b0,b2.AA⟩
   case measure=>simp[intOf];omega
  .obtain rfl:k=us.length:=by omega
   have b6:=AB (Cy U.AA);have HE:=AB (show BO (mul T) (AJ.one T) (us.take us.length) (es.take us.length)=BO (mul T) (AJ.one T) us es from by
    rw[FO];have:∀(us:List (List Nat)) (es:List Nat) (x:List Nat),us.length<=es.length->BO (mul T) x us (es.take us.length)=BO (mul T) x us es:=by
     intro us
     induction us with
     |nil=>intro es x _;cases es<;>rfl
     |cons u us ih=>intro es x h;cases es with
      |nil=>simp at h
      |cons a es=>exact ih es _ (by simpa using h)
    exact this us es _ hl)
   clear L;go_wp2_with fail;go_ret;have h:=O.AA;rw[HE.AA]at h;exact⟨_,rfl,h,b6.AA⟩
theorem PD (T:Tw)(hT:Wf T)(V:Small T)(hg:AJ.Good T)(w:World)(J F D K I:Value)(us:List (List Nat))(es:List Nat)(B:Av Any w J F D (AZ T))(C:AQ Any w K (us.map ints))(ha:AP Any w I (ints es))(Y:us.length<=es.length)(b:us.length<=1000)(O:∀u∈us,El T u)(L:∀a∈es,a<=1000):
  Calls Tryz.prog 60 #[.agg #[J,F,D],K,I] w (Dz (ints (BO (mul T) (AJ.one T) us es)) w):=by
 have d:=AB B;have X:=AB C;have S:=AB ha;have U:=AB (λW B C ha=>Jp T hT V hg W J F D K I us es B C ha Y b O L);clear B C ha O L;go_enter Tryz.func60,Tryz.ntmps60;go_wp2_with fail;refine(U.AA _ (d.AA.keep (AL.alloc _)) (X.AA.keep (AL.alloc _)) (S.AA.keep (AL.alloc _))).mono ?_;rintro e h ⟨g,rfl,Q,N⟩;have R:=AB (Q.mono (B':=w.heap.size) (by simp));have Z:=AB (((BB w.heap.size w).alloc AV _).trans (N.mono (by simp)));clear Q N;go_wp2_with fail;go_ret;exact⟨_,rfl,R.AA,Z.AA⟩
theorem PU (w:World)(v:Value)(rows:List (List Nat))(N:AQ Any w v (rows.map ints))(hl:rows.length<=1000)(F:∀r∈rows,r.length<=1000):
  Calls Tryz.prog 100 #[v] w (Mv 24 2 rows w):=by
 obtain⟨i0,hi,a1,a3,a6⟩:=Bd GJ;obtain⟨aU,cU,rfl⟩:=AQ.form N;have HV:=AB N;have Q:=AB hl;have HR:=AB F;have z:=DL (base:=w.heap.size) (e:=24) (size:=1) w #[] 0 AV (AX _) rfl;clear N F;go_enter Tryz.func100,Tryz.ntmps100;go_wp2_with fail;go_loopw [3,4] (λov i wr=>∃k:Nat,k<=rows.length/\i= .int .i64 (k:Int)/\Hid (Own2 24 2 w.heap.size wr ov (rows.take k))/\Below w.heap.size w wr) (λ_ i _=>rows.length-(intOf i).toNat);case atStart=>exact⟨0,AX _,rfl,AB ⟨[],z,rfl,by simp⟩,AY.alloc AV _⟩
 case round=>
  obtain⟨k,hk,rfl,O,X⟩:=hrel;have B:=AB X;clear X z;by_cases a9:k<rows.length
  .obtain⟨r,I⟩:∃r,rows[k]?=some r:=⟨_,AU a9⟩;obtain⟨d,q,b0,vr,a,a5,l,W⟩:=AQ.Ka HV.AA I;obtain⟨rfl,rfl⟩:aU=some ⟨d,q,none⟩/\cU=b0:=by simpa using a
   have b1:=((AO (S:=Any) B.AA).cell (b:=d) (o:=q+k) trivial a5).trans l;have a4:=AB (AP.keep W (AO B.AA));have b3:=HR.AA r (Af I);have a7:=AB (show rows.take (k+1)=rows.take k++[r] by rw[EL,I];rfl);clear a l W I;go_wp2_with fail;refine(JW Any _ _ _ a4.AA (by rw[BK];omega)).mono ?_;rintro e Z ⟨g,c,rfl,y,U⟩;have D:=AB (B.AA.trans (U.mono B.AA.size));have s:=AB (CX.row (y.mono (B':=w.heap.size) B.AA.size));obtain⟨us,C,x,p⟩:=O.AA.of_below U;have L:=AB (And.intro x p);have V:(rows.take k).length=k:=by simp;omega
   rw[V]at C;have a8:=AB V;clear y U x p O V;go_wp2_with (at_builtin;(refine DR _ rfl _ _ 25 rfl w.heap.size 24 i0 (.slice none 0 0) 1 24 Tryz.underlying25 hi a1 a3 a6 rfl (by decide) _ _ _ rfl (C.alloc _) ⟨Z.heap.size,0,none⟩ 1 1 [.slice (some ⟨g,0,none⟩) (ints r).length c] rfl rfl ?c1 ?c2 ?c3 ?c4 ?c5 ?_));case c1=>
    intro j u K
    match j,K with
    |0,K=>simp at K;subst K;simp[Addr.add]
   case c2=>intro u J;simp at J;subst J;rfl
   case c3=>have:=Q.AA;unfold maxLen;omega
   case c4=>have:=Q.AA;omega
   case c5=>have:=D.AA.size;simp;omega
   .intro v' Y a0 R _;have HN:=AB (show Own2 24 2 w.heap.size Y v' (rows.take (k+1)) from by
     rw[a7.AA];exact Own2.push (w:=Z.alloc _) (us:=us) (by decide) a8.AA (C.alloc _) L.AA.1 (λi r u F J=>(L.AA.2 i r u F J).keep (S:=λ_=>True) (AL.alloc _) (λ_ _=>trivial)) (s.AA.keep (S:=λ_=>True) (AL.alloc _) (λ_ _=>trivial)) a0 R)
    have a2:=AB (show Below w.heap.size w Y from(D.AA.alloc (by have:=D.AA.size;omega) _).grown R (by simp;have:=D.AA.size;omega) (λg hg=>(Aq C g hg).1));have b2:(k:Int)<=1000:=by have:=Q.AA;omega
    clear a0 R C L s;go_wp2_with fail;go_roundw;case rel=>exact⟨k+1,by omega,by go_num,HN,a2.AA⟩
    case measure=>simp[intOf];omega
  .obtain rfl:k=rows.length:=by omega
   go_wp2_with fail;go_ret;have h:=O.AA;rw[FO]at h;exact⟨_,rfl,h,B.AA⟩
end Iy
namespace eG
open RowKit Lib AJ Bv CP Dn Lp
open Bj(Aa)
open BU(Any)
theorem Tj {α:Type}{l:List α}{i:Nat}{x:α}(h:l[i]?=some x):l.take (i+1)=l.take i++[x]:=by rw[EL,h];rfl
theorem lF (T:Tw)(hT:Wf T)(hs:Small T)(hg:AJ.Good T)(w:World)(O N L:Value)(aW aI:Option Addr)(n cW m d:Nat)(C:List Int)(im:List (List Nat))(hP:Av Any w O N L (AZ T))(hn:C.length=n)(e7:n<=1000)(hm:im.length=m)(e3:m<=1000)
  (hw:AP Any w (.slice aW n cW) C) (hi:AQ Any w (.slice aI m d) (im.map ints)) (b2:∀c∈im,El T c) (b4:∀l∈C,DZ m l):
  Calls Tryz.prog 134 #[.agg #[O,N,L],.slice aW n cW,.slice aI m d] w (Dz (ints (Bb T im C)) w):=by
 obtain⟨p,b5⟩:∃p,w.heap.size=p:=⟨_,rfl⟩;obtain⟨B,a1⟩:∃B,B=w.alloc (.cells #[O,N,L] 28):=⟨_,rfl⟩;have X:Below w.heap.size w B:=by rw[a1];exact AY.alloc AV _
 have c9:B.heap.size=p+1:=by rw[a1,<-b5];simp
 have c0:B.heap[p]?=some (.cells #[O,N,L] 28 (0,0)):=by rw[a1,<-b5];exact Aj _ _
 have HX:=AB (λ(W:World) (R:Below B.heap.size B W)=>And.intro (Aa ((R.block p (by omega)).trans c0)).1 (And.intro (show p<W.heap.size by have:=R.size;omega) (And.intro ((hP.keep (AO X)).keep (AO (S:=Any) R)) (And.intro ((hw.keep (AO X)).keep (AO (S:=Any) R)) ((hi.keep (AO X)).keep (AO (S:=Any) R))))));have HB:=AB (λ(W:World) (R:Below B.heap.size B W)=>X.trans (R.mono X.size));have e1:=AB (show w.heap.size<=B.heap.size from X.size);have HN:=AB hn;have HM:=AB hm;have d0:=AB b4;have c2:=AB b2;have c7:=AB (show∀i,El T (Bb T im (C.take i)) from λi=>R5 hT hg b2 _ λl V=>by rw[hm];exact b4 l (La V));have b8:=AB (λW pO pP pC va vb x y h1 h2 h3 h4 h5=>FX.KV T hT hs W pO pP pC va vb x y h1 h2 h3 h4 h5);have d9:=AB (λW pO pP pC va x h1 h2 h3=>Jf.Qu T hT hs hg W pO pP pC va x h1 h2 h3);have e0:=AB (λx (h:El T x)=>(Br hT hg h).1);have d4:=AB (Ca.PY T hs.1 B O N L (by have h:=(HX.AA B AY).2.2.1.os;rwa[Ca.NU]at h));clear hP X c9 c0 hT hs hg hn hm hw hi b2 b4;go_enter Tryz.func134,Tryz.ntmps134;go_upto_region 1 with fail;rw[<-a1];obtain⟨⟨p0,p1,p2⟩,a7,-⟩:=HX.AA B AY;clear a1 b5;go_wp2_with (go_at_call 105;refine d4.AA.mono ?_;rintro e w1 ⟨g,c,rfl,ho,c4⟩;obtain⟨q,z⟩:∃q,(ints (AJ.one T)).length=q:=⟨_,rfl⟩;rw[z]at ho ⊢; have d7:=AB (show Own B.heap.size w1 (.slice (some ⟨g,0,none⟩) q c) (ints (Bb T im (C.take 0))) from ho);have d2:=AB c4;clear ho c4 z);go_loopw [7,8] (λov iv wr=>∃(i:Nat) (s:Option Addr) (k r:Nat),i<=n/\iv= .int .i64 (i:Int)/\ov= .slice s k r/\Hid (Own B.heap.size wr (.slice s k r) (ints (Bb T im (C.take i))))/\Hid (Below B.heap.size B wr)) (λ_ iv _=>n-(intOf iv).toNat);case atStart=>exact⟨0,_,_,_,AX _,rfl,rfl,d7,d2⟩
 case round=>
  clear p0 p1 p2 a7;obtain⟨i,s,k,r,e6,rfl,rfl,hO,U⟩:=hrel;by_cases a9:i<n
  .obtain⟨l,V⟩:∃l,C[i]?=some l:=⟨_,AU (by rw[HN.AA];exact a9)⟩;have a0:=d0.AA l (Af V);obtain⟨⟨p0,p1,p2⟩,a7,u,sw,si⟩:=HX.AA wr U.AA;obtain⟨bW,oW,uw,rfl,_,lW,cW,rfl⟩:=Ce sw V;have e5:(i:Int)<(n:Int):=by omega
   have e8:(0:Int)<=(i:Int):=by omega
   have a8:=AB a9;have c6:=AB (Tj V);have F:=AB U.AA;have c3:=AB (hO.AA.sl.mono (S':=Any) λ_ _=>trivial);by_cases b:0<l
   .obtain⟨j,hj⟩:∃j:Nat,l=(j:Int)+1:=⟨(l-1).toNat,by omega⟩;have a2:j<m:=by rcases a0 with⟨_,h⟩|⟨h,_⟩<;>omega
    obtain⟨x,K⟩:∃x,im[j]?=some x:=⟨_,AU (by rw[HM.AA];exact a2)⟩;obtain⟨bI,oI,ui,rfl,_,lI,d,I⟩:=Ce si (show(im.map ints)[j]?=some (ints x) by rw[Bh,K];rfl);obtain⟨ax,cx,rfl,_,_⟩:=Cz I;obtain⟨Z,a4⟩:∃Z,(ints x).length=Z:=⟨_,rfl⟩;rw[a4]at d I;have b6:=AB (YU (T:=T) b hj K);have b0:=AB (λ(W:World) (J:Keep Any wr W)=>b8.AA W O N L (.slice s k r) (.slice ax Z cx) (Bb T im (C.take i)) x (u.keep J) (c3.AA.keep J) (I.keep J) (c7.AA i) (c2.AA x (Af K)));have d6:(l>0):=b;have d5:IntKind.i64.wrap (l-1)=(j:Int):=(Ac _ (by omega)).trans (by omega);have d8:(j:Int)<(m:Int):=by omega
    have d3:(0:Int)<=(j:Int):=by omega
    clear V a0 u sw si hO U a9 hj a2 K I a4 b;go_upto_region 6 with fail;go_region_law (first|(go_simp;go_at_call 166;refine(b0.AA _ (by first|exact AL.drew|exact AL)).mono ?_;rintro e w5 ⟨v,rfl,D,Y⟩;obtain⟨a5,c5,rfl,_,_⟩:=Cz D.sl;obtain⟨a,a3⟩:∃a,(ints (mul T (Bb T im (C.take i)) x)).length=a:=⟨_,rfl⟩;rw[a3]at D ⊢; have b3:=AB (show Own B.heap.size w5 (.slice a5 a c5) (ints (Bb T im (C.take (i+1)))) by rw[c6.AA,UD,b6.AA];exact D.mono (by first|exact F.AA.size|exact F.AA.drew.size));have b1:=AB (show Below B.heap.size B w5 by first|exact F.AA.trans (Y.mono F.AA.size)|exact F.AA.drew.trans (Y.mono F.AA.size));clear D Y a3)|fail);all_goals
     go_wp2_with fail;go_roundw;case rel=>exact⟨i+1,_,_,_,a8.AA,by go_num,rfl,b3,b1⟩
     case measure=>have:=a8.AA;simp[intOf];omega
   .obtain⟨j,hj⟩:∃j:Nat,-l=(j:Int)+1:=⟨(-l-1).toNat,by rcases a0 with⟨h,_⟩|⟨h,_⟩<;>omega⟩;have a2:j<m:=by rcases a0 with⟨h,_⟩|⟨_,h⟩<;>omega
    obtain⟨x,K⟩:∃x,im[j]?=some x:=⟨_,AU (by rw[HM.AA];exact a2)⟩;obtain⟨bI,oI,ui,rfl,_,lI,d,I⟩:=Ce si (show(im.map ints)[j]?=some (ints x) by rw[Bh,K];rfl);obtain⟨ax,cx,rfl,_,_⟩:=Cz I;obtain⟨Z,a4⟩:∃Z,(ints x).length=Z:=⟨_,rfl⟩;rw[a4]at d I;have b7:=c2.AA x (Af K);have b6:=AB (Xc (T:=T) b hj K);have d1:=AB (λ(W:World) (J:Keep Any wr W)=>d9.AA W O N L (.slice ax Z cx) x (u.keep J) (I.keep J) b7);have b0:=AB (λ(W:World) (v:Value) (J:Keep Any wr W) (D:AP Any W v (ints (Ai T x)))=>b8.AA W O N L (.slice s k r) v (Bb T im (C.take i)) (Ai T x) (u.keep J) (c3.AA.keep J) D (c7.AA i) (e0.AA x b7));obtain⟨q,z⟩:∃q,-l=q:=⟨_,rfl⟩;have e2:IntKind.i64.wrap (-l)=q:=(Ac _ (by omega)).trans z;have d5:IntKind.i64.wrap (q-1)=(j:Int):=(Ac _ (by omega)).trans (by omega);have d6:¬(l>0):=b;have d8:(j:Int)<(m:Int):=by omega
    have d3:(0:Int)<=(j:Int):=by omega
    clear V a0 u sw si hO U a9 hj a2 K I a4 b z b7;go_upto_region 7 with fail;go_region_law (first|(go_simp;go_at_call 191;refine(d1.AA _ (by first|exact AL.drew|exact AL)).mono ?_;rintro e w4 ⟨v,rfl,c8,a6⟩;have c1:=AB (show Keep Any wr w4 by first|exact(AO a6)|exact((Keep.refl _ wr).drew).trans (AO a6));have b9:=AB (AP.mono (S':=Any) c8.sl λ_ _=>trivial);have Q:=AB (show Below B.heap.size B w4 by first|exact F.AA.trans (a6.mono F.AA.size)|exact F.AA.drew.trans (a6.mono F.AA.size));obtain⟨⟨p0,p1,p2⟩,a7,-⟩:=HX.AA w4 Q.AA;clear c8 a6)|(go_simp;go_at_call 166;refine(b0.AA _ _ (by first|exact c1.AA|exact c1.AA.drew) (by first|exact b9.AA|exact b9.AA.keep AL.drew)).mono ?_;rintro e w5 ⟨v5,rfl,D,Y⟩;obtain⟨a5,c5,rfl,_,_⟩:=Cz D.sl;obtain⟨a,a3⟩:∃a,(ints (mul T (Bb T im (C.take i)) (Ai T x))).length=a:=⟨_,rfl⟩;rw[a3]at D ⊢; have b3:=AB (show Own B.heap.size w5 (.slice a5 a c5) (ints (Bb T im (C.take (i+1)))) by rw[c6.AA,UD,b6.AA];exact D.mono (by first|exact Q.AA.size|exact Q.AA.drew.size));have b1:=AB (show Below B.heap.size B w5 by first|exact Q.AA.trans (Y.mono Q.AA.size)|exact Q.AA.drew.trans (Y.mono Q.AA.size));clear D Y a3)|fail);all_goals
     go_wp2_with fail;go_roundw;case rel=>exact⟨i+1,_,_,_,a8.AA,by go_num,rfl,b3,b1⟩
     case measure=>have:=a8.AA;simp[intOf];omega
  .obtain rfl:i=n:=by omega
   have e4:¬(i:Int)<(i:Int):=by omega
   have HF:=AB (show Dz (ints (Bb T im C)) w (.returned (.slice s k r)) wr from⟨_,rfl,by have h:=hO.AA;rw[show C.take i=C by rw[<-HN.AA,FO]]at h;exact h.mono e1.AA,HB.AA wr U.AA⟩);obtain⟨⟨p0,p1,p2⟩,a7,-⟩:=HX.AA wr U.AA;clear hO U;go_wp2_with fail;go_ret;exact HF.AA
end eG
end Go.Proofs.YtgjadpmbnejaoaaGreat
