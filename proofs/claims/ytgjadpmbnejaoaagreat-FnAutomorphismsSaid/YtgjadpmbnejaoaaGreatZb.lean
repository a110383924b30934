import Derived.Test.YtgjadpmbnejaoaaGreatZa
import Derived.Laws.AppendOwnNone
import Derived.Deep.RegionLaw
/-
  Lemmas for the law FnAutomorphisms, in short spelling.
-/
set_option linter.unusedVariables false
set_option linter.unusedSimpArgs false
set_option maxRecDepth 100000
set_option maxHeartbeats 40000000
namespace Go.Proofs.YtgjadpmbnejaoaaGreat
namespace Bv
open RowKit AJ
theorem Cz {α:Type}{E:World->Value->α->Prop}{S:Nat->Prop}{w:World}{v:Value}{l:List α}(h:Am E S w v l):∃a c,v= .slice a l.length c/\l.length<=c/\c<=maxLen:=by
 obtain⟨a,c,B,C,D,_⟩:=h;exact⟨a,c,B,C,D⟩
theorem Ce {α:Type}{E:World->Value->α->Prop}{S:Nat->Prop}{w:World}{a:Option Addr}{n c:Nat}{l:List α}(h:Am E S w (.slice a n c) l){k:Nat}{x:α}(B:l[k]?=some x):
  ∃b o u,a=some ⟨b,o,none⟩/\S b/\b<w.heap.size/\w.cell? ⟨b,o+k,none⟩=some u/\E w u x:=by
 obtain⟨L,K,e,_,_,_,D⟩:=h;obtain⟨rfl,_,_⟩:a=L/\n=l.length/\c=K:=by simpa using e
 obtain⟨b,o,C,e2,F,u,J,I⟩:=D k x B;exact⟨b,o,u,C,e2,F,J,I⟩
theorem Dj {w w':World}{o:Obj}{B g:Nat}(C:Below B w w')(hg:g<B)(h:w.heap[g]?=some o):w'.heap[g]?=some o:=(C.block g hg).trans h
theorem Mm {w:World}{g:Nat}{a b c:Value}{t:TypeId}(h:w.heap[g]?=some (.cells #[a,b,c] t (0,0))):
  w.cell? ⟨g,0,none⟩=some a/\w.cell? ⟨g,1,none⟩=some b/\w.cell? ⟨g,2,none⟩=some c:=
 ⟨(Ar _ _ _ _ _ _ h).trans rfl,(Ar _ _ _ _ _ _ h).trans rfl,(Ar _ _ _ _ _ _ h).trans rfl⟩
end Bv
namespace Bl
open RowKit AJ Bv
def Er (w:World)(g:Nat)(a:Option Addr)(len cap k s:Nat):Prop:=w.heap[g]?=some (.cells #[.slice a len cap,.int .i64 (k:Int),.int .i64 (s:Int)] 92 (0,0))
def Src (w:World)(g:Nat)(a:Option Addr)(len cap:Nat):Prop:=∃k s:Nat,Er w g a len cap k s/\k<=len/\s<2147483647/\len<=4096
def Rd (w:World)(g:Nat)(a:Option Addr)(len:Nat):Prop:=∀i,i<len->∃b o,∃z:Nat,a=some ⟨b,o,none⟩/\b≠g/\b<w.heap.size/\w.cell? ⟨b,o+i,none⟩=some (.int .u8 (z:Int))/\z<256
theorem Rd.keep {w w':World}{g:Nat}{a:Option Addr}{len:Nat}(h:Rd w g a len)(D:Keep (λk=>k≠g) w w'):Rd w' g a len:=λi hi=>by
 obtain⟨b,o,z,F,B,C,I,J⟩:=h i hi;exact⟨b,o,z,F,B,Ah C D.size,by rw[D.cell B C];exact I,J⟩
theorem Rd.grown {w w':World}{g:Nat}{a:Option Addr}{len:Nat}(h:Rd w g a len)(hg:w.grownBy w' (some g)):Rd w' g a len:=h.keep (Keep.grown hg λk B e=>B (by injection e))
theorem Er.set1 {w:World}{g:Nat}{a:Option Addr}{len cap k s:Nat}(h:Er w g a len cap k s)(B:Nat):Er (w.setCell ⟨g,1,none⟩ (.int .i64 (B:Int))) g a len cap B s:=Gf w g 1 _ _ _ h
theorem Er.set2 {w:World}{g:Nat}{a:Option Addr}{len cap k s:Nat}(h:Er w g a len cap k s)(B:Nat):Er (w.setCell ⟨g,2,none⟩ (.int .i64 (B:Int))) g a len cap k B:=Gf w g 2 _ _ _ h
theorem Er.drew {w:World}{g:Nat}{a:Option Addr}{len cap k s:Nat}(h:Er w g a len cap k s):Er w.drew g a len cap k s:=h
theorem Er.cells {w:World}{g:Nat}{a:Option Addr}{len cap k s:Nat}(h:Er w g a len cap k s):(w.cell? ⟨g,0,none⟩=some (.slice a len cap)/\w.cell? ⟨g,1,none⟩=some (.int .i64 (k:Int))/\w.cell? ⟨g,2,none⟩=some (.int .i64 (s:Int)))/\
  w.frozen? ⟨g,1,none⟩=false/\w.frozen? ⟨g,2,none⟩=false/\g<w.heap.size:=⟨Mm h,by simp[World.frozen?,show w.heap[g]?=_ from h],by simp[World.frozen?,show w.heap[g]?=_ from h],(Bt.1 h).1⟩
theorem Pt {w w':World}{g i:Nat}(h:w.grownBy w' (some g))(u:Value):w.grownBy (w'.setCell ⟨g,i,none⟩ u) (some g):=
 ⟨h.os,h.tape,h.output,by simpa using h.size,λk C B=>(JA w' ⟨g,i,none⟩ k u (λe=>B (by rw[e]))).trans (h.block k C B)⟩
theorem Ez (w:World)(row:Option Nat):w.grownBy w row:=⟨rfl,rfl,rfl,Al _,λ_ _ _=>rfl⟩
theorem Ju {w w':World}{row:Option Nat}(h:w.grownBy w' row):w.grownBy w'.drew row:=⟨h.os,h.tape,h.output,h.size,h.block⟩
theorem Jd {a b c:World}{row:Option Nat}(B:a.grownBy b row)(C:b.grownBy c row):a.grownBy c row:=
 ⟨C.os.trans B.os,C.tape.trans B.tape,C.output.trans B.output,Ae B.size C.size,λk F D=>(C.block k (Ah F B.size) D).trans (B.block k F D)⟩
def OU (n g:Nat)(a:Option Addr)(len cap:Nat)(w:World)(e:Ending)(w':World):Prop:=∃r:Nat,e= .returned (.int .i64 (r:Int))/\r<n/\Src w' g a len cap/\w.grownBy w' (some g)
theorem ML (x n:Nat):((x:Int)).tmod (n:Int)=((x%n:Nat):Int):=by rw[P8 (by omega)];rfl
theorem UJ (x n:Nat):((x:Int)).tdiv (n:Int)=((x/n:Nat):Int):=by rw[Int.tdiv_eq_ediv_of_nonneg (by omega)];rfl
theorem ZP (n:Nat)(h2:2<=n)(w:World)(g:Nat)(a:Option Addr)(len cap:Nat)(hS:Src w g a len cap)(hR:Rd w g a len):
  Calls Tryz.prog 68 #[.pointer (some ⟨g,0,none⟩),.int .i64 (n:Int)] w (OU n g a len cap w):=by
 obtain⟨k,s,hA,W,hs,hl⟩:=hS;have HR:=AB hR;have b8:=AB h2;obtain⟨B,b3⟩:∃B,(s*48271+71)%2147483647=B:=⟨_,rfl⟩;have a3:=AB (show B<2147483647 by omega);obtain⟨q,hq⟩:∃q,B/47=q:=⟨_,rfl⟩;have j:=AB (show q<=45691142 by omega);have c7:IntKind.i64.wrap ((s:Int)*48271)=(s:Int)*48271:=Ac _ (by omega);have c3:IntKind.i64.wrap ((s:Int)*48271+71)=(s:Int)*48271+71:=Ac _ (by omega);have d4:((s:Int)*48271+71).tmod 2147483647=(B:Int):=by
  have:=ML (s*48271+71) 2147483647;rw[b3,Int.natCast_add,Int.natCast_mul]at this;exact this
 have e4:((B:Int)).tdiv 47=(q:Int):=by
  have:=UJ B 47;rw[hq]at this;exact this
 have e3:¬(n:Int)<=1:=by omega
 have c9:IntKind.i64.wrap (B:Int)=(B:Int):=Ac _ (by omega);have d6:IntKind.i64.wrap (q:Int)=(q:Int):=Ac _ (by omega);obtain⟨⟨L,J,K⟩,I,N,O⟩:=hA.cells;have HA:=AB hA;have X:=AB hl;have HK:=AB W;clear hA hs b3 hq hR h2 hl;go_enter Tryz.func68,Tryz.ntmps68;go_upto_region 4 with fail;obtain⟨R,y⟩:∃R,w.setCell ⟨g,2,none⟩ (.int .i64 (B:Int))=R:=⟨_,rfl⟩;simp only[y];have b7:=AB (show Er R g a len cap k B by rw[<-y];exact HA.AA.set2 B);have d0:=AB (show w.grownBy R (some g) by rw[<-y];exact Pt (Ez _ _) _);clear y L J K I N O d4 c7 c3 c9;obtain⟨⟨L,J,K⟩,I,N,O⟩:=b7.AA.cells;go_wp2_with fail;go_region_held3 (λw'=>(∀b o,b<R.heap.size->w'.cell? ⟨b,o,none⟩=R.cell? ⟨b,o,none⟩)/\Keep (λ_=>True) R w')
  (first|exact Ap (by repeat(first|exact AL.drew|exact AL)))
  (fail)
 rename_i h;clear h;obtain⟨Q,a4⟩:∃Q,R.drew=Q:=⟨_,rfl⟩;simp only[a4];have a7:=AB (show Er Q g a len cap k B by rw[<-a4];exact b7.AA.drew);have a1:=AB (show w.grownBy Q (some g) by rw[<-a4];exact Ju d0.AA);clear a4 L J K I N O;obtain⟨⟨L,J,K⟩,I,N,O⟩:=a7.AA.cells;have a6:=AB (show∀x:Nat,∃r:Nat,((x:Int)).tmod (n:Int)=(r:Int)/\r<n/\r<=x from λx=>⟨x%n,ML x n,Nat.mod_lt _ (by have:=b8.AA;omega),Nat.mod_le _ _⟩);have e7:¬(n:Int)=0:=by have:=b8.AA;omega
 by_cases a2:k<len
 .obtain⟨b,o,z,rfl,b5,c6,b4,hz⟩:=HR.AA.grown a1.AA k a2;have c5:(k:Int)<(len:Int):=by omega
  have e0:(0:Int)<=(k:Int):=by omega
  have e5:IntKind.i64.wrap ((q:Int)+(z:Int))=(q:Int)+(z:Int):=Ac _ (by have:=j.AA;omega);have d5:IntKind.i64.wrap (z:Int)=(z:Int):=Ac _ (by omega);have c4:IntKind.i64.wrap ((k:Int)+1)=(k:Int)+1:=Ac _ (by have:=X.AA;omega);go_wp2_with fail;go_region_held3 (λw'=>(∀b o,b<Q.heap.size->w'.cell? ⟨b,o,none⟩=Q.cell? ⟨b,o,none⟩)/\Keep (λ_=>True) Q w')
   (first|exact Ap (by repeat(first|exact AL.drew|exact AL)))
   (fail)
  rename_i h;clear h;obtain⟨u,a5⟩:∃u,Q.drew=u:=⟨_,rfl⟩;simp only[a5];have b1:=AB (show Er u g (some ⟨b,o,none⟩) len cap k B by rw[<-a5];exact a7.AA.drew);have b9:=AB (show w.grownBy u (some g) by rw[<-a5];exact Ju a1.AA);clear a5 L J K I N O;obtain⟨⟨L,J,K⟩,I,N,O⟩:=b1.AA.cells;go_upto_region 8 with fail;obtain⟨D,a0⟩:∃D,u.setCell ⟨g,1,none⟩ (.int .i64 ((k:Int)+1))=D:=⟨_,rfl⟩;simp only[a0];have d:=AB (show Er D g (some ⟨b,o,none⟩) len cap (k+1) B by rw[<-a0];exact b1.AA.set1 (k+1));have l:=AB (show w.grownBy D (some g) by rw[<-a0];exact Pt b9.AA _);have d2:=(Keep.grown l.AA (S:=λk=>k≠g) (λk W e=>W (by injection e))).cell (b:=b) (o:=o+k) b5 (by
   obtain⟨b',o',z',e,_,Z,_⟩:=HR.AA k a2;simp only[EQ,Hr]at e;rw[e.1];exact Z)
  have b0:w.cell? ⟨b,o+k,none⟩=some (.int .u8 (z:Int)):=by
   obtain⟨b',o',z',e,_,Z,h4,_⟩:=HR.AA k a2;simp only[EQ,Hr,and_true]at e;obtain⟨rfl,rfl⟩:=e;have:=(Keep.grown a1.AA (S:=λk=>k≠g) (λk W e=>W (by injection e))).cell (b:=b) (o:=o+k) b5 Z;rw[<-this];exact b4
  rw[b0]at d2;have e6:b<D.heap.size:=by
   obtain⟨b',o',z',e,_,Z,_⟩:=HR.AA k a2;simp only[EQ,Hr]at e;rw[e.1];exact Ah Z l.AA.size
  obtain⟨C,b2⟩:∃C,k+1=C:=⟨_,rfl⟩;rw[b2]at d;have a9:=AB (show C=k+1/\k<len by omega);have e2:IntKind.i64.wrap ((C:Int)-1)=(k:Int):=by rw[Ac _ (by have:=X.AA;omega)];omega
  clear a0 L J K I N O b4 c6 c4 b0 b2;obtain⟨⟨L,J,K⟩,I,N,O⟩:=d.AA.cells;obtain⟨p,hp⟩:∃p,C%2=p:=⟨_,rfl⟩;have d9:((C:Int)).tmod 2=(p:Int):=by
   have:=ML C 2;rw[hp]at this;exact this
  have e1:IntKind.i64.wrap (p:Int)=(p:Int):=Ac _ (by omega);clear hp;by_cases d8:n<=256
  .have d3:(n:Int)<=256:=by omega
   by_cases d1:p=0
   .subst d1;go_wp2_with fail;go_region_held3 (λw'=>(∀b o,b<D.heap.size->w'.cell? ⟨b,o,none⟩=D.cell? ⟨b,o,none⟩)/\Keep (λ_=>True) D w')
     (first|exact Ap (by repeat(first|exact AL.drew|exact AL)))
     (fail)
    rename_i h;clear h;obtain⟨i,v⟩:∃i,D.drew=i:=⟨_,rfl⟩;simp only[v];have b6:=AB (show Er i g (some ⟨b,o,none⟩) len cap C B by rw[<-v];exact d.AA.drew);have c8:=AB (show w.grownBy i (some g) by rw[<-v];exact Ju l.AA);clear v L J K I N O;obtain⟨⟨L,J,K⟩,I,N,O⟩:=b6.AA.cells;obtain⟨r,Y,F,V⟩:=a6.AA (z)
    skip
    have a8:IntKind.i64.wrap (r:Int)=(r:Int):=Ac _ (by have:=j.AA;omega);have U:=AB (show OU n g (some ⟨b,o,none⟩) len cap w (.returned (.int .i64 (r:Int))) i from⟨r,rfl,F,⟨C,B,b6.AA,by have:=a9.AA;omega,a3.AA,X.AA⟩,c8.AA⟩);clear F V;go_wp2_with fail;go_ret;exact U.AA
   .have d7:((p:Int)==0)=false:=by simp;omega
    obtain⟨r,Y,F,V⟩:=a6.AA (q+z);rw[Int.natCast_add]at Y;have a8:IntKind.i64.wrap (r:Int)=(r:Int):=Ac _ (by have:=j.AA;omega);have U:=AB (show OU n g (some ⟨b,o,none⟩) len cap w (.returned (.int .i64 (r:Int))) D from⟨r,rfl,F,⟨C,B,d.AA,by have:=a9.AA;omega,a3.AA,X.AA⟩,l.AA⟩);clear F V;go_wp2_with fail;go_ret;exact U.AA
  .have d3:¬(n:Int)<=256:=by omega
   obtain⟨r,Y,F,V⟩:=a6.AA (q+z);rw[Int.natCast_add]at Y;have a8:IntKind.i64.wrap (r:Int)=(r:Int):=Ac _ (by have:=j.AA;omega);have U:=AB (show OU n g (some ⟨b,o,none⟩) len cap w (.returned (.int .i64 (r:Int))) D from⟨r,rfl,F,⟨C,B,d.AA,by have:=a9.AA;omega,a3.AA,X.AA⟩,l.AA⟩);clear F V;go_wp2_with fail;go_ret;exact U.AA
 .have c5:¬(k:Int)<(len:Int):=by omega
  obtain⟨r,Y,F,V⟩:=a6.AA q;have a8:IntKind.i64.wrap (r:Int)=(r:Int):=Ac _ (by have:=j.AA;omega);have U:=AB (show OU n g a len cap w (.returned (.int .i64 (r:Int))) Q from⟨r,rfl,F,⟨k,B,a7.AA,W,a3.AA,X.AA⟩,a1.AA⟩);clear F V;go_wp2_with fail;go_ret;exact U.AA
theorem Qw (n:Nat)(B:2<=n)(F:n<=1000000)(w:World)(g:Nat)(a:Option Addr)(len cap:Nat)(C:Src w g a len cap)(D:Rd w g a len):
  Calls Tryz.prog 68 #[.pointer (some ⟨g,0,none⟩),.int .i64 (n:Int)] w (OU n g a len cap w):=ZP n B w g a len cap C D
theorem Src.lt {w:World}{g:Nat}{a:Option Addr}{len cap:Nat}(h:Src w g a len cap):g<w.heap.size:=by
 obtain⟨k,s,B,_⟩:=h;exact(Bt.1 B).1
end Bl
namespace Ch
open RowKit AJ Bv Bl
def KO (w:World)(a:Option Addr)(len:Nat):Prop:=∀i,i<len->∃b o,∃z:Nat,a=some ⟨b,o,none⟩/\b<w.heap.size/\w.cell? ⟨b,o+i,none⟩=some (.int .u8 (z:Int))/\z<256
theorem KO.rd {w w':World}{a:Option Addr}{len g:Nat}(h:KO w a len)(C:Below w.heap.size w w')(hg:w.heap.size<=g):Rd w' g a len:=λi hi=>by
 obtain⟨b,o,z,D,B,F,I⟩:=h i hi;exact⟨b,o,z,D,by omega,Ah B C.size,by rw[(AO (S:=λ_=>True) C).cell trivial B];exact F,I⟩
def QD (a:Option Addr)(len cap:Nat)(w:World)(e:Ending)(w':World):Prop:=∃g,e= .returned (.pointer (some ⟨g,0,none⟩))/\w.heap.size<=g/\Src w' g a len cap/\Below w.heap.size w w'
theorem PN (w:World)(a:Option Addr)(len cap:Nat)(q:len<=4096)(U:KO w a len):Calls Tryz.prog 29 #[.slice a len cap] w (QD a len cap w):=by
 have d:=AB U;obtain⟨g,hg⟩:∃g,w.heap.size=g:=⟨_,rfl⟩;obtain⟨J,I⟩:∃J,J=w.alloc (.cells #[.slice a len cap,.int .i64 0,.int .i64 76001] 92):=⟨_,rfl⟩;have h:=AB (show Er J g a len cap 0 76001 by rw[I,<-hg];exact Aj _ _);have r:=AB (show Below w.heap.size w J by rw[I];exact AY.alloc AV _);have R:=AB q;have K:=AB hg;have a6:(len:Int)<=9223372036854775807:=by omega
 clear U hg;go_enter Tryz.func29,Tryz.ntmps29;go_upto_region 2 with fail;rw[<-I];rw[K.AA];clear I;go_wp2_with fail;go_loopw [4] (λN wr=>∃i s:Nat,i<=len/\N= .int .i64 (i:Int)/\Hid (Er wr g a len cap 0 s)/\Hid (s<2147483647)/\Hid (Below w.heap.size w wr)) (λN _=>len-(intOf N).toNat);case atStart=>exact⟨0,76001,AX _,rfl,h,AB (by decide),r⟩
 case round=>
  obtain⟨i,s,hi,rfl,D,F,C⟩:=hrel;by_cases Q:i<len
  .have a2:(i:Int)<(len:Int):=by omega
   have v:(0:Int)<=(i:Int):=by omega
   by_cases a1:i<64
   .have j:(i:Int)<64:=by omega
    obtain⟨⟨c0,c1,c2⟩,u,f2,a4⟩:=D.AA.cells;obtain⟨b,o,z,rfl,L,W,Y⟩:=d.AA i Q;have a5:=((AO (S:=λ_=>True) C.AA).cell (b:=b) (o:=o+i) trivial L).trans W;have a3:=Ah L C.AA.size;obtain⟨B,V⟩:∃B,(s*71+z)%2147483647=B:=⟨_,rfl⟩;have Z:=AB (show B<2147483647 by omega);have a7:((s:Int)*71+(z:Int)).tmod 2147483647=(B:Int):=by
     have:=ML (s*71+z) 2147483647;rw[V,Int.natCast_add,Int.natCast_mul]at this;exact this
    have I:IntKind.i64.wrap ((s:Int)*71)=(s:Int)*71:=Ac _ (by have:=F.AA;omega);have x:IntKind.i64.wrap ((s:Int)*71+(z:Int))=(s:Int)*71+(z:Int):=Ac _ (by have:=F.AA;omega);have y:IntKind.i64.wrap (B:Int)=(B:Int):=Ac _ (by omega);have a0:IntKind.i64.wrap (z:Int)=(z:Int):=Ac _ (by omega);have X:=AB (show Er ((wr.setCell ⟨g,2,none⟩ (.int .i64 (B:Int))).drew) g (some ⟨b,o,none⟩) len cap 0 B from(D.AA.set2 B).drew);have l:=AB (show Below w.heap.size w ((wr.setCell ⟨g,2,none⟩ (.int .i64 (B:Int))).drew) from(C.AA.setCell (p:=⟨g,2,none⟩) (by rw[K.AA];exact Al _) _).drew);clear W L V D C Y;go_wp2_with fail;go_region_law (fail);all_goals
     go_wp2_with fail;go_roundw;case rel=>exact⟨i+1,B,by omega,by go_num,X,Z,l⟩
     case measure=>simp[intOf]<;>omega
   .have j:¬(i:Int)<64:=by omega
    have O:=AB (show QD a len cap w (.returned (.pointer (some ⟨g,0,none⟩))) wr from⟨g,rfl,by rw[K.AA];exact Al _,⟨0,s,D.AA,AX _,F.AA,R.AA⟩,C.AA⟩);clear D C F;go_wp2_with fail;go_ret;exact O.AA
  .obtain rfl:i=len:=by omega
   have O:=AB (show QD a i cap w (.returned (.pointer (some ⟨g,0,none⟩))) wr from⟨g,rfl,by rw[K.AA];exact Al _,⟨0,s,D.AA,AX _,F.AA,R.AA⟩,C.AA⟩);clear D C F Q;go_wp2_with fail;go_ret;exact O.AA
def Z6 (L:List Int)(g:Nat)(a:Option Addr)(len cap:Nat)(w:World)(e:Ending)(w':World):Prop:=∃x:Int,x∈L/\e= .returned (.int .i64 x)/\Src w' g a len cap/\w.grownBy w' (some g)
theorem Xl (L:List Int)(m:Nat)(O:L.length=m)(Z:2<=m)(j:m<=12)(w:World)(B g:Nat)(a:Option Addr)(len cap:Nat)(K:AP (λk=>k≠g) w (.slice (some ⟨B,0,none⟩) m m) L)(N:Src w g a len cap)(I:Rd w g a len):
  Calls Tryz.prog 127 #[.pointer (some ⟨g,0,none⟩),.slice (some ⟨B,0,none⟩) m m] w (Z6 L g a len cap w):=by
 have F:=AB (Qw m Z (by omega) w g a len cap N I);have X:=AB K;have U:=AB O;clear N I K O;go_enter Tryz.func127,Tryz.ntmps127;go_wp2_with fail;refine F.AA.mono ?_;rintro e V ⟨r,rfl,S,J,D⟩;obtain⟨x,C⟩:∃x,L[r]?=some x:=⟨_,AU (by rw[U.AA];exact S)⟩;obtain⟨Y,W,u,Q,_,l,R,rfl⟩:=Ce (X.AA.keep (Keep.grown D λk b e=>b (by injection e))) C;obtain⟨rfl,rfl⟩:B=Y/\0=W:=by simpa using Q
 rw[CK]at R;have i:(r:Int)<(m:Int):=by omega
 have h:(0:Int)<=(r:Int):=by omega
 have d:=AB (show Z6 L g a len cap w (.returned (.int .i64 x)) V from⟨x,Af C,rfl,J,D⟩);clear J D C F Q;go_wp2_with fail;go_ret;exact d.AA
theorem ZQ {w:World}{L:List Int}{g:Nat}(hg:g<w.heap.size)(C:L.length<=100):AP (λk=>k≠g) (w.alloc (.cells (L.map (Value.int .i64)).toArray 2)) (.slice (some ⟨w.heap.size,0,none⟩) L.length L.length) L:=by
 refine⟨_,L.length,rfl,Al _,by unfold maxLen;omega,by simp,λi x B=>⟨w.heap.size,0,rfl,by omega,by simp,.int .i64 x,?_,rfl⟩⟩;rw[Ar _ _ _ _ _ (0,0) (Aj _ _),CK];simp[B]
theorem Il (w:World)(o:Obj)(row:Option Nat):w.grownBy (w.alloc o) row:=⟨rfl,rfl,rfl,by simp,λk B _=>Dv w o k B⟩
end Ch
namespace Cr
open RowKit AJ
def R1 (B:Nat)(w:World)(n:Nat)(v:Value):Prop:=∃l:List Int,l.length=n/\w.ownsRow B 2 1 v n (vals l)
def R2 (B:Nat)(w:World)(L:List Nat)(v:Value):Prop:=∃us:List Value,w.ownsRow B 24 1 v L.length us/\∀(i n:Nat),L[i]?=some n->∃u,us[i]?=some u/\R1 B w n u
def R3 (B:Nat)(w:World)(M:List (List Nat))(v:Value):Prop:=∃us:List Value,w.ownsRow B 25 1 v M.length us/\∀(i:Nat) (L:List Nat),M[i]?=some L->∃u,us[i]?=some u/\R2 B w L u
structure Ty (B:Nat)(w w':World):Prop where
 one:∀n v,R1 B w n v->R1 B w' n v
 two:∀L v,R2 B w L v->R2 B w' L v
 three:∀M v,R3 B w M v->R3 B w' M v
theorem Ty.trans {B:Nat}{a b c:World}(h:Ty B a b)(g:Ty B b c):Ty B a c:=⟨λn v x=>g.one n v (h.one n v x),λn v x=>g.two n v (h.two n v x),λn v x=>g.three n v (h.three n v x)⟩
theorem Ty.Sz {B:Nat}{w w':World}
  (F:∀n v,R1 B w n v->R1 B w' n v)
  (I:∀(L:List Nat) (v:Value) us,w.ownsRow B 24 1 v L.length us->(∀(i n:Nat),L[i]?=some n->∃u,us[i]?=some u/\R1 B w n u)->∃C,w'.ownsRow B 24 1 v L.length C/\∀(i n:Nat),L[i]?=some n->∃u,C[i]?=some u/\R1 B w' n u)
  (J:∀(M:List (List Nat)) (v:Value) us,w.ownsRow B 25 1 v M.length us->(∀(i:Nat) (L:List Nat),M[i]?=some L->∃u,us[i]?=some u/\R2 B w L u)->(∀L v,R2 B w L v->R2 B w' L v)->∃C,w'.ownsRow B 25 1 v M.length C/\∀(i:Nat) (L:List Nat),M[i]?=some L->∃u,C[i]?=some u/\R2 B w' L u):Ty B w w':=by
 have D:∀L v,R2 B w L v->R2 B w' L v:=λL v ⟨us,a,b⟩=>I L v us a b;exact⟨F,D,λM v ⟨us,a,b⟩=>J M v us a b D⟩
theorem Ty.keep {B:Nat}{w w':World}{S:Nat->Prop}(C:Keep S w w')(F:∀k,B<=k->S k):Ty B w w':=by
 have I:∀n v,R1 B w n v->R1 B w' n v:=λn v ⟨l,a,b⟩=>⟨l,a,Aw b C F⟩;refine Ty.Sz I (λL v us a b=>⟨us,Aw a C F,λi n hi=>?_⟩) (λM v us a b J=>⟨us,Aw a C F,λi L hi=>?_⟩)
 .obtain⟨u,D,e2⟩:=b i n hi;exact⟨u,D,I _ _ e2⟩
 .obtain⟨u,D,e2⟩:=b i L hi;exact⟨u,D,J _ _ e2⟩
theorem Ty.below {B:Nat}{w w':World}(C:Below w.heap.size w w'):Ty B w w':=Ty.keep (S:=λ_=>True) (AO C) (λ_ _=>trivial)
theorem Fz {B b i n:Nat}{e t:TypeId}{w:World}{v c:Value}{F:List Value}{O:Array Value}(h:w.ownsRow B e 1 v n F)(C:w.heap[b]?=some (.cells O t (0,0)))(K:e≠t):(w.setCell ⟨b,i,none⟩ c).ownsRow B e 1 v n F:=by
 refine⟨h.1,?_⟩;rcases h.2 with D|⟨g,cap,I,D,L,hg,N⟩
 .exact .inl D
 .refine .inr ⟨g,cap,I,D,L,?_,N⟩;rw[JA w ⟨b,i,none⟩ g c ?_]
  .exact hg
  .intro J;have e2:g=b:=J;subst e2;rw[hg]at C;injection C with C;injection C with _ C _;exact K C
theorem Qj {B b i n:Nat}{e:TypeId}{w:World}{v c:Value}{D:List Value}(h:w.ownsRow B e 1 v n D):∃F,(w.setCell ⟨b,i,none⟩ c).ownsRow B e 1 v n F/\∀(j:Nat) u,D[j]?=some u->F[j]?=some u\/(v.ownBlock=some b/\j=i/\F[j]?=some c):=by
 rcases h.2 with⟨rfl,N⟩|⟨g,cap,J,rfl,K,hg,L⟩
 .exact⟨D,⟨h.1,.inl ⟨rfl,N⟩⟩,λj u C=>.inl C⟩
 .by_cases e:g=b
  .subst e;refine⟨D.set i c,(Jz h i c).1,λj u C=>?_⟩;by_cases I:j=i
   .subst I;right;refine⟨rfl,rfl,?_⟩;have:=(Ak.1 C).1;rw[Jj this]
   .left;rw[KA (λh=>I h.symm)];exact C
  .refine⟨D,⟨h.1,.inr ⟨g,cap,J,rfl,K,?_,L⟩⟩,λj u C=>.inl C⟩;rw[JA w ⟨b,i,none⟩ g c e];exact hg
theorem lg:∀(B:List Value),(∀u∈B,∃x:Int,u= .int .i64 x)->∃l:List Int,B=vals l:=by
 intro B
 induction B with
 |nil=>exact λ_=>⟨[],rfl⟩
 |cons a t ih=>
  intro h;obtain⟨x,F⟩:=h a (CJ ..);obtain⟨l,D⟩:=ih λu C=>h u (CW _ C);exact⟨x::l,by rw[F,D];rfl⟩
theorem R1.sN {B n:Nat}{w:World}{v:Value}{C:List Value}(h:w.ownsRow B 2 1 v n C)(ha:∀(j:Nat) u,C[j]?=some u->∃x:Int,u= .int .i64 x):R1 B w n v:=by
 obtain⟨l,rfl⟩:=lg C λu D=>by
  obtain⟨j,F⟩:=Eb D;exact ha j u F
 exact⟨l,by have:=h.1;simpa using this,h⟩
theorem Ty.set1 {B b i:Nat}{w:World}{Q:Array Value}(J:w.heap[b]?=some (.cells Q 2 (0,0)))(x:Int):Ty B w (w.setCell ⟨b,i,none⟩ (.int .i64 x)):=by
 have K:∀n v,R1 B w n v->R1 B (w.setCell ⟨b,i,none⟩ (.int .i64 x)) n v:=by
  intro n v ⟨l,a,h⟩;obtain⟨S,D,e2⟩:=Qj (b:=b) (i:=i) (c:=.int .i64 x) h;refine R1.sN D λj u F=>?_;have N:j<(vals l).length:=by
   have V:=(Ak.1 F).1;have U:=h.1;have R:=D.1;omega
  rcases e2 j _ (AU N)with C|C
  .rw[F]at C;injection C with C;exact⟨l[j]'(by simpa using N),by rw[C];simp⟩
  .rw[F]at C;exact⟨x,by have:=C.2.2;injection this⟩
 refine Ty.Sz K (λL v us a c=>⟨us,Fz a J (by decide),λk n I=>?_⟩) (λM v us a c O=>⟨us,Fz a J (by decide),λk L I=>?_⟩)
 .obtain⟨u,D,e2⟩:=c k n I;exact⟨u,D,K _ _ e2⟩
 .obtain⟨u,D,e2⟩:=c k L I;exact⟨u,D,O _ _ e2⟩
theorem R1.len {B n:Nat}{w:World}{v:Value}(h:R1 B w n v):∃a c,v= .slice a n c/\n<=c/\c<=maxLen:=by
 obtain⟨l,_,C⟩:=h;rcases C.2 with⟨rfl,I⟩|⟨g,cap,J,rfl,_,_,F,D,_⟩
 .exact⟨none,0,by rw[I],by omega,by simp[maxLen]⟩
 .exact⟨_,cap,rfl,F,D⟩
theorem R1.same {B B' n m:Nat}{w w':World}{v:Value}(h:R1 B w n v)(g:R1 B' w' m v):n=m:=by
 obtain⟨a,c,e,_⟩:=h.len;obtain⟨C,D,e',_⟩:=g.len;rw[e]at e';injection e'
theorem Ty.set2 {B b i n:Nat}{w:World}{Q:Array Value}{u0 u:Value}(D:w.heap[b]?=some (.cells Q 24 (0,0)))(O:Q[i]?=some u0)(V:R1 B w n u0)(X:R1 B w n u):Ty B w (w.setCell ⟨b,i,none⟩ u):=by
 have N:∀n v,R1 B w n v->R1 B (w.setCell ⟨b,i,none⟩ u) n v:=λn v ⟨l,a,h⟩=>⟨l,a,Fz h D (by decide)⟩;refine Ty.Sz N (λL v us a c=>?_) (λM v us a c W=>⟨us,Fz a D (by decide),λk L J=>?_⟩)
 .obtain⟨R,I,e2⟩:=Qj (b:=b) (i:=i) (c:=u) a;refine⟨R,I,λk m J=>?_⟩;obtain⟨x,C,K⟩:=c k m J;rcases e2 k x C with F|⟨F,rfl,S⟩
  .exact⟨x,F,N _ _ K⟩
  .refine⟨u,S,N _ _ ?_⟩;have U:x=u0:=by
    rcases a.2 with⟨rfl,d⟩|⟨g,cap,Z,rfl,j,hg,_,_,_,Y⟩
    .cases F
    .have e:g=b:=by simpa[Value.ownBlock]using F
     subst e;rw[hg]at D;injection D with D;injection D with D _ _;rw[<-Y,Kb]at C;split at C
     .rw[<-D]at O;rw[Ma,O]at C;injection C with C;exact C.symm
     .cases C
   rw[U]at K;rw[K.same V];exact X
 .obtain⟨x,I,e2⟩:=c k L J;exact⟨x,I,W _ _ e2⟩
theorem R1.sl {B n:Nat}{w:World}{v:Value}(h:R1 B w n v):∃l:List Int,l.length=n/\AP (λk=>B<=k) w v l:=by
 obtain⟨l,C,D⟩:=h;subst C;exact⟨l,rfl,Own.sl D⟩
theorem R1.Pv {B:Nat}{w:World}{v:Value}{x:List Int}(h:Own B w v x):R1 B w x.length v:=⟨x,rfl,h⟩
theorem R1.mono {B B' n:Nat}{w:World}{v:Value}(h:R1 B w n v)(F:B'<=B):R1 B' w n v:=by
 obtain⟨l,C,D⟩:=h;exact⟨l,C,Gp D F⟩
theorem R2.mono {B B':Nat}{L:List Nat}{w:World}{v:Value}(h:R2 B w L v)(C:B'<=B):R2 B' w L v:=by
 obtain⟨us,D,F⟩:=h;refine⟨us,Gp D C,λi n hi=>?_⟩;obtain⟨u,I,e2⟩:=F i n hi;exact⟨u,I,e2.mono C⟩
theorem R3.mono {B B':Nat}{M:List (List Nat)}{w:World}{v:Value}(h:R3 B w M v)(C:B'<=B):R3 B' w M v:=by
 obtain⟨us,D,F⟩:=h;refine⟨us,Gp D C,λi n hi=>?_⟩;obtain⟨u,I,e2⟩:=F i n hi;exact⟨u,I,e2.mono C⟩
theorem R1.grown {B n:Nat}{w w':World}{v:Value}{r:Option Nat}(h:R1 B w n v)(hg:w.grownBy w' r)(F:v.ownBlock=none\/v.ownBlock≠r):R1 B w' n v:=by
 obtain⟨l,C,D⟩:=h;exact⟨l,C,JB D hg F⟩
theorem R1.other {B n b i:Nat}{w:World}{v c:Value}{t:TypeId}{J:Array Value}(h:R1 B w n v)(C:w.heap[b]?=some (.cells J t (0,0)))(I:t≠2):R1 B (w.setCell ⟨b,i,none⟩ c) n v:=by
 obtain⟨l,D,F⟩:=h;exact⟨l,D,Fz F C (λe=>I e.symm)⟩
theorem R1.apart {B B' n m:Nat}{e:TypeId}{w:World}{v u:Value}{F:List Value}(h:R1 B w n v)(D:w.ownsRow B' e 1 u m F)(I:2≠e):v.ownBlock=none\/v.ownBlock≠u.ownBlock:=by
 obtain⟨l,J,C⟩:=h;exact Gq C D I
theorem R2.grown {B B' m:Nat}{e:TypeId}{L:List Nat}{w w':World}{v u:Value}{C:List Value}(h:R2 B w L v)(K:w.ownsRow B' e 1 u m C)(N:2≠e)(hg:w.grownBy w' u.ownBlock)(D:v.ownBlock=none\/v.ownBlock≠u.ownBlock):R2 B w' L v:=by
 obtain⟨us,I,J⟩:=h;refine⟨us,JB I hg D,λi n hi=>?_⟩;obtain⟨x,F,e2⟩:=J i n hi;exact⟨x,F,e2.grown hg (e2.apart K N)⟩
theorem R2.other {B b i:Nat}{L:List Nat}{w:World}{v c:Value}{t:TypeId}{N:Array Value}(h:R2 B w L v)(C:w.heap[b]?=some (.cells N t (0,0)))(K:t≠2)(D:t≠24):R2 B (w.setCell ⟨b,i,none⟩ c) L v:=by
 obtain⟨us,I,J⟩:=h;refine⟨us,Fz I C (λe=>D e.symm),λi n hi=>?_⟩;obtain⟨x,F,e2⟩:=J i n hi;exact⟨x,F,e2.other C K⟩
theorem R2.qI {B n:Nat}{w:World}{v:Value}{rows:List (List Nat)}(h:Own2 24 2 B w v rows)(F:∀r∈rows,r.length=n):R2 B w (List.replicate rows.length n) v:=by
 obtain⟨us,I,L,K⟩:=h;refine⟨us,by rw[Bp];exact I,λi m hi=>?_⟩;rw[Gg]at hi;split at hi
 .injection hi with hi;subst hi;rename_i J;have D:us[i]?=some (us[i]'(by omega)):=AU _;refine⟨_,D,?_⟩;have C:=(K i _ _ (AU J) D).2;exact⟨ints rows[i],by rw[BK];exact F _ (Ho _),by rw[F _ (Ho _)]at C;exact C⟩
 .cases hi
end Cr
namespace Bj
open RowKit AJ Bv Bl Ch Cr
abbrev Any:Nat->Prop:=λ_=>True
abbrev Es (n b:Nat):Value:=.slice (some ⟨b,0,none⟩) n n
theorem Kt (n:Nat)(B:n<=100)(w:World):(Instr.makeSlice 24 (.int .i64 (n:Int)) (.int .i64 (n:Int))).run Tryz.prog w= .ok (.slice (some ⟨w.heap.size,0,none⟩) n n) (w.alloc (.cells (madeCells #[.int .i64 0] n) 2)):=
 run_make_row' (P:=Tryz.prog) 24 2 (.int .i64 0) 8 Tryz.underlying24 Dh rfl .i64 .i64 n (by omega) (by omega) w
theorem Rc:(Tryz.prog.info? 25).map (λi=>(i.zero,i.size,i.bytes))=some (some (.slice none 0 0),1,24):=by kernel_rfl
theorem Aa {w:World}{g:Nat}{a b c:Value}{t:TypeId}(h:w.heap[g]?=some (.cells #[a,b,c] t (0,0))):
  (w.cell? ⟨g,0,none⟩=some a/\w.cell? ⟨g,1,none⟩=some b/\w.cell? ⟨g,2,none⟩=some c)/\w.frozen? ⟨g,0,none⟩=false/\w.frozen? ⟨g,1,none⟩=false/\w.frozen? ⟨g,2,none⟩=false:=by
 exact⟨Mm h,BP _ _ _ _ _ h,BP _ _ _ _ _ h,BP _ _ _ _ _ h⟩
theorem IZ (W:World)(o1 B:Obj):((W.alloc o1).alloc B).heap[W.heap.size+1]?=some B:=by
 have h:=Aj (W.alloc o1) B;rwa[show(W.alloc o1).heap.size=W.heap.size+1 by simp]at h
theorem dB {W:World}{o1 C o:Obj}{k:Nat}(h:W.heap[k]?=some o):((W.alloc o1).alloc C).heap[k]?=some o:=by
 have B:=(Bt.1 h).1;rw[Dv _ _ k (by simp;omega),Dv _ _ k B,h]
theorem Bi {W:World}{g:Nat}{a b c x y z:Value}{t:TypeId}(h:W.heap[g]?=some (.cells #[a,b,c] t (0,0))):
  (((W.setCell ⟨g,0,none⟩ x).setCell ⟨g,1,none⟩ y).setCell ⟨g,2,none⟩ z).heap[g]?=some (.cells #[x,y,z] t (0,0)):=by
 have B:=(Bt.1 h).1;simp[World.setCell,Array.getElem?_modify,h]
theorem II {B n s:Nat}{e:TypeId}{w:World}{v:Value}{D:List Value}(h:w.ownsRow B e s v n D):∃a c,v= .slice a n c:=by
 rcases h.2 with⟨rfl,C⟩|⟨g,cap,F,rfl,_⟩
 .exact⟨none,0,by rw[C]⟩
 .exact⟨_,cap,rfl⟩
theorem KX {w:World}{B g:Nat}{e t:TypeId}{s n:Nat}{v:Value}{I:List Value}{cs:Array Value}(h:w.ownsRow B e s v n I)(J:w.heap[g]?=some (.cells cs t (0,0)))(K:e≠t):v.ownBlock≠some g:=λC=>by
 rcases h.2 with⟨F,_⟩|⟨L,cap,N,F,_,D,_⟩
 .rw[F]at C;simp[Value.ownBlock]at C
 .rw[F]at C;have C:L=g:=by simpa[Value.ownBlock]using C
  subst C;rw[J]at D;simp at D;exact K D.2.symm
theorem iU {S:Nat->Prop}{w w':World}{B:Nat}{e:TypeId}{s n:Nat}{v:Value}{C:List Value}(h:w.ownsRow B e s v n C)(I:Keep S w w')(K:∀k,v.ownBlock=some k->S k):w'.ownsRow B e s v n C:=by
 refine⟨h.1,?_⟩;rcases h.2 with J|⟨g,cap,L,rfl,F,D,r⟩
 .exact .inl J
 .exact .inr ⟨g,cap,L,rfl,F,by rw[I.block g (K g rfl) (Bt.1 D).1];exact D,r⟩
def IQ (n i:Nat):List (List Nat):=(List.range (n-(i+1))).map λk=>(List.replicate n 0).set (i+1+k) 1
theorem XC {n i k:Nat}(h:k<n-(i+1)):(IQ n i)[k]?=some ((List.replicate n 0).set (i+1+k) 1):=by
 unfold IQ;rw[Bh,List.getElem?_range h];rfl
theorem iV {n i k:Nat}(h:k<n-(i+1)):(IQ n i).take k++[(List.replicate n 0).set (i+1+k) 1]=(IQ n i).take (k+1):=by
 rw[EL,XC h];rfl
theorem jb (n i:Nat):(IQ n i).length=n-(i+1):=by unfold IQ;simp
theorem JW (S:Nat->Prop)(v:Value)(l:List Int)(w:World)(p:AP S w v l)(N:l.length<=1000000):
  Calls Tryz.prog 128 #[v] w (CX l w):=by
 obtain⟨q,hi,a,Y,Z⟩:=Bd Dh;obtain⟨C,c,rfl,X,I,R,B⟩:=p;have K:=AB N;have d:=AB I;clear N I;have L:AP S w (.slice C l.length c) l:=⟨C,c,rfl,X,d.AA,R,B⟩;have W:=AB L;have Q:=DL (base:=w.heap.size) (e:=2) (size:=1) w #[] 0 AV (AX _) rfl;have r:=AB B;clear L B;cases C with
 |none=>
  obtain rfl:c=0:=R rfl;obtain rfl:l=[]:=Di (by omega);go_enter Tryz.func128,Tryz.ntmps128;go_wp2_with fail;go_ret;exact⟨w.heap.size,0,rfl,Q,AY.alloc AV _⟩
 |some ad=>
  have C1:=AB (AP.src (w':=w.alloc (.cells #[] 2)) W.AA (AL.alloc _));have C2:=AB (LH l);have C3:=AB (show 0+l.length<=maxLen from by have:=K.AA;unfold maxLen;omega);have C4:=AB (show(0+l.length)*8<=140737488355328 from by have:=K.AA;omega);have h:=AB (show(vals l).length=l.length*1 by simp[vals]);go_enter Tryz.func128,Tryz.ntmps128;go_wp2_with (at_builtin;refine DR _ rfl _ _ 24 rfl w.heap.size 2 q (.int .i64 0) 1 8 Tryz.underlying24 hi a Y Z rfl (by decide) _ _ _ rfl Q ad l.length c (vals l) rfl h.AA C1.AA C2.AA C3.AA C4.AA (by simp) ?_);intro U D F O J;have V:Own w.heap.size D U l:=by simpa[Own]using F
  have j:Below w.heap.size w D:=(AY.alloc AV _).grown O (by simp) (by intro k b;simp[Value.ownBlock]at b;omega);have i:U≠.slice none 0 0:=J;clear F O J;go_wp2_with fail;go_ret;obtain⟨g,cap,rfl⟩:=V.head i;exact⟨g,cap,rfl,V,j⟩
theorem KW {B:Nat}(w:World)(cs:Array Value)(x:List Int)(D:B<=w.heap.size)(C:x.length<=maxLen)(h:cs.toList=vals x):Own B (w.alloc (.cells cs 2)) (.slice (some ⟨w.heap.size,0,none⟩) x.length x.length) x:=by
 have:=JD (base:=B) (e:=2) (size:=1) w cs x.length D C (by rw[<-Array.length_toList,h];simp[vals]);rw[h]at this;exact this
def uY (n k:Nat)(w:World)(e:Ending)(w':World):Prop:=∃g,e= .returned (Es n g)/\Own w.heap.size w' (Es n g) (ints ((List.replicate n 0).set k 1))/\Below w.heap.size w w'
theorem Xm (n k:Nat)(J:n<=100)(F:k<n)(w:World):
  Calls Tryz.prog 185 #[.int .i64 (n:Int),.int .i64 (k:Int)] w (uY n k w):=by
 have K:=Kt n (by omega) w;have C:=Own.made (B:=w.heap.size) w n AV (by unfold maxLen;omega);obtain⟨L,I⟩:=C.cell (j:=k) (a:=0) (by simp[F]);have D:=AB (KW (B:=w.heap.size) w ((madeCells #[.int .i64 0] n).setIfInBounds k (.int .i64 1)) (ints ((List.replicate n 0).set k 1)) AV (by simp[ints];unfold maxLen;omega) (by
  rw[Array.toList_setIfInBounds,Kc];simp[vals,ints]))
 clear C;go_enter Tryz.func185,Tryz.ntmps185;go_wp2_with fail;go_ret;have:=D.AA;simp only[BK,List.length_set,Bp]at this;exact⟨w.heap.size,rfl,this,AY.alloc AV _⟩
theorem PM (n k:Nat)(C:n<=100)(I:k<n)(w:World):
  Calls Tryz.prog 185 #[.int .i64 (n:Int),.int .i64 (k:Int)] w (CX (ints ((List.replicate n 0).set k 1)) w):=
 (Xm n k C I w).mono λe w' ⟨g,B,D,F⟩=>⟨g,n,by rw[B];simp[ints],by simpa[ints]using D,F⟩
theorem Og (x B hi:Int)(C:B<=x)(D:x<=hi)(w:World):Calls Tryz.prog 197 #[.int .i64 x,.int .i64 B,.int .i64 hi] w λe w'=>e= .returned (.bool true)/\w'=w:=by
 have F:x>=B:=C;go_enter Tryz.func197,Tryz.ntmps197;go_wp2_with fail;go_ret;exact⟨rfl,rfl⟩
theorem VR (x B hi:Int)(h:¬(B<=x/\x<=hi))(w:World):Calls Tryz.prog 197 #[.int .i64 x,.int .i64 B,.int .i64 hi] w λe w'=>e= .returned (.bool false)/\w'=w:=by
 by_cases C:B<=x
 .have D:¬x<=hi:=λD=>h ⟨C,D⟩;have I:decide (x<=hi)=false:=ED D;have F:decide (B<=x)=true:=ET C;clear h;go_enter Tryz.func197,Tryz.ntmps197;go_wp2_with fail;go_ret;exact⟨rfl,rfl⟩
 .have F:decide (B<=x)=false:=ED C;clear h;go_enter Tryz.func197,Tryz.ntmps197;go_wp2_with fail;go_ret;exact⟨rfl,rfl⟩
structure TT (B n:Nat)(W:World)(g:Nat)(vO vP vC:Value)(p q:Nat):Prop where
 bx:W.heap[g]?=some (.cells #[vO,vP,vC] 28 (0,0))
 hg:B<=g
 O:R1 B W n vO
 P:∃us,W.ownsRow B 24 1 vP p us/\∀(i:Nat) u,us[i]?=some u->R1 B W n u
 C:∃us,W.ownsRow B 25 1 vC q us/\∀(i:Nat) u,us[i]?=some u->R2 B W (List.replicate (n-(i+1)) n) u/\∀k,vP.ownBlock=some k->u.ownBlock≠some k
theorem TT.lt {B n:Nat}{W:World}{g:Nat}{F C D:Value}{p q:Nat}(h:TT B n W g F C D p q):g<W.heap.size:=(Bt.1 h.bx).1
theorem TT.kept {B n:Nat}{W I:World}{g:Nat}{L N K:Value}{p q:Nat}(h:TT B n W g L N K p q)(F:Keep (λk=>B<=k) W I):TT B n I g L N K p q:=by
 have hT:Ty B W I:=Ty.keep F λ_ h=>h;obtain⟨us,S,Q⟩:=h.P;obtain⟨R,U,J⟩:=h.C;exact⟨(F.block g h.hg h.lt).trans h.bx,h.hg,hT.one _ _ h.O,⟨us,Aw S F (λ_ h=>h),λi u D=>hT.one _ _ (Q i u D)⟩,R,Aw U F (λ_ h=>h),λi u D=>⟨hT.two _ _ (J i u D).1,(J i u D).2⟩⟩
theorem TT.below {B n:Nat}{W I:World}{g:Nat}{F D C:Value}{p q:Nat}(h:TT B n W g F D C p q)(J:Below W.heap.size W I):TT B n I g F D C p q:=h.kept ((AO (S:=Any) J).mono λ_ _=>trivial)
theorem TT.start {B n:Nat}{W:World}{g:Nat}{D:Value}(h:W.heap[g]?=some (.cells #[D,.slice none 0 0,.slice none 0 0] 28 (0,0)))(F:B<=g)(I:R1 B W n D):TT B n W g D (.slice none 0 0) (.slice none 0 0) 0 0:=
 ⟨h,F,I,⟨[],FY _ _ _ _,λi u C=>by simp at C⟩,[],FY _ _ _ _,λi u C=>by simp at C⟩
theorem TT.mono {B B' n:Nat}{W:World}{g:Nat}{K L J:Value}{p q:Nat}(h:TT B n W g K L J p q)(D:B'<=B):TT B' n W g K L J p q:=by
 obtain⟨us,R,N⟩:=h.P;obtain⟨Q,S,I⟩:=h.C;exact⟨h.bx,Ae D h.hg,h.O.mono D,⟨us,Gp R D,λi u F=>(N i u F).mono D⟩,Q,Gp S D,λi u F=>⟨(I i u F).1.mono D,(I i u F).2⟩⟩
theorem TT.row {B n c J:Nat}{W I K:World}{g:Nat}{S F V u:Value}{p q:Nat}{us:List Value}(h:TT B n W g S F V p q)(a:Below W.heap.size W I)(R:I.ownsRow B 24 1 F p us)(s:∀(i:Nat) u,us[i]?=some u->R1 B W n u)(hu:R1 B I n u)
  (ho:K.ownsRow B 24 1 (.slice (some ⟨J,0,none⟩) (p+1) c) (p+1) (us++[u])) (hg:I.grownBy K F.ownBlock) (y:F.ownBlock=some J\/I.heap.size<=J):
  TT B n (K.setCell ⟨g,1,none⟩ (.slice (some ⟨J,0,none⟩) (p+1) c)) g S (.slice (some ⟨J,0,none⟩) (p+1) c) V (p+1) q:=by
 have Q:=h.below a;have hT:Ty B W I:=Ty.below a;have z:g<I.heap.size:=Q.lt;have a1:F.ownBlock≠some g:=KX R Q.bx (by decide);obtain⟨vs,Y,c2⟩:=Q.C;have L:K.heap[g]?=some (.cells #[S,F,V] 28 (0,0)):=(hg.block g z (λe=>a1 e.symm)).trans Q.bx;have U:∀v,R1 B I n v->R1 B (K.setCell ⟨g,1,none⟩ (.slice (some ⟨J,0,none⟩) (p+1) c)) n v:=λv b=>(b.grown hg (b.apart R (by decide))).other L (by decide);refine⟨Gf K g 1 _ _ _ L,h.hg,U _ Q.O,⟨us++[u],Fz ho L (by decide),λi x D=>?_⟩,vs,Fz (JB Y hg (Gq Y R (by decide))) L (by decide),λi x D=>?_⟩
 .rcases CU i us.length with hi|hi
  .rw[DK hi]at D;exact U _ (hT.one _ _ (s i x D))
  .rw[DC hi]at D;rcases l:i-us.length with _|j
   .rw[l]at D;simp at D;subst D;exact U _ hu
   .rw[l]at D;simp at D
 .obtain⟨Z,X⟩:=c2 i x D;have a0:x.ownBlock=none\/x.ownBlock≠F.ownBlock:=by
   rcases N:F.ownBlock with _|k
   .rcases a2:x.ownBlock with _|k'
    .exact .inl rfl
    .exact .inr (by simp)
   .exact .inr (X k N)
  refine⟨(Z.grown R (by decide) hg a0).other L (by decide) (by decide),λk N=>?_⟩;have N:J=k:=by simpa[Value.ownBlock]using N
  subst N;rcases y with d|d
  .exact X _ d
  .intro e;obtain⟨a3,r,q2⟩:=Z;have:=(Aq r _ e).2;omega
theorem TT.JM {B n c K:Nat}{W D F:World}{g:Nat}{U R N u:Value}{p q:Nat}{us:List Value}(h:TT B n W g U R N p q)(a:Below W.heap.size W D)(I:D.ownsRow B 25 1 N q us)(X:∀(i:Nat) u,us[i]?=some u->R2 B W (List.replicate (n-(i+1)) n) u/\∀k,R.ownBlock=some k->u.ownBlock≠some k)
  (hu:R2 B D (List.replicate (n-(q+1)) n) u) (l:∀k,R.ownBlock=some k->u.ownBlock≠some k)
  (z:F.ownsRow B 25 1 (.slice (some ⟨K,0,none⟩) (q+1) c) (q+1) (us++[u])) (hg:D.grownBy F N.ownBlock):
  TT B n (F.setCell ⟨g,2,none⟩ (.slice (some ⟨K,0,none⟩) (q+1) c)) g U R (.slice (some ⟨K,0,none⟩) (q+1) c) p (q+1):=by
 have Q:=h.below a;have hT:Ty B W D:=Ty.below a;have s:g<D.heap.size:=Q.lt;have a0:N.ownBlock≠some g:=KX I Q.bx (by decide);have J:F.heap[g]?=some (.cells #[U,R,N] 28 (0,0)):=(hg.block g s (λe=>a0 e.symm)).trans Q.bx;have Z:∀v,R1 B D n v->R1 B (F.setCell ⟨g,2,none⟩ (.slice (some ⟨K,0,none⟩) (q+1) c)) n v:=λv S=>(S.grown hg (S.apart I (by decide))).other J (by decide);have Y:∀L v,R2 B D L v->R2 B (F.setCell ⟨g,2,none⟩ (.slice (some ⟨K,0,none⟩) (q+1) c)) L v:=λL v S=>by
  obtain⟨xs,d,q2⟩:=id S;exact(S.grown I (by decide) hg (Gq d I (by decide))).other J (by decide) (by decide)
 obtain⟨y,V,r⟩:=Q.P;have hl:us.length=q:=by have:=I.1;omega
 refine⟨Gf F g 2 _ _ _ J,h.hg,Z _ Q.O,⟨y,Fz (JB V hg (Gq V I (by decide))) J (by decide),λi x C=>Z _ (r i x C)⟩,us++[u],Fz z J (by decide),λi x C=>?_⟩;rcases CU i us.length with hi|hi
 .rw[DK hi]at C;exact⟨Y _ _ (hT.two _ _ (X i x C).1),(X i x C).2⟩
 .rw[DC hi]at C;rcases b:i-us.length with _|j
  .rw[b]at C;simp at C;subst C;have:i=q:=by omega
   subst this;exact⟨Y _ _ hu,l⟩
  .rw[b]at C;simp at C
def PT (B:Nat)(w:World)(n:Nat)(F C D:Value):Prop:=R1 B w n F/\R2 B w (List.replicate n n) C/\R3 B w ((List.range n).map λi=>List.replicate (n-(i+1)) n) D
theorem TT.pt {B n:Nat}{W:World}{g:Nat}{K N J:Value}(h:TT B n W g K N J n n):PT B W n K N J:=by
 obtain⟨us,Q,S⟩:=h.P;obtain⟨F,R,U⟩:=h.C;have V:us.length=n:=by have:=Q.1;omega
 have X:F.length=n:=by have:=R.1;omega
 refine⟨h.O,⟨us,by simpa using Q,λi m hi=>?_⟩,F,by simpa using R,λi L hi=>?_⟩
 .rw[Gg]at hi;split at hi
  .injection hi with hi;subst hi;have D:us[i]?=some (us[i]'(by omega)):=AU _;exact⟨_,D,S i _ D⟩
  .cases hi
 .rw[Bh]at hi;rcases CU i n with I|I
  .rw[List.getElem?_range I]at hi;simp at hi;subst hi;have D:F[i]?=some (F[i]'(by omega)):=AU _;exact⟨_,D,(U i _ D).1⟩
  .rw[Dq (by simpa using I)]at hi;cases hi
def IU (n:Nat)(w:World)(e:Ending)(w':World):Prop:=∃D B C,e= .returned (.agg #[D,B,C])/\PT w.heap.size w' n D B C/\Below w.heap.size w w'
theorem Qx (os:List Int)(v:Value)(w:World)(hv:AP Any w v os)(hn:os.length<=100):
  Calls Tryz.prog 125 #[v] w (IU os.length w):=by
 obtain⟨i0,hi,e4,f5,e5⟩:=Bd GJ;obtain⟨j0,ji,i4,i5,i7⟩:=Bd Rc;obtain⟨a,c,rfl,h7,j8⟩:=Cz hv;obtain⟨n,b7⟩:∃n,os.length=n:=⟨_,rfl⟩;have HV:=AB hv;have l9:=AB b7;have HC:=AB (λW hv=>(JW Any (.slice a os.length c) os W hv (by omega)).mono (R':=λe w'=>∃N J,e= .returned (.slice N os.length J)/\R1 W.heap.size w' os.length (.slice N os.length J)/\Below W.heap.size W w') (by
  rintro e w2 ⟨g2,J,rfl,b8,a5⟩;exact⟨_,J,rfl,R1.Pv b8,a5⟩))
 have HU:=AB (λk j W=>PM n k (by omega) j W);rw[b7]at hn HC h7 ⊢;have c4:=hv;rw[b7]at c4;have HV:=AB c4;have l1:∀W:World,(Instr.makeSlice 24 (.int .i64 (n:Int)) (.int .i64 (n:Int))).run Tryz.prog W= .ok (.slice (some ⟨W.heap.size,0,none⟩) n n) (W.alloc (.cells (madeCells #[.int .i64 0] n) 2)):=λW=>Kt n (by omega) W;clear hv c4 b7;go_enter Tryz.func125,Tryz.ntmps125;go_upto_region 1 with fail;obtain⟨D,l⟩:∃D,D=w.alloc (.cells #[.slice none 0 0,.slice none 0 0,.slice none 0 0] 28):=⟨_,rfl⟩;rw[<-l];have d0:Below w.heap.size w D:=by rw[l];exact AY.alloc AV _
 have e6:D.heap.size=w.heap.size+1:=by rw[l];simp
 have G1:=AB (show D.heap[w.heap.size]?=some (.cells #[.slice none 0 0,.slice none 0 0,.slice none 0 0] 28 (0,0)) by rw[l];exact Aj _ _);have j5:=AB (HV.AA.keep (AO d0));have i3:=AB d0;have L:=AB e6;clear l d0 e6;go_wp2_with (first|(go_at_call 128;refine(HC.AA _ j5.AA).mono ?_;rintro e w2 ⟨N,J,rfl,b8,a5⟩)|fail);obtain⟨g,hg⟩:∃g,w2.heap.size=g:=⟨_,rfl⟩;obtain⟨w3,a6⟩:∃w3,w3=w2.alloc (.cells #[.slice N n J,.slice none 0 0,.slice none 0 0] 28):=⟨_,rfl⟩;have h4:=AB (show TT D.heap.size n w3 g (.slice N n J) (.slice none 0 0) (.slice none 0 0) 0 0 from TT.start (by rw[a6,<-hg];exact Aj _ _) (by have:=a5.size;omega) (by
  rw[a6];exact(Ty.keep (S:=Any) ((Keep.refl _ w2).alloc _) λ_ _=>trivial).one _ _ b8))
 have i6:=AB (show Below D.heap.size D w3 from by rw[a6];exact a5.alloc a5.size _);rw[<-a6,hg];clear a6 hg b8 a5;have k7:(n:Int)<=100:=by omega
 go_loopw [5] (λiv wr=>∃(i:Nat) (vP vC:Value),i<=n/\iv= .int .i64 (i:Int)/\Hid (TT D.heap.size n wr g (.slice N n J) vP vC i i)/\Hid (Below D.heap.size D wr)) (λiv _=>n-(intOf iv).toNat);case atStart=>exact⟨0,_,_,AX _,rfl,h4,i6⟩
 case round=>
  obtain⟨i,vP,vC,m3,rfl,K,hB⟩:=hrel;by_cases k9:i<n
  .obtain⟨us,b9,f6⟩:=K.AA.P;obtain⟨Z,X,rfl⟩:=II b9;have HP:=AB b9;have g0:=AB f6;clear b9 f6;obtain⟨⟨e0,e1,e2⟩,f0,f1,f2⟩:=Aa K.AA.bx;have d2:g<wr.heap.size:=K.AA.lt;have Y:=AB K.AA.bx;have a8:some g≠(Value.slice Z i X).ownBlock:=λe=>KX HP.AA Y.AA (by decide) e.symm;have L:=AB hB.AA.size;have l0:(i:Int)<(n:Int):=by omega
   have k5:i<=100:=by omega
   obtain⟨w4,f4⟩:∃w4,w4=wr:=⟨_,rfl⟩;have k6:=AB f4;clear f4;go_upto_region 6 with fail;go_cut [23] (λsv W=>∃c5 U,sv= .slice (some ⟨U,0,none⟩) (i+1) c5/\Hid (TT D.heap.size n W g (.slice N n J) (.slice (some ⟨U,0,none⟩) (i+1) c5) vC (i+1) i)/\Hid (Below D.heap.size D W));case rest=>
    obtain⟨c5,U,rfl,b0,b4⟩:=hcut;clear K hB HP g0 Y a8 L e0 e1 e2 f0 f1 f2 d2;obtain⟨F,f3⟩:∃F,F=wc:=⟨_,rfl⟩;rw[<-f3]at b0 b4 ⊢;have l2:g<F.heap.size:=b0.AA.lt;clear f3;have l:IntKind.i64.wrap ((i:Int)+1)=(i:Int)+1:=Ac _ (by omega);have a3:=AB (jb n i);have j3:=AB (show Own2 24 2 F.heap.size (F.alloc (.cells #[] 24)) (.slice (some ⟨F.heap.size,0,none⟩) 0 0) ((IQ n i).take 0) from⟨[],JD (base:=F.heap.size) (e:=24) (size:=1) F #[] 0 AV (by unfold maxLen;omega) (by simp),rfl,by simp⟩);go_wp2_with fail;go_loopw [6,7] (λlv jv wr=>∃k:Nat,i+1+k<=n/\jv= .int .i64 ((i:Int)+1+(k:Int))/\Hid (Own2 24 2 F.heap.size wr lv ((IQ n i).take k))/\Hid (Below F.heap.size F wr)) (λ_ jv _=>n-(intOf jv).toNat);case atStart=>exact⟨0,by omega,by simp,j3,(AB (AY.alloc AV _))⟩
    case round=>
     obtain⟨k,j,rfl,hO,V⟩:=hrel;obtain⟨R,O,rfl,_,_⟩:=hO.AA.form;have b2:((IQ n i).take k).length=k:=by rw[Ec,a3.AA];omega
     rw[b2]at hO ⊢;have j9:IntKind.i64.wrap ((i:Int)+1+(k:Int))=(i:Int)+1+(k:Int):=Ac _ (by omega);by_cases d7:i+1+k<n
     .have l6:(i:Int)+1+(k:Int)<(n:Int):=by omega
      have i8:=AB (show Calls Tryz.prog 185 #[.int .i64 (n:Int),.int .i64 ((i:Int)+1+(k:Int))] _ (CX (ints ((List.replicate n 0).set (i+1+k) 1)) _) from by
       have h:=HU.AA (i+1+k) d7 wr;rw[show(((i+1+k:Nat)):Int)=(i:Int)+1+(k:Int) by omega]at h;exact h)
      obtain⟨us,q1,q2,q4⟩:=hO.AA;have b3:=AB (And.intro q1 (And.intro q2 q4));rw[b2]at b3;have c0:=AB V.AA.size;have k0:k<=100:=by omega
      clear q1 q2 q4 b2;go_wp2_with fail;refine i8.AA.mono ?_;rintro e q ⟨s,a4,rfl,e8,a0⟩;have g1:(ints ((List.replicate n 0).set (i+1+k) 1)).length=n:=by rw[BK];simp
      have f9:=AB (CZ.keep (CX.row (e8.mono c0.AA)) ((Keep.refl Any q).alloc (.cells #[.slice (some ⟨s,0,none⟩) (ints ((List.replicate n 0).set (i+1+k) 1)).length a4] 24)) λ_ _=>trivial);rw[g1]at f9 ⊢;have Q:=Aw b3.AA.1 (S:=Any) ((AO a0).trans ((Keep.refl Any q).alloc (.cells #[.slice (some ⟨s,0,none⟩) n a4] 24))) (λ_ _=>trivial);have f8:=AB ((V.AA.trans (a0.mono V.AA.size)).alloc (by have:=c0.AA;have:=a0.size;omega) (.cells #[.slice (some ⟨s,0,none⟩) n a4] 24));have j4:=AB (show Keep Any wr _ from(AO a0).trans ((Keep.refl Any q).alloc (.cells #[.slice (some ⟨s,0,none⟩) n a4] 24)));have d6:=AB (show F.heap.size<=q.heap.size by have:=c0.AA;have:=a0.size;omega);clear e8 a0 g1;go_wp2_with (at_builtin;(refine ER _ rfl _ _ 25 rfl F.heap.size 24 i0 (.slice none 0 0) 1 24 Tryz.underlying25 hi e4 f5 e5 rfl (by decide) _ _ _ rfl Q ⟨q.heap.size,0,none⟩ 1 1 [.slice (some ⟨s,0,none⟩) n a4] rfl rfl (Cw (cs:= #[.slice (some ⟨s,0,none⟩) n a4]) (t:=24) (fr:=(0,0)) (Aj q _)) (by simp[Value.oneCell']) (by decide) (by unfold maxLen;omega) (by omega) (by have:=d6.AA;simp;omega) _ rfl ?_));intro g6 c6 w6 g3 c9 g8 g4;have c8:((IQ n i).take k).length=k:=by rw[Ec,a3.AA];omega
      have HN:=AB (Own2.push (rows:=(IQ n i).take k) (by decide) c8 Q (by rw[b3.AA.2.1,c8]) (λi' r u h1 h2=>(b3.AA.2.2 i' r u h1 h2).keep j4.AA (λ_ _=>trivial)) f9.AA g3 c9);rw[iV (by omega)]at HN;have b6:=AB (f8.AA.grown c9 (by have:=d6.AA;simp;omega) (by intro b hb;exact(Aq Q b hb).1));clear g3 c9 g8 g4 Q c8 hO V f8;go_wp2_with fail;go_roundw;case rel=>exact⟨k+1,by omega,by go_num,HN,b6⟩
      case measure=>simp[intOf];omega
     .obtain rfl:k=n-(i+1):=by omega
      have i1:n-(i+1)=(IQ n i).length:=a3.AA.symm;have a9:=AB (show Own2 24 2 F.heap.size wr (.slice R (n-(i+1)) O) (IQ n i) from by
       have h:=hO.AA;rw[Jh (by rw[a3.AA];exact Al _)]at h;exact h)
      obtain⟨I,j2⟩:∃I,n-(i+1)=I:=⟨_,rfl⟩;have l8:I<=100:=by omega
      have l5:(i:Int)+1+(I:Int)=(n:Int):=by omega
      rw[j2]at a9 ⊢;have d:=AB (b0.AA.below V.AA);have e7:=AB (b4.AA.trans (V.AA.mono b4.AA.size));have d1:=AB (show D.heap.size<=wr.heap.size from e7.AA.size);obtain⟨us,c1,c3⟩:=d.AA.C;obtain⟨aC,cC,rfl⟩:=II c1;have d9:=AB c3;obtain⟨⟨e0,e1,e2⟩,f0,f1,f2⟩:=Aa d.AA.bx;have d2:g<wr.heap.size:=d.AA.lt;have Y:=AB d.AA.bx;have a8:some g≠(Value.slice aC i cC).ownBlock:=λe=>KX c1 Y.AA (by decide) e.symm;obtain⟨l3,d5,j7⟩:=b0.AA.P;have j6:=Aq d5 U rfl;have e3:=AB (show R2 D.heap.size (wr.alloc (.cells #[.slice R I O] 25)) (List.replicate (n-(i+1)) n) (.slice R I O) from(Ty.keep (S:=Any) ((Keep.refl _ wr).alloc _) λ_ _=>trivial).two _ _ (by
       have h:=R2.qI (n:=n) a9.AA (λr hr=>by
        obtain⟨k',a7⟩:=Eb hr;have h5:k'<n-(i+1):=by have:=(Ak.1 a7).1;rw[a3.AA]at this;exact this
        rw[XC h5]at a7;injection a7 with a7;rw[<-a7];simp)
       rw[a3.AA]at h;exact h.mono (by have:=b4.AA.size;omega)))
      have f7:=AB (show∀k,(Value.slice (some ⟨U,0,none⟩) (i+1) c5).ownBlock=some k->(Value.slice R I O).ownBlock≠some k from λk j h9=>by
       obtain⟨xs,q1,_⟩:=a9.AA;have h5:=(Aq q1 k h9).1;have h6:U=k:=by simpa[Value.ownBlock]using j
       omega)
      clear d5 j7 j6;have Q:=Aw c1 (S:=Any) ((Keep.refl Any wr).alloc (.cells #[.slice R I O] 25)) (λ_ _=>trivial);have e9:=AB (show Below wr.heap.size wr (wr.alloc (.cells #[.slice R I O] 25)) from AY.alloc AV _);clear i1 hO b2 V d7 c3 a9;have m4:¬((i:Int)+1+(I:Int)<(n:Int)):=by omega
      have l7:i<=100:=by omega
      go_wp2_with (at_builtin;(refine ER _ rfl _ _ 26 rfl D.heap.size 25 j0 (.slice none 0 0) 1 24 Tryz.underlying26 ji i4 i5 i7 rfl (by decide) _ _ _ rfl Q ⟨wr.heap.size,0,none⟩ 1 1 [.slice R I O] rfl rfl (Cw (cs:= #[.slice R I O]) (t:=25) (fr:=(0,0)) (Aj wr _)) (by simp[Value.oneCell']) (by decide) (by unfold maxLen;omega) (by omega) (by have:=d1.AA;simp;omega) _ rfl ?_));intro g7 c7 w7 d8 b5 h0 h3;have b1:=(b5.block g (by simp;omega) a8).trans ((Dv wr _ g d2).trans Y.AA);obtain⟨⟨m0,m1,m2⟩,n0,n1,n2⟩:=Aa b1;have HN:=AB (TT.JM d.AA e9.AA Q d9.AA e3.AA f7.AA d8 b5);have b6:=AB ((e7.AA.alloc d1.AA (.cells #[.slice R I O] 25)).grown b5 (by have:=d1.AA;simp;omega) (by intro b hb;exact(Aq Q b hb).1));have i2:=AB (b6.AA.setCell (p:=⟨g,2,none⟩) d.AA.hg (.slice (some ⟨g7,0,none⟩) (i+1) c7));clear d8 b5 h0 h3 Q b1 c1 e0 e1 e2 d e3 e9 b6 d9 f7;go_wp2_with fail;go_roundw;case rel=>exact⟨i+1,_,_,by omega,by go_num,HN,i2⟩
      case measure=>simp[intOf];omega
   go_region_law
    (first|(refine Ja _ (by rfl) _ _ _ (by rfl) D.heap.size 24 i0 (.slice none 0 0) 1 24 Tryz.underlying25 hi e4 f5 e5 rfl (by omega) (.slice Z i X) i us (by rfl) (Aw HP.AA (S:=Any) (by repeat(first|exact Ab|exact AL|refine Keep.drew ?_|refine Keep.alloc ?_ _)) (λ_ _=>trivial)) ⟨wr.heap.size+1,0,none⟩ 1 1 [Es n wr.heap.size] (by rfl) (by rfl) (Cw (cs:= #[Es n wr.heap.size]) (t:=24) (fr:=(0,0)) (by first|exact IZ wr.drew _ _|exact IZ wr _ _)) (by simp[Value.oneCell']) (by omega) (by unfold maxLen;omega) (by omega) (by have:=L.AA;simp;omega) _ rfl ?_;intro U cap k8 j1 d3 h8 l4;have b1:=(d3.block g (by simp;omega) a8).trans (by first|exact dB (W:=wr.drew) Y.AA|exact dB (W:=wr) Y.AA);obtain⟨⟨m0,m1,m2⟩,n0,n1,n2⟩:=Aa b1))
   all_goals
    have HW:Below wr.heap.size wr ((wr.alloc (Obj.cells (madeCells #[Value.int IntKind.i64 0] n) 2)).alloc (Obj.cells #[Es n wr.heap.size] 24)).drew:=((AY.alloc AV _).alloc (by simp) _).drew;have g9:=AB (show R1 D.heap.size ((wr.alloc (Obj.cells (madeCells #[Value.int IntKind.i64 0] n) 2)).alloc (Obj.cells #[Es n wr.heap.size] 24)).drew n (Es n wr.heap.size) from by
     have h:=Own.made (B:=D.heap.size) wr n L.AA (by unfold maxLen;omega);have h2:=R1.Pv (h.alloc (.cells #[Es n wr.heap.size] 24)).drew;rw[Bp]at h2;exact h2)
    have HR:=AB (TT.row K.AA HW (Aw HP.AA (S:=Any) (AO HW) (λ_ _=>trivial)) g0.AA g9.AA j1 d3 (by rcases h8 with h|h;exact .inl h;exact .inr (by rw[h];exact Al _)));go_wp2_with fail;go_meet;refine⟨cap,U,rfl,HR,?_⟩
    .exact AB (((hB.AA.trans (HW.mono L.AA)).grown d3 (Ae L.AA HW.size) (by intro k j;exact(Aq HP.AA k j).1)).setCell (p:=⟨g,1,none⟩) K.AA.hg _)
  .obtain rfl:i=n:=by omega
   have d4:=AB (Dj hB.AA (by have:=L.AA;omega) G1.AA);obtain⟨⟨r0,r1,r2⟩,s0,s1,s2⟩:=Aa d4.AA;obtain⟨⟨e0,e1,e2⟩,f0,f1,f2⟩:=Aa K.AA.bx;obtain⟨us,k1,k2⟩:=K.AA.C;obtain⟨ps,k3,k4⟩:=K.AA.P;obtain⟨Z,X,rfl⟩:=II k3;obtain⟨aC,cC,rfl⟩:=II k1;have i9:=AB (show IU i w (.returned (.agg #[.slice N i J,.slice Z i X,.slice aC i cC])) (((wr.setCell ⟨w.heap.size,0,none⟩ (.slice N i J)).setCell ⟨w.heap.size,1,none⟩ (.slice Z i X)).setCell ⟨w.heap.size,2,none⟩ (.slice aC i cC)) from by
    refine⟨_,_,_,rfl,?_,?_⟩
    .exact((K.AA.kept ((((Keep.refl _ wr).setCell (by have:=L.AA;simp;omega) _).setCell (by have:=L.AA;simp;omega) _).setCell (by have:=L.AA;simp;omega) _)).mono (by have:=L.AA;omega)).pt
    .exact(((i3.AA.trans (hB.AA.mono (by have:=L.AA;omega))).setCell (p:=⟨w.heap.size,0,none⟩) AV _).setCell (p:=⟨w.heap.size,1,none⟩) AV _).setCell (p:=⟨w.heap.size,2,none⟩) AV _)
   clear K k1 k2 k3 k4;go_wp2_with fail;obtain⟨⟨z0,z1,z2⟩,-⟩:=Aa (Bi (x:=.slice N i J) (y:=.slice Z i X) (z:=.slice aC i cC) d4.AA);exact Au (v:=.agg #[.slice N i J,.slice Z i X,.slice aC i cC]) (by simp[results,Tryz.results125,go_sem,z0,z1,z2]) rfl i9.AA
end Bj
namespace Jm
open RowKit Lib AJ Cr Bj
theorem Li {B n c j:Nat}{w:World}{a:Option Addr}(h:R1 B w n (.slice a n c))(O:j<n):∃g D x,a=some ⟨g,0,none⟩/\w.cell? ⟨g,j,none⟩=some (.int .i64 x)/\w.frozen? ⟨g,j,none⟩=false/\w.heap[g]?=some (.cells D 2 (0,0))/\B<=g/\g<w.heap.size:=by
 obtain⟨l,L,I⟩:=h;rcases id I.2 with⟨F,N⟩|⟨g,cap,D,F,J,hg,_,_,_,K⟩
 .omega
 .simp only[Du]at F;obtain⟨rfl,-, -⟩:=F;have C:(vals l)[j]?=some (.int .i64 (l[j]'(by omega))):=by simp[vals]
  rw[<-K,Kb]at C;split at C
  .rw[Ma]at C;exact⟨g,D,_,rfl,by rw[Ar w g j D _ (0,0) hg];exact C,BP w g j D _ hg,hg,J,(Bt.1 hg).1⟩
  .cases C
theorem Gw {B n:Nat}{w:World}{v:Value}{l:List Int}(h:w.ownsRow B 2 1 v n (vals l))(C:l.length=n):AP Any w v l:=by
 subst C;exact(Own.sl h).mono λ_ _=>trivial
theorem RD {α:Type}{E:World->Value->α->Prop}{B n:Nat}{e:TypeId}{w:World}{v:Value}{us:List Value}(h:w.ownsRow B e 1 v n us)(C:List α)(D:C.length=n)
  (F:∀(i:Nat) x,C[i]?=some x->∃u,us[i]?=some u/\E w u x):Am E (λk=>B<=k) w v C:=by
 rcases h.2 with⟨rfl,U⟩|⟨g,cap,Q,rfl,J,hg,I,L,R,O⟩
 .have:C=[]:=Di (by omega);subst this;exact⟨none,0,rfl,Al _,AX _,λ_=>rfl,λi x hi=>by simp at hi⟩
 .refine⟨some ⟨g,0,none⟩,cap,by rw[D],by rw[D];exact I,L,(λe=>by cases e),λi x hi=>?_⟩;obtain⟨u,K,N⟩:=F i x hi;refine⟨g,0,rfl,J,(Bt.1 hg).1,u,?_,N⟩;have S:i<n:=by rw[<-D];exact(Ak.1 hi).1
  rw[CK,Ar w g i Q e (0,0) hg,<-K,<-O,P9 (by omega)];simp
theorem fin_at {α:Type}{n:Nat}(f:Fin n->α){i:Nat}{x:α}(h:((List.finRange n).map f)[i]?=some x):∃hi:i<n,x=f ⟨i,hi⟩:=by
 simp only[Bh,Hg]at h;obtain⟨j,C,rfl⟩:=h;obtain⟨B,e⟩:=Ak.1 C;simp only[List.length_finRange]at B;refine⟨B,?_⟩;rw[<-e];simp
theorem qJ {n:Nat}{α:Type}(f:Fin n->α)(g:α->Nat)(L:List Nat)(B:L.length=n)(h:∀i:Fin n,L[i.1]?=some (g (f i))):((List.finRange n).map f).map g=L:=by
 apply GN;intro i;by_cases hi:i<n
 .rw[h ⟨i,hi⟩];simp[hi]
 .rw[Dq (by simp;omega),Dq (by omega)]
theorem R2.sl {B:Nat}{L:List Nat}{w:World}{v:Value}(h:R2 B w L v):∃rows:List (List Int),rows.map List.length=L/\AQ (λk=>B<=k) w v rows:=by
 obtain⟨us,F,N⟩:=h;have C:∀i:Fin L.length,∃l:List Int,L[i.1]?=some l.length/\∃u,us[i.1]?=some u/\AP (λk=>B<=k) w u l:=λi=>by
  obtain⟨u,I,J⟩:=N i.1 _ (AU i.2);obtain⟨l,O,K⟩:=J.sl;exact⟨l,by rw[O];exact AU i.2,u,I,K⟩
 refine⟨(List.finRange L.length).map λi=>Classical.choose (C i),qJ _ _ L rfl (λi=>(Kk (C i)).1),RD F _ (by simp) λi x D=>?_⟩;obtain⟨hi,rfl⟩:=fin_at _ D;exact(Kk (C ⟨i,hi⟩)).2
theorem R3.sl {B:Nat}{M:List (List Nat)}{w:World}{v:Value}(h:R3 B w M v):∃cs:List (List (List Int)),cs.map (λr=>r.map List.length)=M/\FR (λk=>B<=k) w v cs:=by
 obtain⟨us,F,L⟩:=h;have C:∀i:Fin M.length,∃r:List (List Int),M[i.1]?=some (r.map List.length)/\∃u,us[i.1]?=some u/\AQ (λk=>B<=k) w u r:=λi=>by
  obtain⟨u,I,J⟩:=L i.1 _ (AU i.2);obtain⟨r,N,K⟩:=R2.sl J;exact⟨r,by rw[N];exact AU i.2,u,I,K⟩
 refine⟨(List.finRange M.length).map λi=>Classical.choose (C i),?_,RD F _ (by simp) λi x D=>?_⟩
 .apply GN;intro i;by_cases hi:i<M.length
  .rw[(Kk (C ⟨i,hi⟩)).1];simp[hi]
  .rw[Dq (by simp;omega),Dq (by omega)]
 .obtain⟨hi,rfl⟩:=fin_at _ D;exact(Kk (C ⟨i,hi⟩)).2
theorem ZR {B n:Nat}{w:World}{D F C:Value}(h:PT B w n D F C):∃P:BZ,Av (λk=>B<=k) w D F C P/\P.os.length=n/\P.ps.map List.length=List.replicate n n/\P.cs.map (λr=>r.map List.length)=(List.range n).map λi=>List.replicate (n-(i+1)) n:=by
 obtain⟨l,K,L⟩:=h.1.sl;obtain⟨N,Q,O⟩:=R2.sl h.2.1;obtain⟨cs,I,J⟩:=R3.sl h.2.2;exact⟨⟨l,N,cs⟩,⟨L,O,J⟩,K,Q,I⟩
end Jm
end Go.Proofs.YtgjadpmbnejaoaaGreat
