import Derived.Test.YtgjadpmbnejaoaaGreatZd
/-
  Lemmas for the law FnAutomorphisms, in short spelling.
-/
set_option linter.unusedVariables false
set_option linter.unusedSimpArgs false
set_option maxRecDepth 100000
set_option maxHeartbeats 40000000
namespace Go.Proofs.YtgjadpmbnejaoaaGreat
namespace Cr
open RowKit AJ
theorem R2.at {B n c i m:Nat}{L:List Nat}{w:World}{a:Option Addr}(h:R2 B w L (.slice a n c))(hi:L[i]?=some m):
  ∃g u0 D,a=some ⟨g,0,none⟩/\w.cell? ⟨g,i,none⟩=some u0/\w.frozen? ⟨g,i,none⟩=false/\w.heap[g]?=some (.cells D 24 (0,0))/\D[i]?=some u0/\R1 B w m u0/\B<=g/\g<w.heap.size:=by
 obtain⟨us,I,J⟩:=h;obtain⟨u,C,e2⟩:=J i m hi;rcases id I.2 with⟨F,O⟩|⟨g,cap,D,F,K,hg,_,_,_,N⟩
 .have:=(Ak.1 hi).1;omega
 .simp only[Du]at F;obtain⟨rfl,-, -⟩:=F;rw[<-N,Kb]at C;split at C
  .rw[Ma]at C;exact⟨g,u,D,rfl,by rw[Ar w g i D _ (0,0) hg];exact C,BP w g i D _ hg,hg,C,e2,K,(Bt.1 hg).1⟩
  .cases C
theorem R3.at {B n c i:Nat}{M:List (List Nat)}{L:List Nat}{w:World}{a:Option Addr}(h:R3 B w M (.slice a n c))(hi:M[i]?=some L):
  ∃g u0,a=some ⟨g,0,none⟩/\w.cell? ⟨g,i,none⟩=some u0/\R2 B w L u0/\B<=g/\g<w.heap.size:=by
 obtain⟨us,F,I⟩:=h;obtain⟨u,C,e2⟩:=I i L hi;rcases id F.2 with⟨D,O⟩|⟨g,cap,N,D,J,hg,_,_,_,K⟩
 .have:=(Ak.1 hi).1;omega
 .simp only[Du]at D;obtain⟨rfl,-, -⟩:=D;rw[<-K,Kb]at C;split at C
  .rw[Ma]at C;exact⟨g,u,rfl,by rw[Ar w g i N _ (0,0) hg];exact C,e2,J,(Bt.1 hg).1⟩
  .cases C
theorem R2.form {B:Nat}{L:List Nat}{w:World}{v:Value}(h:R2 B w L v):∃a c,v= .slice a L.length c/\L.length<=c/\c<=maxLen:=by
 obtain⟨us,C,_⟩:=h;rcases C.2 with⟨rfl,I⟩|⟨g,cap,J,rfl,_,_,F,D,_⟩
 .exact⟨none,0,by rw[I],by omega,by simp[maxLen]⟩
 .exact⟨_,cap,rfl,F,D⟩
theorem R3.form {B:Nat}{L:List (List Nat)}{w:World}{v:Value}(h:R3 B w L v):∃a c,v= .slice a L.length c/\L.length<=c/\c<=maxLen:=by
 obtain⟨us,C,_⟩:=h;rcases C.2 with⟨rfl,I⟩|⟨g,cap,J,rfl,_,_,F,D,_⟩
 .exact⟨none,0,by rw[I],by omega,by simp[maxLen]⟩
 .exact⟨_,cap,rfl,F,D⟩
end Cr
namespace Bj
open RowKit AJ Cr
theorem PT.form {B n:Nat}{w:World}{O L N:Value}(h:PT B w n O L N):∃F I C J D K,O= .slice F n I/\L= .slice C n J/\N= .slice D n K:=by
 obtain⟨F,I,rfl,_⟩:=h.1.len;obtain⟨C,J,rfl,_⟩:=h.2.1.form;obtain⟨D,K,rfl,_⟩:=h.2.2.form;exact⟨F,I,C,J,D,K,rfl,by simp,by simp⟩
theorem PT.ty {B n:Nat}{w w':World}{I D F:Value}(h:PT B w n I D F)(C:Ty B w w'):PT B w' n I D F:=⟨C.one _ _ h.1,C.two _ _ h.2.1,C.three _ _ h.2.2⟩
theorem PT.mono {B B' n:Nat}{w:World}{I D F:Value}(h:PT B w n I D F)(C:B'<=B):PT B' w n I D F:=⟨h.1.mono C,h.2.1.mono C,h.2.2.mono C⟩
end Bj
namespace EH
open RowKit AJ Bv Bl Ch Cr Bj JN
def ZV (n:Nat):List (List Nat):=(List.range n).map λi=>List.replicate (n-(i+1)) n
theorem MH {n i:Nat}(h:i<n):(ZV n)[i]?=some (List.replicate (n-(i+1)) n):=by unfold ZV;simp[h]
theorem JX {n m i:Nat}(h:i<m):(List.replicate m n)[i]?=some n:=by simp[h]
def PX (B n:Nat)(w:World)(g:Nat)(F C D:Value):Prop:=w.heap[g]?=some (.cells #[F,C,D] 28 (0,0))/\B<=g/\PT B w n F C D
theorem PX.lt {B n:Nat}{w:World}{g:Nat}{F C D:Value}(h:PX B n w g F C D):g<w.heap.size:=(Bt.1 h.1).1
theorem PX.below {B n:Nat}{w w':World}{g:Nat}{I C F:Value}(h:PX B n w g I C F)(D:Below w.heap.size w w'):PX B n w' g I C F:=⟨(D.block g h.lt).trans h.1,h.2.1,h.2.2.ty (Ty.below D)⟩
theorem PX.put {B n b i m:Nat}{w:World}{g:Nat}{F I D u0 u:Value}{J:Array Value}(h:PX B n w g F I D)(C:w.heap[b]?=some (.cells J 24 (0,0)))(N:J[i]?=some u0)(K:R1 B w m u0)(L:R1 B w m u):PX B n (w.setCell ⟨b,i,none⟩ u) g F I D:=
 ⟨by
  rw[JA w ⟨b,i,none⟩ g u ?_]
  .exact h.1
  .intro e;have e:g=b:=e;subst e;rw[h.1]at C;simp at C,h.2.1,h.2.2.ty (Ty.set2 C N K L)⟩
theorem Pk (b m k:Nat)(I:b<=100)(D:m<=100)(J:k<=100)(v:Value)(B:Nat)(w:World)(C:R1 B w k v):Calls Tryz.prog 184 #[.int .i64 (b:Int),v,.int .i64 (m:Int)] w (ShR (b+k+m) w):=by
 obtain⟨l,rfl,F⟩:=C.sl;exact jl b m I D v l w (F.mono λ_ _=>trivial) J
theorem Yo (w:World)(base:Nat)(ty:TypeId)(g n cap m c:Nat)(I l:List Int)(b:Option Addr)(D:w.ownsRow base 2 1 (.slice (some ⟨g,0,none⟩) n cap) n (vals I))(L:AP Any w (.slice b m c) l)(v:n+m<=1000000)(j:base<=w.heap.size):
  ∃B C w',(Builtin.append_ #[24,24] ty #[.slice (some ⟨g,0,none⟩) n cap,.slice b m c]).run Tryz.prog w= .ok (.slice (some ⟨B,0,none⟩) (n+m) C) w'/\w'.ownsRow base 2 1 (.slice (some ⟨B,0,none⟩) (n+m) C) (n+m) (vals (I++l))/\w.grownBy w' (some g):=by
 obtain⟨q,hi,W,K,V⟩:=Bd Dh;have Q:=Tryz.underlying24;have Z:=L;obtain⟨p,C,i,r,s,d,u⟩:=L;obtain⟨rfl,rfl,rfl⟩:b=p/\m=l.length/\c=C:=by simpa using i
 have Y:n<=cap:=by
  rcases D.2 with⟨h,_⟩|⟨B,J,X,h,_,_,O,_⟩
  .cases h
  .have h:g=B/\cap=J:=by simpa using h
   omega
 cases b with
 |none=>
  have U:c=0:=d rfl;subst U;have R:l=[]:=Di (by omega);subst R;refine⟨g,cap,w,?_,by simpa using D,⟨rfl,rfl,rfl,Al _,λ_ _ _=>rfl⟩⟩;simp[Builtin.append_,run_underlying Q,sizeOf,typeInfo,hi,K,Builtin.lenOf,Builtin.firstCells,Y,storeCells]
 |some ad=>
  obtain⟨x,w',a,N,O,S⟩:=run_append_own (P:=Tryz.prog) w base 24 ty 2 q (.int .i64 0) 1 8 Q hi W K V rfl (by decide) _ n (vals I) D ad l.length c (vals l) (by simp[vals]) (AP.src Z AL) (LH l) (by unfold maxLen;omega) (by omega) j;rcases N.2 with⟨F,_⟩|⟨B,J,X,F,_⟩
  .exact absurd (S.1 F).1 (by simp)
  .subst F;exact⟨B,J,w',a,by simpa[vals]using N,O⟩
theorem UC {F:Array Oper}{o:Oper}{a:Act}{w:World}{K:Act->World->Prop}{Q:Exit->Act->World->Prop}{E:Prop}(N:o.guard=none)(s x:Operand)
  (Y:o.op= .call { callee:=.builtin .append,args:= #[s,x],argTypes:= #[24,24] }) (base g n cap m c:Nat) (D l:List Int) (b:Option Addr) (J:a.eval s= .slice (some ⟨g,0,none⟩) n cap) (L:w.ownsRow base 2 1 (.slice (some ⟨g,0,none⟩) n cap) n (vals D))
  (S:a.eval x= .slice b m c) (O:AP Any w (.slice b m c) l) (V:n+m<=1000000) (X:base<=w.heap.size)
  (h:∀C B w',w'.ownsRow base 2 1 (.slice (some ⟨C,0,none⟩) (n+m) B) (n+m) (vals (D++l))->w.grownBy w' (some g)->K (a.put o.dst (.slice (some ⟨C,0,none⟩) (n+m) B)) w'):
  if Region.wanted o (yielded F a.tmps)=true then Oper.wp Tryz.prog o a w K Q else E:=by
 have I:Region.wanted o (yielded F a.tmps)=true:=by simp[Region.wanted,N]
 rw[BQ I];obtain⟨C,B,w',R,U,W⟩:=Yo w base o.type g n cap m c D l b L O V X;unfold Oper.wp execOp;simp only[Y,resolve,invoke,builtin,Sem.run_bind,Sem.run_pure,Mc,Mf,FC,Jb,J,S,R];exact h C B w' U W
theorem Gw {B n:Nat}{w:World}{v:Value}{l:List Int}(h:w.ownsRow B 2 1 v n (vals l))(C:l.length=n):AP Any w v l:=by
 subst C;exact(Own.sl h).mono λ_ _=>trivial
abbrev CV:Obj:=.cells #[.slice none 0 0,.slice none 0 0,.slice none 0 0] 28 (0,0)
theorem Iq {B C n:Nat}{W:World}{x y z:Value}(I:PT B W n x y z)(F:C<=B)(D:C<=W.heap.size):PX C n (W.alloc (.cells #[x,y,z] 28)) W.heap.size x y z:=
 ⟨Aj _ _,D,(I.ty (Ty.keep (S:=Any) (AL.alloc _) λ_ _=>trivial)).mono F⟩
theorem qY {B C n g:Nat}{W:World}{x y z:Value}(I:W.heap[g]?=some CV)(F:PT B W n x y z)(D:C<=B)(hg:C<=g)(J:g<B):PX C n (((W.setCell ⟨g,0,none⟩ x).setCell ⟨g,1,none⟩ y).setCell ⟨g,2,none⟩ z) g x y z:=
 ⟨Bi I,hg,(F.ty (Ty.keep (S:=λk=>B<=k) ((((Keep.refl _ W).setCell (by simp;omega) _).setCell (by simp;omega) _).setCell (by simp;omega) _) λ_ h=>h)).mono D⟩
def Slot (B N:Nat)(w:World)(gp i:Nat):Prop:=w.frozen? ⟨gp,i,none⟩=false/\B<=gp/\gp<w.heap.size/\∃C u0,w.heap[gp]?=some (.cells C 24 (0,0))/\C[i]?=some u0/\R1 B w N u0
theorem Slot.below {B N gp i:Nat}{w w':World}(h:Slot B N w gp i)(C:Below w.heap.size w w'):Slot B N w' gp i:=by
 obtain⟨O,I,D,F,u0,J,K,L⟩:=h;have hg:=(C.block gp D).trans J;exact⟨BP w' gp i F _ hg,I,Ah D C.size,F,u0,hg,K,(Ty.below C).one _ _ L⟩
theorem Slot.put {B N gp i:Nat}{w:World}{g n:Nat}{D F C u:Value}(h:Slot B N w gp i)(K:PX B n w g D F C)(O:R1 B w N u):PX B n (w.setCell ⟨gp,i,none⟩ u) g D F C:=by
 obtain⟨Q,R,S,U,u0,L,I,J⟩:=h;exact K.put L I J O
theorem Slot.cell {B N gp i:Nat}{w:World}(h:Slot B N w gp i):∃u,w.cell? ⟨gp,i,none⟩=some u:=by
 obtain⟨I,J,K,F,u0,C,D,L⟩:=h;exact⟨u0,(Ar w gp i F _ (0,0) C).trans D⟩
theorem PX.Ki {B N g D i:Nat}{w:World}{L K:Value}{C:Option Addr}(h:PX B N w g L (.slice C N D) K)(hi:i<N):∃gp,C=some ⟨gp,0,none⟩/\Slot B N w gp i:=by
 obtain⟨gp,u0,S,e,_,O,R,Q,F,J,I⟩:=h.2.2.2.1.at (JX hi);exact⟨gp,e,O,J,I,S,u0,R,Q,F⟩
theorem PX.OV {B N g O i j:Nat}{w:World}{S V:Value}{I:Option Addr}(h:PX B N w g S V (.slice I N O))(hi:i<N)(Z:j<N-(i+1)):
  ∃C gr F,I=some ⟨C,0,none⟩/\w.cell? ⟨C,i,none⟩=some (.slice (some ⟨gr,0,none⟩) (N-(i+1)) F)/\C<w.heap.size/\Slot B N w gr j:=by
 obtain⟨C,u,e,J,D,b,U⟩:=h.2.2.2.2.at (MH hi);obtain⟨a,F,rfl,_⟩:=D.form;rw[Bp]at J D;obtain⟨gr,u0,Y,rfl,_,L,W,K,R,X,Q⟩:=D.at (JX Z);exact⟨C,gr,F,e,J,U,L,X,Q,Y,u0,W,K,R⟩
theorem dD {B m i c:Nat}{w:World}{L K:Value}{a:Option Addr}(h:PT B w m L (.slice a m c) K)(hi:i<m):∃C F D,a=some ⟨C,0,none⟩/\w.cell? ⟨C,i,none⟩=some (.slice F m D)/\C<w.heap.size/\R1 B w m (.slice F m D):=by
 obtain⟨C,u,U,e,N,Q,S,R,I,O,J⟩:=h.2.1.at (JX hi);obtain⟨F,D,rfl,_⟩:=I.len;exact⟨C,F,D,e,N,J,I⟩
theorem VS {B m i c:Nat}{w:World}{K N:Value}{a:Option Addr}(h:PT B w m K N (.slice a m c))(hi:i<m):∃C F D,a=some ⟨C,0,none⟩/\w.cell? ⟨C,i,none⟩=some (.slice F (m-(i+1)) D)/\C<w.heap.size/\R2 B w (List.replicate (m-(i+1)) m) (.slice F (m-(i+1)) D):=by
 obtain⟨C,u,e,J,I,O,L⟩:=h.2.2.at (MH hi);obtain⟨F,D,rfl,_⟩:=I.form;rw[Bp]at J I;exact⟨C,F,D,e,J,L,I⟩
theorem OW {B k n m c:Nat}{w:World}{a:Option Addr}(h:R2 B w (List.replicate k m) (.slice a n c)){j:Nat}(L:j<k):∃C F D,a=some ⟨C,0,none⟩/\w.cell? ⟨C,j,none⟩=some (.slice F m D)/\C<w.heap.size/\R1 B w m (.slice F m D):=by
 obtain⟨C,u,S,e,K,O,R,Q,I,N,J⟩:=h.at (JX L);obtain⟨F,D,rfl,_⟩:=I.len;exact⟨C,F,D,e,K,J,I⟩
theorem KF {B:Nat}{wr w':World}(h:Keep (λk=>k≠B) wr w'):(∀b o,b<wr.heap.size->¬b=B->w'.cell? ⟨b,o,none⟩=wr.cell? ⟨b,o,none⟩)/\Keep (λk=>k≠B) wr w':=⟨λb o D C=>h.cell C D,h⟩
def SQ (C w6:World)(g k:Nat)(x y z:Value):Prop:=w6.heap[g]?=some CV/\C.heap.size<=g/\(∃B,PT B w6 k x y z/\g<B)/\Below C.heap.size C w6
def dF (C w6:World)(k:Nat)(x y z:Value):Prop:=(∃B,PT B w6 k x y z/\C.heap.size<=B)/\Below C.heap.size C w6
abbrev dG (B W:World)(k:Nat)(p:Value):Prop:=∃g K F I C J D,p= .pointer (some ⟨g,0,none⟩)/\Hid (PX B.heap.size k W g (.slice K k F) (.slice I k C) (.slice J k D))/\Hid (Below B.heap.size B W)
theorem qZ {N w6:World}{g k I D F:Nat}{K L J:Option Addr}(h:SQ N w6 g k (.slice K k I) (.slice L k D) (.slice J k F)):
  dG N (((w6.setCell ⟨g,0,none⟩ (.slice K k I)).setCell ⟨g,1,none⟩ (.slice L k D)).setCell ⟨g,2,none⟩ (.slice J k F)) k (.pointer (some ⟨g,0,none⟩)):=by
 obtain⟨Q,C,⟨B,S,R⟩,O⟩:=h;exact⟨g,K,I,L,D,J,F,rfl,AB (qY Q S (by omega) C R),AB (((O.setCell (p:=⟨g,0,none⟩) C _).setCell (p:=⟨g,1,none⟩) C _).setCell (p:=⟨g,2,none⟩) C _)⟩
theorem qa {N w6:World}{k I C D:Nat}{L J K:Option Addr}(h:dF N w6 k (.slice L k I) (.slice J k C) (.slice K k D)):
  dG N (w6.alloc (.cells #[.slice L k I,.slice J k C,.slice K k D] 28)) k (.pointer (some ⟨w6.heap.size,0,none⟩)):=by
 obtain⟨⟨B,Q,O⟩,F⟩:=h;exact⟨w6.heap.size,L,I,J,C,K,D,rfl,AB (Iq Q O F.size),AB (F.alloc F.size _)⟩
theorem U3 (n k:Nat)(D:n<=100)(J:k<n)(w:World):Calls Tryz.prog 185 #[.int .i64 (n:Int),.int .i64 (k:Int)] w (ShR n w):=
 (Xm n k D J w).mono λe w' ⟨g,C,B,I⟩=>⟨g,n,C,⟨ints ((List.replicate n 0).set k 1),by simp[ints],by
  have F:(ints ((List.replicate n 0).set k 1)).length=n:=by simp[ints]
  unfold Own at B;rw[F]at B;exact B⟩,I⟩
theorem NS {F:Array Oper}{rest:List Oper}{o:Oper}{a:Act}{w:World}{Q:Exit->Act->World->Prop}(L:o.guard=none)(s x:Operand)
  (Y:o.op= .call { callee:=.builtin .append,args:= #[s,x],argTypes:= #[24,24] }) (base g n cap m c:Nat) (D l:List Int) (b:Option Addr) (I:a.eval s= .slice (some ⟨g,0,none⟩) n cap) (J:w.ownsRow base 2 1 (.slice (some ⟨g,0,none⟩) n cap) n (vals D))
  (S:a.eval x= .slice b m c) (N:AP Any w (.slice b m c) l) (V:n+m<=1000000) (X:base<=w.heap.size)
  (h:∀C B w',w'.ownsRow base 2 1 (.slice (some ⟨C,0,none⟩) (n+m) B) (n+m) (vals (D++l))->w.grownBy w' (some g)->wpList Tryz.prog F Q rest (a.put o.dst (.slice (some ⟨C,0,none⟩) (n+m) B)) w'):wpList Tryz.prog F Q (o::rest) a w:=by
 refine wpList_plain L λK R=>?_;obtain⟨C,B,w',O,U,W⟩:=Yo w base o.type g n cap m c D l b J N V X;unfold Oper.wp execOp;simp only[Y,resolve,invoke,builtin,Sem.run_bind,Sem.run_pure,Mc,Mf,FC,Jb,I,S,O];exact R _ _ (h C B w' U W)
theorem QF (m:Nat)(I:m<=100)(a:Option Addr)(c:Nat)(l:List Int)(D:l.length=m)(w:World)(C:AP Any w (.slice a m c) l):
  Calls Tryz.prog 128 #[.slice a m c] w λe w'=>∃g c,e= .returned (.slice (some ⟨g,0,none⟩) m c)/\w'.ownsRow w.heap.size 2 1 (.slice (some ⟨g,0,none⟩) m c) m (vals l)/\Below w.heap.size w w':=by
 refine(JW Any (.slice a m c) l w C (by omega)).mono ?_;rintro e J ⟨g,c,rfl,B,F⟩;unfold Own at B;rw[D]at B ⊢;exact⟨g,c,rfl,B,F⟩
theorem Px (n:Nat)(U:n<=100)(os:List Int)(L:os.length=n)(v:Value)(w:World)(O:AP Any w v os):
  Calls Tryz.prog 125 #[v] w λe w'=>∃J F K B I D,e= .returned (.agg #[.slice J n F,.slice K n B,.slice I n D])/\PT w.heap.size w' n (.slice J n F) (.slice K n B) (.slice I n D)/\Below w.heap.size w w':=by
 refine(Qx os v w O (by omega)).mono ?_;rintro e S ⟨R,V,Q,rfl,C,N⟩;rw[L]at C;obtain⟨J,F,K,B,I,D,rfl,rfl,rfl⟩:=C.form;exact⟨_,_,_,_,_,_,rfl,C,N⟩
theorem Lb {B N n g gp i:Nat}{w:World}{I K F:Value}(h:Slot B N w gp i)(D:PX B n w g I K F):¬g=gp:=λe=>by
 obtain⟨_,_,_,L,u0,J,_⟩:=h;have C:=D.1;rw[e,J]at C;simp at C
theorem VH {B N g C gr D i j:Nat}{w:World}{J K:Value}(I:PX B N w g J K (.slice (some ⟨C,0,none⟩) N D))(h:Slot B N w gr j):¬C=gr:=λe=>by
 obtain⟨us,L,_⟩:=I.2.2.2.2;obtain⟨_,_,_,O,u0,F,_⟩:=h;exact KX L F (by decide) (by rw[e];rfl)
end EH
namespace Ku
open RowKit AJ Val Bv Bl Cr Bj JN
abbrev EA (B:Nat)(w:World)(v:Value)(x:List Nat):Prop:=w.ownsRow B 2 1 v x.length (vals (ints x))
def GI:Nat->Nat->Nat->Nat×Nat
 |0,p,n=>(0,n)
 |k+1,p,n=>if n%p=0 then((GI k p (n/p)).1+1,(GI k p (n/p)).2)else(0,n)
def Ef:List Nat->Nat->List Nat×Nat
 |[],n=>([],n)
 |d::ds,n=>(List.replicate (GI 10 d n).1 d++(Ef ds (GI 10 d n).2).1,(Ef ds (GI 10 d n).2).2)
theorem jm (x:List Nat)(a:Nat):vals (ints x)++[.int .i64 (a:Int)]=vals (ints (x++[a])):=by simp[vals,ints]
theorem iY {j q m:Nat}(h:m%q=0):GI (j+1) q m=((GI j q (m/q)).1+1,(GI j q (m/q)).2):=by rw[GI,BQ h]
theorem jo {j q m:Nat}(h:m%q≠0):GI j q m=(0,m):=by cases j with
 |zero=>rfl
 |succ j=>rw[GI,BF h]
def Sp (q n m e:Nat):Prop:=1<=m/\m<=n/\e<=10/\m<2^(10-e)/\GI 10 q n=(e+(GI (10-e) q m).1,(GI (10-e) q m).2)
theorem Sp.start {q n:Nat}(B:1<=n)(C:n<=1000):Sp q n n 0:=⟨B,Al _,by omega,by show n<1024;omega,by simp⟩
theorem Sp.step {q n m e:Nat}(h:Sp q n m e)(I:2<=q)(C:m%q=0):Sp q n (m/q) (e+1)/\m/q<m/\e<10:=by
 obtain⟨O,Q,R,B,F⟩:=h;have K:e<10:=by
  refine Nat.lt_of_not_le λh=>?_;rw[show 10-e=0 by omega]at B;simp at B;omega
 have D:m/q<m:=Nat.div_lt_self (by omega) (by omega);have J:q<=m:=Nat.le_of_dvd (by omega) (Nat.dvd_of_mod_eq_zero C);have L:1<=m/q:=(Nat.one_le_div_iff (by omega)).2 J;have N:m/q<2^(10-(e+1)):=by
  rw[Nat.div_lt_iff_lt_mul (by omega)];rw[show 10-e=(10-(e+1))+1 by omega,Ke]at B;exact Ah B (Nat.mul_le_mul AV I)
 refine⟨⟨L,by omega,by omega,N,?_⟩,D,K⟩;rw[F,show 10-e=(10-(e+1))+1 by omega,iY C];exact Prod.ext (by simp only;omega) rfl
theorem Sp.fin {q n m e:Nat}(h:Sp q n m e)(C:m%q≠0):GI 10 q n=(e,m):=by
 obtain⟨D,F,J,I,B⟩:=h;rw[B,jo C];rfl
theorem PL {B:Nat}{w':World}{C:Value}{x:List Nat}{a:Nat}(h:w'.ownsRow B 2 1 C (x.length+1) (vals (ints x)++[.int .i64 (a:Int)])):EA B w' C (x++[a]):=by
 unfold EA;rw[<-jm,Bc];exact h
def Ii (d:Nat):List Nat:=[2,3,5,7].filter (λp=>decide (d<=p))
def fD (r:List Nat×Nat)(w:World)(e:Ending)(w':World):Prop:=∃v,e= .returned (.tuple #[v,.bool (r.2==1)])/\EA w.heap.size w' v r.1/\Below w.heap.size w w'
theorem jq {d:Nat}(h:Bw (d:Int)=true):Ii d=d::Ii (d+1):=by
 simp[Bw]at h;rcases h with((h|h)|h)|h
 .obtain rfl:d=2:=by omega
  rfl
 .obtain rfl:d=3:=by omega
  rfl
 .obtain rfl:d=5:=by omega
  rfl
 .obtain rfl:d=7:=by omega
  rfl
theorem qb {d:Nat}(B:2<=d/\d<=7)(h:Bw (d:Int)=false):Ii d=Ii (d+1):=by
 simp[Bw]at h;have:d=4\/d=6:=by omega
 rcases this with rfl|rfl<;>rfl
theorem qc {d m m' e:Nat}{B:List Nat}{R:List Nat×Nat}{C:List Nat}(h:C++(Ef (d::B) m).1=R.1/\(Ef (d::B) m).2=R.2)(D:GI 10 d m=(e,m')):(C++List.replicate e d)++(Ef B m').1=R.1/\(Ef B m').2=R.2:=by
 rw[Ef,D]at h;simp only at h;rw[Dy];exact h
theorem mE (B:List Nat)(e d:Nat):B++List.replicate e d++[d]=B++List.replicate (e+1) d:=by
 rw[Dy,IK]
theorem mF (I:Nat)(h1:1<=I)(h2:I<=729)(w:World):Calls Tryz.prog 230 #[.int .i64 (I:Int)] w (fD (Ef [2,3,5,7] I) w):=by
 obtain⟨i0,hi,b7,b1,b8⟩:=Bd Dh;obtain⟨R,l⟩:∃R,Ef [2,3,5,7] I=R:=⟨_,rfl⟩;have a9:=AB (show []++(Ef (Ii 2) I).1=R.1/\(Ef (Ii 2) I).2=R.2 from by rw[<-l];exact⟨rfl,rfl⟩);rw[l];have b4:=AB (show EA w.heap.size (w.alloc (.cells #[] 2)) (.slice (some ⟨w.heap.size,0,none⟩) 0 0) [] from DL (base:=w.heap.size) (e:=2) (size:=1) w #[] 0 AV (AX _) rfl);have HP:=AB (λd W=>KE.LD d W);clear l;go_enter Tryz.func230,Tryz.ntmps230;go_wp2_with fail;go_loopw [0,4,5] (λJ V F wr=>∃(m d:Nat) (B:List Nat),J= .int .i64 (m:Int)/\F= .int .i64 (d:Int)/\1<=m/\m<=729/\2<=d/\d<=8/\B.length<=10*d/\Hid (B++(Ef (Ii d) m).1=R.1/\(Ef (Ii d) m).2=R.2)/\Hid (EA w.heap.size wr V B)/\Hid (Below w.heap.size w wr)) (λ_ _ F _=>8-(intOf F).toNat);case atStart=>exact⟨I,2,[],rfl,rfl,h1,h2,Al _,by omega,by simp,a9,b4,AB (AY.alloc AV _)⟩
 case round=>
  obtain⟨m,d,B,rfl,rfl,z,c5,a2,d3,d4,N,D,C⟩:=hrel;by_cases c4:d<=7
  .have b5:(d:Int)<=7:=by omega
   have c8:IntKind.i64.wrap ((d:Int)+1)=(d:Int)+1:=Ac _ (by omega);cases L:Bw (d:Int)with
   |false=>
    have Z:=AB (λW=>by have h:=HP.AA (d:Int) W;rw[L]at h;exact h);have a:=AB (show B++(Ef (Ii (d+1)) m).1=R.1/\(Ef (Ii (d+1)) m).2=R.2 by rw[<-qb ⟨a2,c4⟩ L];exact N.AA);clear L N;go_wp2_with fail;rename World=>wo;go_loopw [0,4] (λJ V wr=>J= .int .i64 (m:Int)/\Hid (EA w.heap.size wr V B)/\Hid (Below w.heap.size w wr)) (λ_ _ _=>0);case atStart=>exact⟨rfl,D,C⟩
    case round=>
     clear D C;obtain⟨rfl,D,C⟩:=hrel;go_wp2_with fail;refine(Z.AA _).mono ?_;rintro e p ⟨rfl,rfl⟩;go_wp2_with fail;go_roundw;case rel=>exact⟨m,d+1,B,rfl,by go_num,z,c5,by omega,by omega,by omega,a,D,C⟩
     case measure=>simp[intOf];omega
   |true=>
    have Z:=AB (λW=>by have h:=HP.AA (d:Int) W;rw[L]at h;exact h);have a:=AB (show B++(Ef (d::Ii (d+1)) m).1=R.1/\(Ef (d::Ii (d+1)) m).2=R.2 by rw[<-jq L];exact N.AA);have b6:=AB (Sp.start (q:=d) z (by omega));have x:=AB (show∀v W,EA w.heap.size W v B->EA w.heap.size W v (B++List.replicate 0 d) from λv W h=>by simpa using h);clear L N;go_wp2_with fail;rename World=>wo;go_loopw [0,4] (λJ V wr=>∃m' e:Nat,J= .int .i64 (m':Int)/\Hid (Sp d m m' e)/\Hid (EA w.heap.size wr V (B++List.replicate e d))/\Hid (Below w.heap.size w wr)) (λJ _ _=>(intOf J).toNat);case atStart=>exact⟨m,0,rfl,b6,AB (x.AA _ _ D.AA),C⟩
    case round=>
     clear D C x;obtain⟨m',e,rfl,Q,D,C⟩:=hrel;have b9:((m':Int)).tmod (d:Int)=((m'%d:Nat):Int):=ML m' d;have y:((m':Int)).tdiv (d:Int)=((m'/d:Nat):Int):=UJ m' d;have c6:¬(d:Int)=0:=by omega
     have a0:1<=m'/\m'<=729/\e<=10:=by have:=Q.AA;unfold Sp at this;omega
     obtain⟨r,K⟩:∃r,m'%d=r:=⟨_,rfl⟩;obtain⟨F,O⟩:∃F,m'/d=F:=⟨_,rfl⟩;rw[K]at b9;rw[O]at y;have d1:IntKind.i64.wrap (r:Int)=(r:Int):=by
      have:r<=m':=by rw[<-K];exact Nat.mod_le _ _
      exact Ac _ (by omega)
     have d0:IntKind.i64.wrap (F:Int)=(F:Int):=by
      have:F<=m':=by rw[<-O];exact Nat.div_le_self _ _
      exact Ac _ (by omega)
     by_cases a4:r=0
     .have U:=Q.AA.step a2 (K.trans a4);rw[O]at U;have c3:=AB U.1;have c7:=U.2.1;have d2:=U.2.2;have c0:((r:Int)==0)=true:=by simp;omega
      have X:=Aw D.AA (S:=Any) ((Keep.refl _ wr).alloc (.cells #[.int .i64 (d:Int)] 2)) (λ_ _=>trivial);obtain⟨i,Y⟩:∃i,(B++List.replicate e d).length=i:=⟨_,rfl⟩;have c9:i<=90:=by rw[<-Y];simp;omega
      have a8:=AB Y;rw[Y]at X;have s:=C.AA.size;clear U Q K O D Y;go_wp2_with fail;refine(Z.AA _).mono ?_;rintro e' p ⟨rfl,rfl⟩;go_wp2_with (at_builtin;(refine ER _ rfl _ _ 24 rfl w.heap.size 2 i0 (.int .i64 0) 1 8 Tryz.underlying24 hi b7 b1 b8 rfl (by decide) _ _ _ rfl X ⟨wr.heap.size,0,none⟩ 1 1 [.int .i64 (d:Int)] rfl rfl (Cw (cs:= #[.int .i64 (d:Int)]) (t:=2) (fr:=(0,0)) (Aj wr _)) (by simp[Value.oneCell']) (by decide) (by unfold maxLen;omega) (by omega) (by simp;omega) _ rfl ?_));intro g2 a5 w2 a3 u c1 b3;have j:=C.AA.alloc s (.cells #[.int .i64 (d:Int)] 2);have b2:=AB (show Below w.heap.size w w2 from j.grown u j.size (λg hg=>(Aq X g hg).1));have b0:=AB (show EA w.heap.size w2 (.slice (some ⟨g2,0,none⟩) (i+1) a5) (B++List.replicate (e+1) d) from by
       rw[<-mE];exact PL (by rw[a8.AA];exact a3))
      clear X a3 u c1 b3 j C s;go_wp2_with fail;go_roundw;case rel=>exact⟨F,e+1,rfl,c3,b0,b2⟩
      case measure=>simp[intOf];omega
     .have c0:((r:Int)==0)=false:=by simp;omega
      have a6:=AB (qc a.AA (Q.AA.fin (q:=d) (by rw[K];exact a4)));have a7:(B++List.replicate e d).length<=10*(d+1):=by simp;omega
      clear Q K O y a;go_wp2_with fail;refine(Z.AA _).mono ?_;rintro e' p ⟨rfl,rfl⟩;go_wp2_with fail;go_roundw;case rel=>exact⟨m',d+1,_,rfl,by go_num,a0.1,a0.2.1,by omega,by omega,a7,a6,D,C⟩
      case measure=>simp[intOf];omega
  .obtain rfl:d=8:=by omega
   have b5:¬((8:Nat):Int)<=7:=by decide
   have HR:=AB (show∀v,EA w.heap.size wr v B->fD R w (.returned (.tuple #[v,.bool ((m:Int)==1)])) wr from λv h=>by
    have b:=N.AA;have h8:Ii 8=[]:=rfl;rw[h8,Ef]at b;simp only[FP]at b;refine⟨v,?_,by rw[<-b.1];exact h,C.AA⟩;rw[<-b.2,show((m:Int)==1)=(m==1) from by rw[Bool.eq_iff_iff];simp;omega])
   have c2:=AB (HR.AA _ D.AA);clear D C HR N;go_wp2_with fail;exact Au (v:=.tuple #[u4,.bool ((m:Int)==1)]) (by simp[results,Tryz.results230,go_sem]) rfl c2.AA
theorem iZ:((List.range 41).all λn=>n==0||(decide ((Ef [2,3,5,7] n).1.length<=6)&&(Ef [2,3,5,7] n).1.all λp=>decide (2<=p)&&decide (p<=7)))=true:=by decide+kernel
def vZ (w:World)(e:Ending)(w':World):Prop:=∃(L:List Nat) (a:Option Addr) (c:Nat) (b:Bool),e= .returned (.tuple #[.slice a L.length c,.bool b])/\R1 w.heap.size w' L.length (.slice a L.length c)/\EA w.heap.size w' (.slice a L.length c) L/\L.length<=6/\(∀p∈L,2<=p/\p<=7)/\Below w.heap.size w w'
theorem qd (n:Nat)(C:1<=n)(K:n<=40)(w:World):Calls Tryz.prog 230 #[.int .i64 (n:Int)] w (vZ w):=by
 refine(mF n C (by omega) w).mono ?_;rintro e w' ⟨v,rfl,B,J⟩;have h:=List.all_eq_true.1 iZ n (Cg.2 (by omega));rw[OO,Mq,Ms,List.all_eq_true]at h;rcases h with h|⟨I,D⟩
 .have:n=0:=by simpa using h
  omega
 .obtain⟨a,c,rfl⟩:=II B;exact⟨_,a,c,_,rfl,⟨ints (Ef [2,3,5,7] n).1,by rw[BK],B⟩,B,I,λp F=>by have:=D p F;simpa using this,J⟩
theorem Li {B n c j:Nat}{w:World}{a:Option Addr}(h:R1 B w n (.slice a n c))(O:j<n):∃g D x,a=some ⟨g,0,none⟩/\w.cell? ⟨g,j,none⟩=some (.int .i64 x)/\w.frozen? ⟨g,j,none⟩=false/\w.heap[g]?=some (.cells D 2 (0,0))/\B<=g/\g<w.heap.size:=by
 obtain⟨l,L,I⟩:=h;rcases id I.2 with⟨F,N⟩|⟨g,cap,D,F,J,hg,_,_,_,K⟩
 .omega
 .simp only[Du]at F;obtain⟨rfl,-, -⟩:=F;have C:(vals l)[j]?=some (.int .i64 (l[j]'(by omega))):=by simp[vals]
  rw[<-K,Kb]at C;split at C
  .rw[Ma]at C;exact⟨g,D,_,rfl,by rw[Ar w g j D _ (0,0) hg];exact C,BP w g j D _ hg,hg,J,(Bt.1 hg).1⟩
  .cases C
theorem ic (L:List Int)(R:∀x∈L,x≠0)(hL:L.length<=100)(f:Nat)(V:f<=L.length)(x:Int)(v:Value)(w:World)(F:AP Any w v L):
  Calls Tryz.prog 231 #[v,.int .i64 (f:Int),.int .i64 x] w (ShR L.length w):=by
 obtain⟨a,c,rfl,_,_⟩:=Cz F;have N:=AB F;have r:=AB R;obtain⟨n,Q⟩:∃n,L.length=n:=⟨_,rfl⟩;have Y:=AB Q;rw[Q]at hL V N ⊢;have U:=Kt n (by omega) w;obtain⟨K,I⟩:∃K,K=w.alloc (.cells (madeCells #[.int .i64 0] n) 2):=⟨_,rfl⟩;rw[<-I]at U;obtain⟨g,hg⟩:∃g,w.heap.size=g:=⟨_,rfl⟩;have j:=AB (show R1 w.heap.size K n (.slice (some ⟨g,0,none⟩) n n) from⟨List.replicate n 0,by simp,by
  have h:=Own.made (B:=w.heap.size) w n AV (by unfold maxLen;omega);unfold Own at h;rw[Bp]at h;rw[I,<-hg];exact h⟩)
 have a0:=AB (show Below w.heap.size w K by rw[I];exact AY.alloc AV _);rw[hg]at U;have HG:=AB hg;clear F R Q I hg;go_enter Tryz.func231,Tryz.ntmps231;go_wp2_with fail;go_loopw [2,8] (λq O wr=>∃(x:Int) (i:Nat),i<=n/\q= .int .i64 x/\O= .int .i64 (i:Int)/\Hid (R1 w.heap.size wr n (.slice (some ⟨g,0,none⟩) n n))/\Hid (Below w.heap.size w wr)) (λ_ O _=>n-(intOf O).toNat);case atStart=>exact⟨x,f,V,rfl,rfl,j,a0⟩
 case round=>
  obtain⟨y,i,hi,rfl,rfl,C,D⟩:=hrel;by_cases S:i<n
  .have a2:(i:Int)<(n:Int):=by omega
   obtain⟨z,J⟩:∃z,L[i]?=some z:=⟨_,AU (by rw[Y.AA];exact S)⟩;have a3:¬z=0:=r.AA z (Af J);obtain⟨b,o,u,rfl,_,a5,a1,rfl⟩:=Ce (N.AA.keep (AO D.AA)) J;obtain⟨g',a6,x0,W,hc,b0,X,s,a8⟩:=Li C.AA S;obtain rfl:g=g':=by simpa using W
   have b1:¬b=g:=by
    have F:=Ce N.AA J;obtain⟨b',o',u',e,_,a7,_⟩:=F;simp only[EQ,Hr]at e;omega
   have Z:=AB (λt:Int=>(Ty.set1 (B:=w.heap.size) (b:=g) (i:=i) X t).one _ _ C.AA);have d:=AB (λt:Int=>D.AA.setCell (p:=⟨g,i,none⟩) s (.int .i64 t));have a4:i<=100:=by omega
   clear W X J C D;go_wp2_with fail;go_roundw;case rel=>exact⟨_,i+1,by omega,rfl,by go_num,AB (Z.AA _),AB (d.AA _)⟩
   case measure=>simp[intOf];omega
  .obtain rfl:n=i:=by omega
   have l:=AB (show ShR n w (.returned (.slice (some ⟨g,0,none⟩) n n)) wr from⟨g,n,rfl,C.AA,D.AA⟩);have a9:¬(n:Int)<(n:Int):=by omega
   clear C D;go_wp2_with fail;go_ret;exact l.AA
theorem NV (b:Int)(e:Nat)(F:e<=1000)(m:Int)(K:m≠0)(w:World):
  Calls Tryz.prog 232 #[.int .i64 b,.int .i64 (e:Int),.int .i64 m] w λe' w'=>∃r:Int,e'= .returned (.int .i64 r)/\w'=w:=by
 have Q:¬m=0:=K;go_enter Tryz.func232,Tryz.ntmps232;go_wp2_with fail;go_loopw [0,1,7] (λI ev L wr=>∃(b o:Int) (e:Nat),I= .int .i64 b/\L= .int .i64 o/\ev= .int .i64 (e:Int)/\e<=1000/\wr=w) (λ_ ev _ _=>(intOf ev).toNat);case atStart=>exact⟨_,_,e,rfl,rfl,rfl,F,rfl⟩
 case round=>
  obtain⟨b,o,e,rfl,rfl,rfl,F,rfl⟩:=hrel;by_cases W:0<e
  .have R:(0:Int)<(e:Int):=by omega
   obtain⟨p,B⟩:∃p,e%2=p:=⟨_,rfl⟩;obtain⟨q,C⟩:∃q,e/2=q:=⟨_,rfl⟩;have S:((e:Int)).tmod 2=(p:Int):=by
    have:=ML e 2;rw[B]at this;exact this
   have V:((e:Int)).tdiv 2=(q:Int):=by
    have:=UJ e 2;rw[C]at this;exact this
   have O:IntKind.i64.wrap (p:Int)=(p:Int):=Ac _ (by omega);have U:IntKind.i64.wrap (q:Int)=(q:Int):=Ac _ (by omega);have N:q<e:=by omega
   have D:q<=1000:=by omega
   have X:p<2:=by omega
   clear B C;by_cases J:p=1
   .subst J;go_wp2_with fail;go_roundw;case rel=>exact⟨_,_,q,rfl,rfl,rfl,D,trivial⟩
    case measure=>simp[intOf];omega
   .obtain rfl:p=0:=by omega
    go_wp2_with fail;go_roundw;case rel=>exact⟨_,_,q,rfl,rfl,rfl,D,trivial⟩
    case measure=>simp[intOf];omega
  .obtain rfl:e=0:=by omega
   go_wp2_with fail;go_ret;exact⟨_,rfl,rfl⟩
end Ku
namespace Lx
open RowKit AJ Bv Bl Ch Cr Bj JN EH Ku
def Mw (b:Nat)(w:World)(e:Ending)(w':World):Prop:=∃N,N<=b/\IU N w e w'
theorem R7 (n:Nat)(I:1<=n)(J:n<=40)(w:World):Calls Tryz.prog 230 #[.int .i64 (n:Int)] w λe w'=>∃(k:Nat) (L:List Int) (a:Option Addr) (c:Nat) (b:Bool),e= .returned (.tuple #[.slice a k c,.bool b])/\L.length=k/\AP Any w' (.slice a k c) L/\k<=6/\(∀p∈L,∃q:Nat,p=(q:Int)/\1<=q/\q<=7)/\Below w.heap.size w w':=by
 refine(qd n I J w).mono ?_;rintro e w' ⟨L,a,c,b,rfl,_,h,K,B,F⟩;refine⟨L.length,ints L,a,c,b,rfl,by rw[BK],Gw h (by rw[BK]),K,λp D=>?_,F⟩;obtain⟨q,C,rfl⟩:=BX.1 D;exact⟨q,rfl,by have:=B q C;omega,(B q C).2⟩
theorem Yp {B N g F C D:Nat}{w wq wr:World}{J K I:Option Addr}{b:Nat}(Q:N<=b)(O:PX B N wr g (.slice J N F) (.slice K N C) (.slice I N D))(L:Below w.heap.size w wr)(R:w.heap.size<B)(U:B<=wr.heap.size):
  Mw b w (.returned (.agg #[.slice J N F,.slice K N C,.slice I N D])) (((wr.setCell ⟨w.heap.size,0,none⟩ (.slice J N F)).setCell ⟨w.heap.size,1,none⟩ (.slice K N C)).setCell ⟨w.heap.size,2,none⟩ (.slice I N D)):=by
 refine⟨N,Q,_,_,_,rfl,?_,?_⟩
 .exact(O.2.2.ty (Ty.keep (S:=λk=>B<=k) ((((Keep.refl _ wr).setCell (by simp;omega) _).setCell (by simp;omega) _).setCell (by simp;omega) _) λ_ h=>h)).mono (by omega)
 .exact((L.setCell (p:=⟨w.heap.size,0,none⟩) AV _).setCell (p:=⟨w.heap.size,1,none⟩) AV _).setCell (p:=⟨w.heap.size,2,none⟩) AV _
theorem mG (n m:Nat)(hn:1<=n/\n<=40)(hm:1<=m/\m<=40)(r s:Int)(w:World):
  Calls Tryz.prog 180 #[.int .i64 (n:Int),.int .i64 (m:Int),.int .i64 r,.int .i64 s] w (Mw 12 w):=by
 have d3:=AB (λW=>R7 n hn.1 hn.2 W);have c8:=AB (λW=>R7 m hm.1 hm.2 W);have h9:¬(m:Int)=0:=by omega
 have j0:=AB hm;clear hn hm;go_enter Tryz.func180,Tryz.ntmps180;go_upto_region 1 with fail;obtain⟨w1,a2⟩:∃w1,w1=w.alloc CV:=⟨_,rfl⟩;rw[<-a2];have K1:=AB (show w1.heap[w.heap.size]?=some CV by rw[a2];exact Aj _ _);have d2:=AB (show Below w.heap.size w w1 by rw[a2];exact AY.alloc AV _);have b6:=AB (show w1.heap.size=w.heap.size+1 by rw[a2];simp);clear a2;go_upto_region 3 with(first|(go_at_call_of 230 n;refine(d3.AA _).mono ?_;rintro e w2 ⟨k,T,aT,cT,bT,rfl,d8,hT,i2,d5,a3⟩)|(go_at_call_of 230 m;refine(c8.AA _).mono ?_;rintro e w3 ⟨l,U,aU,cU,bU,rfl,c9,hU,i7,e3,a7⟩));have HT:=AB (hT.keep (AO (S:=Any) a7));have HU:=AB hU;have c3:=AB d8;have g0:=AB c9;have e6:=AB d5;have h0:=AB e3;have d6:=AB (d2.AA.trans ((a3.trans (a7.mono a3.size)).mono (by have:=b6.AA;omega)));have b5:=AB (show w.heap.size<w3.heap.size from by have h1:=b6.AA;have h2:=a3.size;have h3:=a7.size;omega);have K3:=AB (Dj (a3.trans (a7.mono a3.size)) (by have:=b6.AA;omega) K1.AA);clear hT hU d8 c9 d5 e3 a3 a7 K1 d2 b6 d3 c8;go_wp2_with fail;refine(QF k (by omega) aT cT T c3.AA _ HT.AA).mono ?_;rintro e w4 ⟨gO,cO,rfl,b9,a6⟩;have e7:=AB (HU.AA.keep (AO (S:=Any) a6));go_wp2_with (at_builtin;refine NS rfl _ _ rfl w3.heap.size gO k cO l cU T U aU rfl b9 rfl e7.AA (by omega) a6.size ?_);intro g5 c5 B b8 e9;obtain⟨N,hN⟩:∃N,k+l=N:=⟨_,rfl⟩;have HN:=AB hN;have h6:N<=12:=by omega
 have b2:=AB (show(T++U).length=N by rw[Bc,c3.AA,g0.AA,hN]);rw[hN]at b8 ⊢;have c2:=AB (Gw (l:=T++U) (by rw[vals,IM];exact b8) b2.AA);have a8:=AB (show Below w3.heap.size w3 B from a6.grown e9 a6.size (by intro b hb;injection hb with hb;have:=(Aq b9 gO rfl).1;omega));clear b9 b8 e9 a6 e7 hN;go_wp2_with fail;refine(Px N (by omega) (T++U) b2.AA _ _ c2.AA).mono ?_;rintro e w6 ⟨V,R,Z,O,X,L,rfl,d9,J⟩;go_upto_region 5 with fail;obtain⟨g,hg⟩:∃g,w6.heap.size=g:=⟨_,rfl⟩;obtain⟨wb,b3⟩:∃wb,wb=w6.alloc (.cells #[.slice V N R,.slice Z N O,.slice X N L] 28):=⟨_,rfl⟩;have d7:=AB (show PX B.heap.size N wb g (.slice V N R) (.slice Z N O) (.slice X N L) by rw[b3,<-hg];exact Iq d9 AV J.size);have f8:=AB (show AP Any B (.slice (some ⟨g5,0,none⟩) N c5) (T++U) from c2.AA);have e4:=AB (show Below B.heap.size B wb by rw[b3];exact J.alloc J.size _);rw[<-b3,hg];clear b3 hg d9 J c2;have i0:=AB (HT.AA.keep (AO (S:=Any) a8.AA));have f7:=AB (d6.AA.trans (a8.AA.mono (Ci b5.AA)));have b7:=AB (show w.heap.size<B.heap.size from Ah b5.AA a8.AA.size);have K5:=AB (Dj a8.AA b5.AA K3.AA);clear HT a8 d6 K3 HU b5;have e5:=AB (λ(j:Nat) (hj:j<=N) (x:Int) (W:World) (hk:Keep Any B W)=>show Calls Tryz.prog 231 #[.slice (some ⟨g5,0,none⟩) N c5,.int .i64 (j:Int),.int .i64 x] W (ShR N W) from by
  have h:=ic (T++U) (λy hy=>by
   rcases DY.1 hy with h|h
   .obtain⟨q,rfl,h1,_⟩:=e6.AA y h;omega
   .obtain⟨q,rfl,h1,_⟩:=h0.AA y h;omega) (by rw[b2.AA];omega) j (by rw[b2.AA];exact hj) x _ W (f8.AA.keep hk)
  rw[b2.AA]at h;exact h)
 go_wp2_with fail;go_loopw [16] (λiv wr=>∃i:Nat,i<=N/\iv= .int .i64 (i:Int)/\Hid (PX B.heap.size N wr g (.slice V N R) (.slice Z N O) (.slice X N L))/\Hid (Below B.heap.size B wr)) (λiv _=>N-(intOf iv).toNat);case atStart=>exact⟨0,AX _,rfl,d7,e4⟩
 case round=>
  clear d7 e4;obtain⟨i,hi,rfl,C,D⟩:=hrel;have h4:IntKind.i64.wrap ((i:Int)+1)=(i:Int)+1:=Ac _ (by omega);have c4:IntKind.i64.wrap ((k:Int)-1)=(k:Int)-1:=Ac _ (by omega);have Q:=D.AA.size;obtain⟨⟨p0,p1,p2⟩,-⟩:=Aa C.AA.1;have b1:=C.AA.lt;by_cases c0:i+1<N
  .have c1:(i:Int)+1<(N:Int):=by omega
   have h8:(0:Int)<=(i:Int):=by omega
   by_cases h5:(i:Int)=(k:Int)-1
   .have hd:((i:Int)==(k:Int)-1)=true:=by simp;omega
    go_wp2_with fail;go_roundw;case rel=>exact⟨i+1,by omega,by go_num,C,D⟩
    case measure=>simp[intOf];omega
   .have hd:((i:Int)==(k:Int)-1)=false:=by simp;omega
    have j1:(i:Int)<(N:Int):=by omega
    obtain⟨gp,rfl,K⟩:=C.AA.Ki (i:=i) (by omega);have I:=AB K;have a5:=Lb K C.AA;clear K;have a0:=AB (λ(W:World) (hk:Keep Any wr W)=>show Calls Tryz.prog 185 #[.int .i64 (N:Int),.int .i64 ((i:Int)+1)] W (ShR N W) from U3 N (i+1) (by omega) c0 W);go_upto_region 10 with fail;go_region_held3 (λw'=>(∀b o,b<wr.heap.size->¬b=gp->w'.cell? ⟨b,o,none⟩=wr.cell? ⟨b,o,none⟩)/\Keep (λk=>k≠gp) wr w')
     (first|exact KF (by repeat(first|exact Ab|exact AL|refine Keep.setCell ?_ (by simp) _|refine AR ?_ ‹_›)))
     (first|(go_at_call 185;refine(a0.AA _ (by repeat(first|exact Ab|exact AL|refine Keep.drew ?_|refine AR ?_ ‹_›))).mono ?_;rintro e w6 ⟨g6,a,rfl,a1,J⟩;have F:Below wr.heap.size wr w6:=(by first|exact J|exact(AY.drew).trans J);have f6:=(I.AA.below F).1;obtain⟨u6,s6⟩:=(I.AA.below F).cell)|fail)
    rename_i b0;clear b0;have a9:=AB (show PX B.heap.size N (w6.setCell ⟨gp,i,none⟩ (.slice (some ⟨g6,0,none⟩) N a)) g (.slice V N R) (.slice (some ⟨gp,0,none⟩) N O) (.slice X N L) from
     (I.AA.below F).put (C.AA.below F) (a1.mono (by first|exact Q|simpa using Q)))
    have a4:=AB (show Below B.heap.size B (w6.setCell ⟨gp,i,none⟩ (.slice (some ⟨g6,0,none⟩) N a)) from
     (D.AA.trans (F.mono Q)).setCell (p:=⟨gp,i,none⟩) I.AA.2.1 _)
    clear a1 J F f6 s6 a0 a5 I b1 p0 p1 p2 C D;go_wp2_with fail;go_roundw;case rel=>exact⟨i+1,by omega,by go_num,a9,a4⟩
    case measure=>simp[intOf];omega
  .have c1:¬(i:Int)+1<(N:Int):=by omega
   have b4:=D.AA.size;go_upto_if 59 with fail;go_cut [16] (λsv W=>Hid (PX B.heap.size N W g (.slice V N R) (.slice Z N O) (.slice X N L))/\Hid (Below B.heap.size B W));case first=>
    by_cases i4:0<k
    .have g7:(0:Int)<(k:Int):=by omega
     have g9:(k:Int)-1<(N:Int):=by have:=HN.AA;omega
     have g3:(0:Int)<=(k:Int)-1:=by omega
     obtain⟨Y,g8⟩:∃Y:Nat,Y+1=k:=⟨k-1,by omega⟩;have f3:(k:Int)-1=(Y:Int):=by omega
     replace c4:IntKind.i64.wrap ((k:Int)-1)=(Y:Int):=c4.trans f3;have j4:(Y:Int)<(N:Int):=by have:=HN.AA;omega
     obtain⟨gp,rfl,K⟩:=C.AA.Ki (i:=Y) (by have:=HN.AA;omega);have I:=AB K;have a5:=Lb K C.AA;have a0:=AB (λ(W:World) (hk:Keep Any wr W)=>e5.AA k (by have:=HN.AA;omega) s W ((AO D.AA).trans hk));clear K g9 g3 f3 g8;go_upto_region 12 with fail;go_region_held3 (λw'=>(∀b o,b<wr.heap.size->¬b=gp->w'.cell? ⟨b,o,none⟩=wr.cell? ⟨b,o,none⟩)/\Keep (λk=>k≠gp) wr w')
      (first|exact KF (by repeat(first|exact Ab|exact AL|refine Keep.setCell ?_ (by simp) _|refine AR ?_ ‹_›)))
      (first|(go_at_call 231;refine(a0.AA _ (by repeat(first|exact Ab|exact AL|refine Keep.drew ?_|refine AR ?_ ‹_›))).mono ?_;rintro e w6 ⟨g6,a,rfl,a1,J⟩;have F:Below wr.heap.size wr w6:=(by first|exact J|exact(AY.drew).trans J);have f6:=(I.AA.below F).1;obtain⟨u6,s6⟩:=(I.AA.below F).cell)|fail)
     rename_i b0;clear b0;have a9:=AB (show PX B.heap.size N (w6.setCell ⟨gp,Y,none⟩ (.slice (some ⟨g6,0,none⟩) N a)) g (.slice V N R) (.slice (some ⟨gp,0,none⟩) N O) (.slice X N L) from
      (I.AA.below F).put (C.AA.below F) (a1.mono (by first|exact b4|simpa using b4)))
     have a4:=AB (show Below B.heap.size B (w6.setCell ⟨gp,Y,none⟩ (.slice (some ⟨g6,0,none⟩) N a)) from
      (D.AA.trans (F.mono b4)).setCell (p:=⟨gp,Y,none⟩) I.AA.2.1 _)
     clear a1 J F f6 s6 a0 a5 I b1 p0 p1 p2 C D;go_wp2_with fail;go_meet;exact⟨a9,a4⟩
    .have g7:¬(0:Int)<(k:Int):=by omega
     go_wp2_with fail;go_meet;exact⟨C,D⟩
   case rest=>
    obtain⟨d1,e8⟩:=hcut;clear C D h4 hi p0 p1 p2 b1 Q b4;go_wp2_with fail;go_loopw [17,18] (λpv iv wr=>∃(x:Int) (i:Nat),i<=k/\pv= .int .i64 x/\iv= .int .i64 (i:Int)/\Hid (PX B.heap.size N wr g (.slice V N R) (.slice Z N O) (.slice X N L))/\Hid (Below B.heap.size B wr)) (λ_ iv _=>k-(intOf iv).toNat);case atStart=>exact⟨_,0,AX _,rfl,rfl,d1,e8⟩
    case round=>
     clear d1 e8;obtain⟨x,i,hi,rfl,rfl,C,D⟩:=hrel;have Q:=D.AA.size;by_cases c0:i<k
     .have c1:(i:Int)<(k:Int):=by omega
      have h8:(0:Int)<=(i:Int):=by omega
      have HI:=AB c0;go_wp2_with fail;go_loopw [19] (λjv wr=>∃j:Nat,k<=j/\j<=N/\jv= .int .i64 (j:Int)/\Hid (PX B.heap.size N wr g (.slice V N R) (.slice Z N O) (.slice X N L))/\Hid (Below B.heap.size B wr)) (λjv _=>N-(intOf jv).toNat);case atStart=>exact⟨k,Al _,by have:=HN.AA;omega,rfl,C,D⟩
      case round=>
       clear C D Q;obtain⟨j,f4,c7,rfl,C,D⟩:=hrel;have Q:=D.AA.size;by_cases g4:j<N
       .have j3:(j:Int)<(N:Int):=by omega
        have i9:(0:Int)<=(j:Int):=by omega
        obtain⟨d,hd⟩:∃d:Nat,d+i+1=j:=⟨j-i-1,by have:=HI.AA;omega⟩;have a2:IntKind.i64.wrap ((j:Int)-(i:Int))=(d:Int)+1:=by rw[Ac _ (by omega)];omega
        have f5:IntKind.i64.wrap ((d:Int)+1-1)=(d:Int):=by rw[Ac _ (by omega)];omega
        have i8:IntKind.i64.wrap (d:Int)=(d:Int):=Ac _ (by omega);have j7:(i:Int)<(N:Int):=by omega
        obtain⟨⟨p0,p1,p2⟩,-⟩:=Aa C.AA.1;have b1:=C.AA.lt;obtain⟨ni,d4⟩:∃ni,N-(i+1)=ni:=⟨_,rfl⟩;obtain⟨gc,gr,yr,rfl,d0,g1,K⟩:=C.AA.OV (i:=i) (j:=d) (by omega) (by omega);rw[d4]at d0;have j5:(d:Int)<(ni:Int):=by omega
        have I:=AB K;have a5:=Lb K C.AA;have f9:=VH (i:=0) C.AA K;have a0:=AB (λ(W:World) (hk:Keep Any wr W)=>e5.AA j c7 x W ((AO D.AA).trans hk));have HD:=AB hd;clear K d4 hd;go_upto_region 20 with fail;go_region_held3 (λw'=>(∀b o,b<wr.heap.size->¬b=gr->w'.cell? ⟨b,o,none⟩=wr.cell? ⟨b,o,none⟩)/\Keep (λk=>k≠gr) wr w')
         (first|exact KF (by repeat(first|exact Ab|exact AL|refine Keep.setCell ?_ (by simp) _|refine AR ?_ ‹_›)))
         (first|(go_at_call 231;refine(a0.AA _ (by repeat(first|exact Ab|exact AL|refine Keep.drew ?_|refine AR ?_ ‹_›))).mono ?_;rintro e w6 ⟨g6,a,rfl,a1,J⟩;have F:Below wr.heap.size wr w6:=(by first|exact J|exact(AY.drew).trans J);have f6:=(I.AA.below F).1;obtain⟨u6,s6⟩:=(I.AA.below F).cell)|fail)
        rename_i b0;clear b0;have a9:=AB (show PX B.heap.size N (w6.setCell ⟨gr,d,none⟩ (.slice (some ⟨g6,0,none⟩) N a)) g (.slice V N R) (.slice Z N O) (.slice (some ⟨gc,0,none⟩) N L) from
         (I.AA.below F).put (C.AA.below F) (a1.mono (by first|exact Q|simpa using Q)))
        have a4:=AB (show Below B.heap.size B (w6.setCell ⟨gr,d,none⟩ (.slice (some ⟨g6,0,none⟩) N a)) from
         (D.AA.trans (F.mono Q)).setCell (p:=⟨gr,d,none⟩) I.AA.2.1 _)
        clear a1 J F f6 s6 a0 a5 f9 I b1 p0 p1 p2 C D d0 g1 a2 f5;go_wp2_with fail;go_roundw;case rel=>exact⟨j+1,by omega,by omega,by go_num,a9,a4⟩
        case measure=>simp[intOf];omega
       .obtain rfl:N=j:=by omega
        have i6:¬(N:Int)<(N:Int):=by omega
        obtain⟨z,hz⟩:∃z,T[i]?=some z:=⟨_,AU (by rw[c3.AA];exact HI.AA)⟩;obtain⟨q,rfl,i5,j6⟩:=e6.AA z (Af hz);obtain⟨b,o,u,rfl,_,j2,i1,rfl⟩:=Ce (i0.AA.keep (AO D.AA)) hz;have g2:=AB (λW=>NV x q (by omega) (m:Int) h9 W);have h5:(i:Int)<(k:Int):=by have:=HI.AA;omega
        have i3:i<=100:=by omega
        clear hz g4 f4 c7;go_wp2_with fail;refine(g2.AA _).mono ?_;rintro e w8 ⟨y,rfl,rfl⟩;go_wp2_with fail;go_roundw;case rel=>exact⟨y,i+1,by have:=HI.AA;omega,rfl,by go_num,C,D⟩
        case measure=>have:=HI.AA;simp[intOf];omega
     .obtain rfl:k=i:=by omega
      have c1:¬(k:Int)<(k:Int):=by omega
      have LG:=AB (Dj D.AA b7.AA K5.AA);obtain⟨⟨e0,e1,e2⟩,-⟩:=Aa C.AA.1;obtain⟨⟨f0,f1,f2⟩,q0,q1,q2⟩:=Aa LG.AA;have h7:=AB (Yp (b:=12) (wq:=w) h6 C.AA (f7.AA.trans (D.AA.mono (Ci b7.AA))) b7.AA Q);clear C D;go_wp2_with fail;obtain⟨⟨z0,z1,z2⟩,-⟩:=Aa (Bi (x:=.slice V N R) (y:=.slice Z N O) (z:=.slice X N L) LG.AA);exact Au (v:=.agg #[.slice V N R,.slice Z N O,.slice X N L]) (by simp[results,Tryz.results180,go_sem,z0,z1,z2]) rfl h7.AA
end Lx
namespace QX
open RowKit AJ Bv Bl Ch Cr Bj JN EH Ku Lx
theorem R2.push {B n m:Nat}{C D:World}{v K u:Value}{us:List Value}(J:C.ownsRow B 24 1 v n us)(N:∀(i:Nat) u,us[i]?=some u->R1 B C m u)(O:R1 B C m u)
  (L:D.ownsRow B 24 1 K (n+1) (us++[u])) (hg:C.grownBy D v.ownBlock):R2 B D (List.replicate (n+1) m) K:=by
 have k:∀x,R1 B C m x->R1 B D m x:=λx I=>I.grown hg (I.apart J (by decide));refine⟨us++[u],by rw[Bp];exact L,λi q hi=>?_⟩;rw[Gg]at hi;split at hi
 .injection hi with hi;subst hi;rename_i Q;rcases CU i us.length with F|F
  .exact⟨_,by rw[DK F];exact AU F,k _ (N i _ (AU F))⟩
  .have:i=us.length:=by have:=J.1;omega
   exact⟨u,by rw[this,DC AV];simp,k _ O⟩
 .cases hi
def SS (n m:Nat)(w:World)(e:Ending)(w':World):Prop:=∃a c,e= .returned (.slice a n c)/\R2 w.heap.size w' (List.replicate n m) (.slice a n c)/\Below w.heap.size w w'
theorem Rh (n m:Nat)(hn:n<=100)(hm:m<=100)(a:Option Addr)(c:Nat)(w:World)(v:R2 0 w (List.replicate n m) (.slice a n c)):
  Calls Tryz.prog 100 #[.slice a n c] w (SS n m w):=by
 obtain⟨i0,hi,a6,a4,a7⟩:=Bd GJ;have HA:=AB v;have p:=AB (show R2 w.heap.size (w.alloc (.cells #[] 24)) (List.replicate 0 m) (.slice (some ⟨w.heap.size,0,none⟩) 0 0) from
  ⟨[],DL (base:=w.heap.size) (e:=24) (size:=1) w #[] 0 AV (AX _) rfl,λi n hi=>by simp at hi⟩)
 clear v;go_enter Tryz.func100,Tryz.ntmps100;go_wp2_with fail;go_loopw [3,4] (λov W wr=>∃i:Nat,i<=n/\W= .int .i64 (i:Int)/\Hid (R2 w.heap.size wr (List.replicate i m) ov)/\Hid (Below w.heap.size w wr)) (λ_ W _=>n-(intOf W).toNat);case atStart=>exact⟨0,AX _,rfl,p,AB (AY.alloc AV _)⟩
 case round=>
  clear p;obtain⟨i,b2,rfl,D,B⟩:=hrel;obtain⟨ao,co,rfl,_,_⟩:=D.AA.form;rw[Bp]at D ⊢;by_cases a3:i<n
  .have a9:(i:Int)<(n:Int):=by omega
   have b1:(0:Int)<=(i:Int):=by omega
   have K:=B.AA.size;obtain⟨ga,aa,ca,rfl,Q,N,O⟩:=OW HA.AA a3;have Q:=((AO (S:=Any) B.AA).cell trivial N).trans Q;have N:=Ah N K;have O:=AB ((Ty.below B.AA).one _ _ O);have b0:i<=100:=by omega
   obtain⟨l,h,Z⟩:=O.AA.sl;have s:=AB ((QF m hm aa ca l h wr (Z.mono λ_ _=>trivial)).mono (R':=ShR m wr) (by
    rintro e C ⟨g,c,rfl,ho,X⟩;exact⟨g,c,rfl,⟨l,h,ho⟩,X⟩))
   clear Z;go_wp2_with fail;refine s.AA.mono ?_;rintro e C ⟨L,J,rfl,u,Y⟩;have d:=AB ((u.mono K));obtain⟨us,V,r⟩:=(Ty.below Y).two _ _ D.AA;rw[Bp]at V;have q:=AB r;have U:=AB (B.AA.trans (Y.mono K));have z:=U.AA.size;have F:=Aw V (S:=Any) ((Keep.refl Any C).alloc (.cells #[.slice (some ⟨L,0,none⟩) m J] 24)) (λ_ _=>trivial);clear u Y r Q N O s D B K V;go_wp2_with (at_builtin;(refine ER _ rfl _ _ 25 rfl w.heap.size 24 i0 (.slice none 0 0) 1 24 Tryz.underlying25 hi a6 a4 a7 rfl (by decide) _ _ _ rfl F ⟨C.heap.size,0,none⟩ 1 1 [.slice (some ⟨L,0,none⟩) m J] rfl rfl (Cw (cs:= #[.slice (some ⟨L,0,none⟩) m J]) (t:=24) (fr:=(0,0)) (Aj C _)) (by simp[Value.oneCell']) (by decide) (by unfold maxLen;omega) (by omega) (by simp;omega) _ rfl ?_));intro g6 c6 w6 y R a5 a0;have HN:=AB (R2.push (m:=m) F (λj x hj=>(Ty.keep (S:=Any) ((Keep.refl _ C).alloc _) λ_ _=>trivial).one _ _ (by
    have a8:=(Ak.1 hj).1;have:=F.1;obtain⟨x',I,e2⟩:=q.AA j m (by rw[Gg,BQ (by omega)]);rw[hj]at I;injection I with I;rw[I];exact e2)) ((Ty.keep (S:=Any) ((Keep.refl _ C).alloc (.cells #[.slice (some ⟨L,0,none⟩) m J] 24)) λ_ _=>trivial).one _ _ d.AA) y R)
   have a2:=AB ((U.AA.alloc z _).grown R (by simp;omega) (by intro b X;exact(Aq F b X).1));clear y R a5 a0 F q d U z;go_wp2_with fail;go_roundw;case rel=>exact⟨i+1,by omega,by go_num,HN,a2⟩
   case measure=>simp[intOf];omega
  .obtain rfl:n=i:=by omega
   have b3:¬(n:Int)<(n:Int):=by omega
   have HF:=AB (show SS n m w (.returned (.slice ao n co)) wr from⟨_,_,rfl,D.AA,B.AA⟩);clear D B;go_wp2_with fail;go_ret;exact HF.AA
theorem qf (m:Nat)(hm:m<=100)(p:Int)(l:p≠0)(a:Option Addr)(r:Nat)(Z:Option Addr)(R:Nat)(w:World)(v:R1 0 w m (.slice a m r))(q:R2 0 w (List.replicate m m) (.slice Z m R)):
  Calls Tryz.prog 259 #[.int .i64 p,.slice a m r,.slice Z m R,.int .i64 (m:Int)] w (ShR m w):=by
 have HV:=AB v;have a2:=AB q;have b9:¬p=0:=l;have U:=Kt m (by omega) w;obtain⟨I,J⟩:∃I,I=w.alloc (.cells (madeCells #[.int .i64 0] m) 2):=⟨_,rfl⟩;rw[<-J]at U;obtain⟨g,hg⟩:∃g,w.heap.size=g:=⟨_,rfl⟩;have Y:=AB (show R1 w.heap.size I m (.slice (some ⟨g,0,none⟩) m m) from⟨List.replicate m 0,by simp,by
  have h:=Own.made (B:=w.heap.size) w m AV (by unfold maxLen;omega);unfold Own at h;rw[Bp]at h;rw[J,<-hg];exact h⟩)
 have s:=AB (show Below w.heap.size w I by rw[J];exact AY.alloc AV _);rw[hg]at U;have HG:=AB hg;clear v q J hg l;go_enter Tryz.func259,Tryz.ntmps259;go_wp2_with fail;go_loopw [10] (λO wr=>∃i:Nat,i<=m/\O= .int .i64 (i:Int)/\Hid (R1 w.heap.size wr m (.slice (some ⟨g,0,none⟩) m m))/\Hid (Below w.heap.size w wr)) (λO _=>m-(intOf O).toNat);case atStart=>exact⟨0,AX _,rfl,Y,s⟩
 case round=>
  clear Y s;obtain⟨i,hi,rfl,D,C⟩:=hrel;by_cases z:i<m
  .have b0:(i:Int)<(m:Int):=by omega
   have b8:(0:Int)<=(i:Int):=by omega
   have F:=AB z;go_wp2_with fail;go_loopw [11] (λL wr=>∃j:Nat,j<=m/\L= .int .i64 (j:Int)/\Hid (R1 w.heap.size wr m (.slice (some ⟨g,0,none⟩) m m))/\Hid (Below w.heap.size w wr)) (λL _=>m-(intOf L).toNat);case atStart=>exact⟨0,AX _,rfl,D,C⟩
   case round=>
    clear D C;obtain⟨j,hj,rfl,D,C⟩:=hrel;obtain⟨gb,ar,cr,rfl,N,a5,K⟩:=OW a2.AA F.AA;have a7:=((AO (S:=Any) C.AA).cell trivial a5).trans N;by_cases x:j<m
    .have a8:(j:Int)<(m:Int):=by omega
     have c0:(0:Int)<=(j:Int):=by omega
     obtain⟨gv,a9,xv,rfl,d,_,_,_,a0⟩:=Li HV.AA F.AA;have b3:=((AO (S:=Any) C.AA).cell trivial a0).trans d;obtain⟨gr,b4,xr,rfl,y,_,_,_,a3⟩:=Li K x;have c1:=((AO (S:=Any) C.AA).cell trivial a3).trans y;obtain⟨g',b2,x0,u,hc,b5,Q,a4,c2⟩:=Li D.AA x;obtain rfl:g=g':=by simpa using u
     have V:=AB (λt:Int=>(Ty.set1 (B:=w.heap.size) (b:=g) (i:=j) Q t).one _ _ D.AA);have X:=AB (λt:Int=>C.AA.setCell (p:=⟨g,j,none⟩) a4 (.int .i64 t));have a1:=AB (λ(W:World) (h:R1 w.heap.size W m (.slice (some ⟨g,0,none⟩) m m))=>(show R1 w.heap.size W.drew m (.slice (some ⟨g,0,none⟩) m m) from(Ty.keep (S:=Any) AL.drew λ_ _=>trivial).one _ _ h));have a6:j<=100:=by omega
     clear u Q D N K d y;go_upto_region 8 with fail;go_region_law (fail);all_goals
      go_wp2_with fail;go_roundw;case rel=>exact⟨j+1,by omega,by go_num,AB (by first|exact V.AA _|exact a1.AA _ (V.AA _)),AB (by first|exact X.AA _|exact(X.AA _).drew)⟩
      case measure=>simp[intOf];omega
    .obtain rfl:m=j:=by omega
     have b6:¬(m:Int)<(m:Int):=by omega
     have b7:(i:Int)<(m:Int):=by have:=F.AA;omega
     have b1:i<=100:=by omega
     clear N K;go_wp2_with fail;go_roundw;case rel=>exact⟨i+1,by have:=F.AA;omega,by go_num,D,C⟩
     case measure=>have:=F.AA;simp[intOf];omega
  .obtain rfl:m=i:=by omega
   have c3:¬(m:Int)<(m:Int):=by omega
   have HF:=AB (show ShR m w (.returned (.slice (some ⟨g,0,none⟩) m m)) wr from⟨g,m,rfl,D.AA,C.AA⟩);clear D C;go_wp2_with fail;go_ret;exact HF.AA
theorem jr (n m:Nat)(b0:n=m)(hm:m<=100)(p:Int)(l:p≠0)(a:Option Addr)(c:Nat)(R:Option Addr)(d:Nat)(w:World)(v:R2 0 w (List.replicate n m) (.slice a n c))(N:R2 0 w (List.replicate m m) (.slice R m d)):
  Calls Tryz.prog 233 #[.int .i64 p,.slice a n c,.slice R m d,.int .i64 (m:Int)] w (SS n m w):=by
 obtain⟨i0,hi,a7,a5,a8⟩:=Bd GJ;have HA:=AB v;have h:=AB (show R2 w.heap.size (w.alloc (.cells #[] 24)) (List.replicate 0 m) (.slice (some ⟨w.heap.size,0,none⟩) 0 0) from
  ⟨[],DL (base:=w.heap.size) (e:=24) (size:=1) w #[] 0 AV (AX _) rfl,λi n hi=>by simp at hi⟩)
 have a9:=AB N;have hn:n<=100:=by omega
 have a4:=AB l;clear N b0 l;clear v;go_enter Tryz.func233,Tryz.ntmps233;go_wp2_with fail;go_loopw [9,10] (λov Y wr=>∃i:Nat,i<=n/\Y= .int .i64 (i:Int)/\Hid (R2 w.heap.size wr (List.replicate i m) ov)/\Hid (Below w.heap.size w wr)) (λ_ Y _=>n-(intOf Y).toNat);case atStart=>exact⟨0,AX _,rfl,h,AB (AY.alloc AV _)⟩
 case round=>
  clear h;obtain⟨i,b5,rfl,C,B⟩:=hrel;obtain⟨ao,co,rfl,_,_⟩:=C.AA.form;rw[Bp]at C ⊢;by_cases a3:i<n
  .have b2:(i:Int)<(n:Int):=by omega
   have b4:(0:Int)<=(i:Int):=by omega
   have K:=B.AA.size;obtain⟨ga,aa,ca,rfl,U,O,Q⟩:=OW HA.AA a3;have U:=((AO (S:=Any) B.AA).cell trivial O).trans U;have O:=Ah O K;have Q:=AB ((Ty.below B.AA).one _ _ Q);have b3:i<=100:=by omega
   have s:=AB (qf m hm p a4.AA aa ca R d wr Q.AA ((Ty.below B.AA).two _ _ a9.AA));go_wp2_with fail;refine s.AA.mono ?_;rintro e F ⟨L,J,rfl,u,Z⟩;have g:=AB ((u.mono K));obtain⟨us,X,r⟩:=(Ty.below Z).two _ _ C.AA;rw[Bp]at X;have q:=AB r;have W:=AB (B.AA.trans (Z.mono K));have z:=W.AA.size;have D:=Aw X (S:=Any) ((Keep.refl Any F).alloc (.cells #[.slice (some ⟨L,0,none⟩) m J] 24)) (λ_ _=>trivial);clear u Z r U O Q s C B K X;go_wp2_with (at_builtin;(refine ER _ rfl _ _ 25 rfl w.heap.size 24 i0 (.slice none 0 0) 1 24 Tryz.underlying25 hi a7 a5 a8 rfl (by decide) _ _ _ rfl D ⟨F.heap.size,0,none⟩ 1 1 [.slice (some ⟨L,0,none⟩) m J] rfl rfl (Cw (cs:= #[.slice (some ⟨L,0,none⟩) m J]) (t:=24) (fr:=(0,0)) (Aj F _)) (by simp[Value.oneCell']) (by decide) (by unfold maxLen;omega) (by omega) (by simp;omega) _ rfl ?_));intro g6 c6 w6 y V a6 a0;have HN:=AB (R2.push (m:=m) D (λj x hj=>(Ty.keep (S:=Any) ((Keep.refl _ F).alloc _) λ_ _=>trivial).one _ _ (by
    have b1:=(Ak.1 hj).1;have:=D.1;obtain⟨x',I,e2⟩:=q.AA j m (by rw[Gg,BQ (by omega)]);rw[hj]at I;injection I with I;rw[I];exact e2)) ((Ty.keep (S:=Any) ((Keep.refl _ F).alloc (.cells #[.slice (some ⟨L,0,none⟩) m J] 24)) λ_ _=>trivial).one _ _ g.AA) y V)
   have a2:=AB ((W.AA.alloc z _).grown V (by simp;omega) (by intro b N;exact(Aq D b N).1));clear y V a6 a0 D q g W z;go_wp2_with fail;go_roundw;case rel=>exact⟨i+1,by omega,by go_num,HN,a2⟩
   case measure=>simp[intOf];omega
  .obtain rfl:n=i:=by omega
   have b6:¬(n:Int)<(n:Int):=by omega
   have HF:=AB (show SS n m w (.returned (.slice ao n co)) wr from⟨_,_,rfl,C.AA,B.AA⟩);clear C B;go_wp2_with fail;go_ret;exact HF.AA
end QX
end Go.Proofs.YtgjadpmbnejaoaaGreat
