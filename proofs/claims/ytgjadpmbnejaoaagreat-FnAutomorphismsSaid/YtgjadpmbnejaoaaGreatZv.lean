import Derived.Test.YtgjadpmbnejaoaaGreatZt
import Derived.Test.YtgjadpmbnejaoaaGreatZu
/-
  Lemmas for the law FnAutomorphisms, in short spelling.
-/
set_option linter.unusedVariables false
set_option linter.unusedSimpArgs false
set_option maxRecDepth 100000
set_option maxHeartbeats 40000000
namespace Go.Proofs.YtgjadpmbnejaoaaGreat
open RowKit
def DV (e:TypeId)(w:World)(g:Nat)(v:Value)(C:List Value):Prop:=
 ∃D c,v= .slice D C.length c/\C.length<=c/\c<=maxLen/\(0<c->∃off B,D=some ⟨g,off,none⟩/\w.heap[g]?=some (.cells B e (0,0))/\B.size=off+c/\∀(i:Nat) u,C[i]?=some u->B[off+i]?=some u)
theorem DV.keep {e:TypeId}{w w':World}{g:Nat}{v:Value}{B:List Value}{S:Nat->Prop}(h:DV e w g v B)(I:Keep S w w')(O:S g):DV e w' g v B:=by
 obtain⟨K,c,R,D,F,N⟩:=h;refine⟨K,c,R,D,F,λU=>?_⟩;obtain⟨off,C,J,e2,L,Q⟩:=N U;exact⟨off,C,J,by rw[I.block g O (Bt.1 e2).1];exact e2,L,Q⟩
theorem DV.Pv {B:Nat}{e:TypeId}{w:World}{g n c:Nat}{D:List Value}(h:w.ownsRow B e 1 (.slice (some ⟨g,0,none⟩) n c) n D):DV e w g (.slice (some ⟨g,0,none⟩) n c) D:=by
 have I:=h.1;rcases h.2 with⟨h,_⟩|⟨N,cap,F,h,O,K,R,L,Q,J⟩
 .simp at h
 .obtain⟨rfl,rfl⟩:g=N/\c=cap:=by simpa using h
  refine⟨_,c,by rw[I,GZ],by omega,L,λ_=>⟨0,F,rfl,K,by omega,λi u C=>?_⟩⟩;rw[<-J,Kb]at C;split at C
  .simpa using C
  .simp at C
theorem DV.empty (e:TypeId)(w:World)(g:Nat)(B:Option Addr):DV e w g (.slice B 0 0) []:=⟨B,0,rfl,Al _,AX _,λh=>absurd h (LY _)⟩
theorem DV.cell {e:TypeId}{w:World}{g:Nat}{v:Value}{B:List Value}(h:DV e w g v B){i:Nat}{u:Value}(C:B[i]?=some u):
  ∃off c,v= .slice (some ⟨g,off,none⟩) B.length c/\B.length<=c/\c<=maxLen/\g<w.heap.size/\w.cell? ⟨g,off+i,none⟩=some u:=by
 obtain⟨N,c,L,F,I,J⟩:=h;have hi:=(Ak.1 C).1;obtain⟨off,D,rfl,e2,O,K⟩:=J (by omega);exact⟨off,c,L,F,I,(Bt.1 e2).1,by rw[Ar w g _ D e (0,0) e2];exact K i u C⟩
theorem DV.form {e:TypeId}{w:World}{g:Nat}{v:Value}{C:List Value}(h:DV e w g v C):∃B c,v= .slice B C.length c/\C.length<=c/\c<=maxLen:=by
 obtain⟨B,c,F,D,I,_⟩:=h;exact⟨B,c,F,D,I⟩
theorem DV.rest {e:TypeId}{w:World}{g off m c:Nat}{u:Value}{B:List Value}(h:DV e w g (.slice (some ⟨g,off,none⟩) m c) (u::B))(U:m=B.length+1):
  DV e w g (.slice (some ⟨g,off+1,none⟩) B.length (c-1)) B/\(c=1->∀C,DV e w g (.slice (some ⟨g,C,none⟩) B.length (c-1)) B):=by
 obtain⟨N,J,R,F,S,O⟩:=h;obtain⟨rfl,_,rfl⟩:some ⟨g,off,none⟩=N/\m=(u::B).length/\c=J:=by simpa using R
 rw[DX]at F;obtain⟨I,D,L,e2,V,Q⟩:=O (by omega);obtain rfl:off=I:=by simpa using L
 refine⟨⟨_,c-1,rfl,by omega,by omega,λ_=>⟨off+1,D,rfl,e2,by omega,λi x K=>?_⟩⟩,λW C=>⟨_,c-1,rfl,by omega,by omega,λh=>by omega⟩⟩;have:=Q (i+1) x (by simpa using K);rwa[show off+1+i=off+(i+1) by omega]
section
variable {P:Program}
theorem fw (w:World)(t ty:TypeId)(e:TypeId)(i:TypeInfo)(z:Value)(U:Nat)(V:P.underlying t=some (.slice e))(hi:P.info? e=some i)(l:i.zero=some z)
  (R:i.size=1) (r:i.bytes=U) (a0:z.cells.size=1) (g:Nat) (v:Value) (B:List Value) (h:DV e w g v B) (K:Addr) (N:Nat) (u:Value) (hu:w.cell? K=some u) (h1:u.oneCell'=true)
  (d:B.length+1<=maxLen) (s:(B.length+1)*U<=140737488355328):
  ∃F C w',(Builtin.append_ #[t,t] ty #[v,.slice (some K) 1 N]).run P w= .ok C w'/\DV e w' F C (B++[u])/\w.grownBy w' (some g)/\(F=g\/w.heap.size<=F):=by
 obtain⟨W,c,rfl,h2,h3,X⟩:=h;have Y:∀j x,[u][j]?=some x->w.cell? (K.add j)=some x:=λj x D=>by
  match j,D with
  |0,D=>
   simp at D;subst D;have:K.add 0=K:=by unfold Addr.add;split<;>simp_all
   rw[this];exact hu
 have y:∀x∈[u],x.oneCell'=true:=λx I=>by rw[ES.1 I];exact h1
 have a:∀C w',w'.ownsRow w.heap.size e 1 C (B.length+1) (B++[u])->w.grownBy w' none->((Builtin.append_ #[t,t] ty #[.slice W B.length c,.slice (some K) 1 N]).run P w= .ok C w')->(∀k,C.ownBlock=some k->w.heap.size<=k)->
   ∃F C w',(Builtin.append_ #[t,t] ty #[.slice W B.length c,.slice (some K) 1 N]).run P w= .ok C w'/\DV e w' F C (B++[u])/\w.grownBy w' (some g)/\(F=g\/w.heap.size<=F):=by
  intro C w' p hg S J;obtain⟨F,cap,rfl,hb,a6⟩:=p.form (by omega);have:w.heap.size<=F:=J F rfl;exact⟨F,_,w',S,DV.Pv p,⟨hg.os,hg.tape,hg.output,hg.size,λk J _=>hg.block k J (by simp)⟩,.inr this⟩
 by_cases b:B.length+1<=c
 .obtain⟨off,O,rfl,e2,e3,Z⟩:=X (by omega);have a4:∀j,w.cell? ⟨g,j,none⟩=O[j]?:=λj=>Ar w g j O e (0,0) e2;have q:=run_append_room_cells (P:=P) w t ty e i V hi g off B.length c K 1 N [u] (by rw[R];rfl) Y y b
   (λj D=>by
    simp at D;subst D;rw[R,a4,Array.getElem?_eq_getElem (by omega)];rfl)
   (λj D=>by simp[World.frozen?,e2])
  have a5:w.setCells g (off+B.length*i.size) [u]=w.setCell ⟨g,off+B.length,none⟩ u:=by rw[R,GZ];rfl
  rw[a5]at q;refine⟨g,_,_,q,⟨_,c,by simp,by simpa using b,h3,λ_=>⟨off,O.set! (off+B.length) u,rfl,Gf w g _ O e u e2,by simpa using e3,λj x I=>?_⟩⟩,?_,.inl rfl⟩
  .rcases CU j B.length with D|D
   .rw[DK D]at I;rw[Array.set!_eq_setIfInBounds,Array.getElem?_setIfInBounds_ne (by omega)];exact Z j x I
   .rw[DC D]at I;obtain rfl:j=B.length:=by
     have:=(Ak.1 I).1;simp at this;omega
    simp at I;subst I;rw[Array.set!_eq_setIfInBounds,Array.getElem?_setIfInBounds_self_of_lt (by omega)]
  .exact⟨rfl,rfl,rfl,by simp[World.setCell],λk J a2=>JA w _ k u (λe=>a2 (by rw[e]))⟩
 .cases W with
  |none=>
   have a1:c=0:=by
    rcases Nat.eq_zero_or_pos c with h|h
    .exact h
    .obtain⟨_,_,h,_⟩:=X h;simp at h
   subst a1;obtain rfl:B=[]:=Di (by omega);obtain⟨C,w',S,Q,L,_⟩:=run_append_own (P:=P) w w.heap.size t ty e i z 1 U V hi l R r a0 (by omega) (.slice none 0 0) 0 [] (FY w _ e 1) K 1 N [u] rfl Y y d s AV;exact a C w' Q ⟨L.os,L.tape,L.output,L.size,λk J _=>L.block k J (by simp[Value.ownBlock])⟩ S λk J=>(Q.lt k J).1
  |some a'=>
   have a3:∀j x,B[j]?=some x->w.cell? (a'.add j)=some x:=λj x I=>by
    have D:=(Ak.1 I).1;obtain⟨off,O,ha,e2,e3,Z⟩:=X (by omega);obtain rfl:a'=⟨g,off,none⟩:=by simpa using ha
    rw[addr_add,Ar w g _ O e (0,0) e2];exact Z j x I
   obtain⟨C,w',S,Q,L⟩:=run_append_arg_grows (P:=P) w t ty e i z 1 U V hi l R r a0 (by omega) a' B.length c B (by omega) a3 K 1 N [u] rfl Y (by omega) d s;exact a C w' Q L S λk J=>(Q.lt k J).1
theorem WC (w:World){o:Oper}{a:Act}{K:Act->World->Prop}{Q:Exit->Act->World->Prop}(s x:Operand)(t:TypeId)(X:o.op= .call { callee:=.builtin .append,args:= #[s,x],argTypes:= #[t,t] })(e:TypeId)(i:TypeInfo)(z:Value)(I:Nat)(O:P.underlying t=some (.slice e))(hi:P.info? e=some i)(W:i.zero=some z)
  (N:i.size=1) (Y:i.bytes=I) (p:z.cells.size=1) (g:Nat) (v:Value) (C:List Value) (j:a.eval s=v) (h:DV e w g v C) (F:Addr) (J:Nat) (u:Value) (l:a.eval x= .slice (some F) 1 J) (b:w.cell? F=some u) (S:u.oneCell'=true)
  (V:C.length+1<=maxLen) (q:(C.length+1)*I<=140737488355328)
  (U:∀B D w',DV e w' B D (C++[u])->w.grownBy w' (some g)->(B=g\/w.heap.size<=B)->K (a.put o.dst D) w'):o.wp P a w K Q:=by
 obtain⟨B,D,w',Z,L,d,R⟩:=fw (P:=P) w t o.type e i z I O hi W N Y p g v C h F J u b S V q;unfold Oper.wp execOp;simp only[X,resolve,invoke,builtin,Sem.run_bind,Sem.run_pure,Mc,Mf,FC,Jb,j,l,Z];exact U B D w' L d R
theorem V4 (w:World){K:Array Oper}{rest:List Oper}{o:Oper}{a:Act}{Q:Exit->Act->World->Prop}(L:o.guard=none)(s x:Operand)(t:TypeId)(Y:o.op= .call { callee:=.builtin .append,args:= #[s,x],argTypes:= #[t,t] })(e:TypeId)(i:TypeInfo)(z:Value)(I:Nat)(R:P.underlying t=some (.slice e))(hi:P.info? e=some i)(X:i.zero=some z)
  (O:i.size=1) (Z:i.bytes=I) (q:z.cells.size=1) (g:Nat) (v:Value) (C:List Value) (l:a.eval s=v) (h:DV e w g v C) (F:Addr) (J:Nat) (u:Value) (p:a.eval x= .slice (some F) 1 J) (d:w.cell? F=some u) (U:u.oneCell'=true)
  (W:C.length+1<=maxLen) (b:(C.length+1)*I<=140737488355328)
  (V:∀B D w',DV e w' B D (C++[u])->w.grownBy w' (some g)->(B=g\/w.heap.size<=B)->wpList P K Q rest (a.put o.dst D) w'):wpList P K Q (o::rest) a w:=
 wpList_plain L λ_ r=>WC w s x t Y e i z I R hi X O Z q g v C l h F J u p d U W b λB D w' N j S=>r _ _ (V B D w' N j S)
theorem fq (w:World){L:Array Oper}{o:Oper}{a:Act}{K:Act->World->Prop}{Q:Exit->Act->World->Prop}{E:Prop}(N:o.guard=none)(s x:Operand)(t:TypeId)(Y:o.op= .call { callee:=.builtin .append,args:= #[s,x],argTypes:= #[t,t] })(e:TypeId)(i:TypeInfo)(z:Value)(F:Nat)(R:P.underlying t=some (.slice e))(hi:P.info? e=some i)(W:i.zero=some z)
  (O:i.size=1) (Z:i.bytes=F) (l:z.cells.size=1) (g:Nat) (v:Value) (B:List Value) (d:a.eval s=v) (h:DV e w g v B) (D:Addr) (J:Nat) (u:Value) (j:a.eval x= .slice (some D) 1 J) (b:w.cell? D=some u) (S:u.oneCell'=true)
  (V:B.length+1<=maxLen) (p:(B.length+1)*F<=140737488355328)
  (U:∀C I w',DV e w' C I (B++[u])->w.grownBy w' (some g)->(C=g\/w.heap.size<=C)->K (a.put o.dst I) w'):
  if Region.wanted o (yielded L a.tmps)=true then Oper.wp P o a w K Q else E:=by
 have X:Region.wanted o (yielded L a.tmps)=true:=by simp[Region.wanted,N]
 rw[BQ X];exact WC w s x t Y e i z F R hi W O Z l g v B d h D J u j b S V p U
end
namespace Oq
open RowKit AJ BU Dr
def fQ (p:Prop)(w:World)(e:Ending)(w':World):Prop:=∃b:Bool,e= .returned (.bool b)/\(b=true↔p)/\w=w'
theorem WV (w:World)(v:Value)(x:List Nat)(C:AP Any w v (ints x)):
  Calls Tryz.prog 170 #[v] w λe w'=>e= .returned (.int .i64 (dep x:Int))/\w=w':=by
 have W:(x.length:Int)<=9223372036854775807:=by
  obtain⟨_,_,_,R,N,_⟩:=C;rw[BK]at R;unfold maxLen at N;omega
 obtain⟨Z,d,rfl,_⟩:=C.open;have S:=AB C;clear C;go_enter Tryz.func170,Tryz.ntmps170;go_wp2_with fail;go_loop [7] (λF=>∃k:Nat,k<=x.length/\F= .int .i64 (k:Int)/\Hid (∀j,j<k->x[j]?=some 0)) (λF=>x.length-(intOf F).toNat);case atStart=>exact⟨0,AX _,rfl,AB (λj h=>absurd h (CS _))⟩
 case round=>
  obtain⟨k,K,rfl,B⟩:=hrel;by_cases L:k<x.length
  .obtain⟨a,ha⟩:∃a,x[k]?=some a:=⟨_,AU L⟩;obtain⟨b,o,rfl,_,V,Y⟩:=S.AA.at ha;by_cases D:a=0
   .subst D;have O:=AB (show∀j,j<k+1->x[j]?=some 0 from λj Q=>by
     rcases DF.1 Q with h|h
     .exact B.AA j h
     .rw[h];exact ha)
    clear ha B;go_wp2_with fail;go_round;case rel=>exact⟨k+1,by omega,by go_num,O⟩
    case measure=>simp[intOf];omega
   .have U:((a:Int) !=0)=true:=by simp;omega
    have I:=AB (show dep x=k from Jy x k B.AA (λX J=>by rw[ha]at J;cases J;exact D) K);clear ha B D;go_wp2_with fail;go_ret;exact⟨by rw[I.AA];rfl,rfl⟩
  .obtain rfl:k=x.length:=by omega
   have I:=AB (show dep x=x.length from Jy x _ B.AA (λa ha=>by have:=(Ak.1 ha).1;omega) K);clear B;go_wp2_with fail;go_ret;exact⟨by rw[I.AA];rfl,rfl⟩
theorem lG (w:World)(v:Value)(x:List Nat)(C:AP Any w v (ints x)):
  Calls Tryz.prog 107 #[v] w (fQ (dep x=x.length) w):=by
 have W:(x.length:Int)<=9223372036854775807:=by
  obtain⟨_,_,_,R,N,_⟩:=C;rw[BK]at R;unfold maxLen at N;omega
 obtain⟨Z,d,rfl,_⟩:=C.open;have S:=AB C;clear C;go_enter Tryz.func107,Tryz.ntmps107;go_wp2_with fail;go_loop [3] (λF=>∃k:Nat,k<=x.length/\F= .int .i64 (k:Int)/\Hid (∀j,j<k->x[j]?=some 0)) (λF=>x.length-(intOf F).toNat);case atStart=>exact⟨0,AX _,rfl,AB (λj h=>absurd h (CS _))⟩
 case round=>
  obtain⟨k,K,rfl,B⟩:=hrel;by_cases L:k<x.length
  .obtain⟨a,ha⟩:∃a,x[k]?=some a:=⟨_,AU L⟩;obtain⟨b,o,rfl,_,V,Y⟩:=S.AA.at ha;by_cases D:a=0
   .subst D;have O:=AB (show∀j,j<k+1->x[j]?=some 0 from λj Q=>by
     rcases DF.1 Q with h|h
     .exact B.AA j h
     .rw[h];exact ha)
    clear ha B;go_wp2_with fail;go_round;case rel=>exact⟨k+1,by omega,by go_num,O⟩
    case measure=>simp[intOf];omega
   .have U:((a:Int) !=0)=true:=by simp;omega
    have I:=AB (show dep x=k from Jy x k B.AA (λX J=>by rw[ha]at J;cases J;exact D) K);clear ha B D;go_wp2_with fail;go_ret;exact⟨false,rfl,⟨λh=>Bool.noConfusion h,λh=>by have:=I.AA;omega⟩,rfl⟩
  .obtain rfl:k=x.length:=by omega
   have I:=AB (show dep x=x.length from Jy x _ B.AA (λa ha=>by have:=(Ak.1 ha).1;omega) K);clear B;go_wp2_with fail;go_ret;exact⟨true,rfl,⟨λ_=>I.AA,λ_=>rfl⟩,rfl⟩
def eu (m a:Int):Nat->Int×Int×Int×Int
 |0=>(m,a,0,1)
 |j+1=>match eu m a j with
  |(r,n,x,y)=>if n=0 then(r,n,x,y)else(n,r-r.tdiv n*n,y,x-r.tdiv n*y)
theorem iC (x m:Int)(C:0<m)(N:m<=1000)(Q: -1000<=x)(K:x<=1000)(w:World):
  Calls Tryz.prog 218 #[.int .i64 x,.int .i64 m] w λe w'=>e= .returned (.int .i64 (x%m))/\w=w':=by
 have L:m≠0:=by omega
 have O: -m<x.tmod m/\x.tmod m<m:=by
  have I:=Int.tmod_lt_of_pos x C;have F: -m<x.tmod m:=by
   exact Int.lt_tmod_of_pos x C
  exact⟨F,I⟩
 have B:x.tmod m%m=x%m:=by rw[Int.tmod_def,Int.sub_eq_add_neg,<-Int.mul_neg,Int.add_mul_emod_self_left]
 have D:(x.tmod m+m).tmod m=x%m:=by rw[P8 (by omega),Int.add_emod_right,B]
 have J:IntKind.i64.wrap (x.tmod m+m)=x.tmod m+m:=Ac _ (by omega);go_enter Tryz.func218,Tryz.ntmps218;go_wp2_with fail;go_ret;exact⟨VG (by first|(simp;done)|(simp;exact B)|exact D),rfl⟩
def Vx (m a:Int)(j:Nat):Bool:=match eu m a j with
 |(r,n,x,y)=>decide (-1000<=r/\r<=1000)&&decide (0<=n/\n<=1000)&&decide (-1000<=x/\x<=1000)&&decide (-1000<=y/\y<=1000)&&
  (if n=0 then decide (r=1)&&decide (a*(x%m)%m=1)
   else decide (-1000<=r.tdiv n/\r.tdiv n<=1000)&&decide (-1000<=r.tdiv n*n/\r.tdiv n*n<=1000)&&decide (-1000<=r.tdiv n*y/\r.tdiv n*y<=1000)&&decide (0<=r-r.tdiv n*n/\r-r.tdiv n*n<n)&&decide (j<6))
theorem tV:([2,3,5,7].all λm=>(List.range m).all λa=>a==0||(List.range 7).all λj=>Vx (m:Nat) (a:Nat) j)=true:=by decide+kernel
theorem vL {m a:Nat}(D:m=2\/m=3\/m=5\/m=7)(I:0<a)(h:a<m)(j:Nat)(F:j<=6):Vx m a j=true:=by
 have C:=List.all_eq_true.1 tV m (by simp;omega);have B:=List.all_eq_true.1 C a (Cg.2 h);rw[OO]at B;rcases B with B|B
 .simp at B;omega
 .exact List.all_eq_true.1 B j (Cg.2 (by omega))
def Lf (m a:Nat)(w:World)(e:Ending)(w':World):Prop:=∃c:Nat,e= .returned (.tuple #[.int .i64 (c:Int),.bool true])/\c<m/\a*c%m=1/\w=w'
theorem gB (m a:Nat)(Y:m=2\/m=3\/m=5\/m=7)(U:0<a)(h:a<m)(w:World):
  Calls Tryz.prog 171 #[.int .i64 (a:Int),.int .i64 (m:Int)] w (Lf m a w):=by
 have g:=AB (λj N=>vL Y U h j N);have a6:m<=7:=by omega
 have a5:0<m:=by omega
 have a1:=AB (λ(x:Int) C p W=>iC x m (by omega) (by omega) C p W);clear Y U h;go_enter Tryz.func171,Tryz.ntmps171;go_wp2_with fail;go_loop [6,7,8,9] (λrv K s z=>∃(j:Nat) (r n x y:Int),j<=6/\rv= .int .i64 r/\K= .int .i64 n/\s= .int .i64 x/\z= .int .i64 y/\Hid (eu m a j=(r,n,x,y))) (λ_ K _ _=>(intOf K).toNat);case atStart=>exact⟨0,_,_,_,_,AX _,rfl,rfl,rfl,rfl,AB rfl⟩
 case round=>
  obtain⟨j,r,n,x,y,N,rfl,rfl,rfl,rfl,O⟩:=hrel;have F:=g.AA j N;unfold Vx at F;rw[O.AA]at F;simp only[Mq,Ms]at F;obtain⟨⟨⟨⟨hr,hn⟩,C⟩,hy⟩,B⟩:=F;by_cases D:n=0
  .subst D;rw[BQ rfl]at B;simp only[Mq,Ms]at B;obtain⟨rfl,hinv⟩:=B;have a0:0<=x%(m:Int)/\x%(m:Int)<(m:Int):=⟨Int.emod_nonneg _ (by omega),Int.emod_lt_of_pos _ (by omega)⟩;obtain⟨c,Q⟩:∃c:Nat,x%(m:Int)=(c:Int):=⟨(x%(m:Int)).toNat,by omega⟩;have HR:=AB (show Lf m a w (.returned (.tuple #[.int .i64 (c:Int),.bool true])) w from⟨c,rfl,by omega,by
    rw[Q]at hinv
    exact_mod_cast hinv,rfl⟩)
   have V:=AB (a1.AA x C.1 C.2 w);rw[Q]at V;clear hinv a0 Q hr hn C hy;go_wp2_with fail;refine V.AA.mono ?_;rintro e R ⟨rfl,rfl⟩;go_wp2_with fail;exact Au (v:=.tuple #[.int .i64 (c:Int),.bool true]) (by simp[results,Tryz.results171,go_sem]) rfl HR.AA
  .rw[BF D]at B;simp only[Mq,Ms]at B;obtain⟨⟨⟨⟨u,S⟩,X⟩,Z⟩,a7⟩:=B;have a3:(n !=0)=true:=by simpa using D
   have I:=AB (show eu m a (j+1)=(n,r-r.tdiv n*n,y,x-r.tdiv n*y) by rw[eu,O.AA];exact BF D);obtain⟨q,d⟩:∃q,r.tdiv n=q:=⟨_,rfl⟩;rw[d]at u S X Z I;have R:IntKind.i64.wrap (q*n)=q*n:=Ac _ (by omega);have w2:IntKind.i64.wrap (q*y)=q*y:=Ac _ (by omega);have l:IntKind.i64.wrap (r-q*n)=r-q*n:=Ac _ (by omega);have b:IntKind.i64.wrap (x-q*y)=x-q*y:=Ac _ (by omega);have w5:IntKind.i64.wrap q=q:=Ac _ (by omega);have a4:¬n=0:=D;obtain⟨J,a2⟩:∃J,q*n=J:=⟨_,rfl⟩;obtain⟨L,i⟩:∃L,q*y=L:=⟨_,rfl⟩;rw[a2]at S Z R l I;rw[i]at X w2 b I;clear O;go_wp2_with fail;go_round;case rel=>exact⟨j+1,n,r-J,y,x-L,by omega,rfl,by first|rfl|simp[*],rfl,by first|rfl|simp[*],I⟩
   case measure=>simp[intOf, *];omega
end Oq
namespace Vi
open RowKit AJ BU CP
theorem tX {T:Tw}(hT:Wf T)(hg:AJ.Good T){x y u z:List Nat}(B:El T x)(C:El T y)(F:El T u)(D:El T z)(L:mul T x u=AJ.one T)(K:mul T y z=mul T x y):mul T u z=Gen.com (mul T) (Ai T) x y:=by
 have G:=BA hT hg;have J:=Bz hT C B;have I:=Br hT hg J;unfold Gen.com;refine G.Js J (Bz hT F D) (Bz hT I.1 (Bz hT B C)) ?_;rw[<-G.Ag J I.1 (Bz hT B C),I.2.1,G.eL (Bz hT B C),G.Ag C B (Bz hT F D),<-G.Ag B F D,L,G.eL D,K]
theorem V7 (T:Tw)(hT:Wf T)(U:Small T)(hg:AJ.Good T)(w:World)(b o:Nat)(F L:Value)(x y:List Nat)(N:BH Any w b o (AZ T))(ha:AP Any w F (ints x))(V:DW.NN F)(d:AP Any w L (ints y))(i:DW.NN L)(K:El T x)(O:El T y):
  Calls Tryz.prog 98 #[.pointer (some ⟨b,o,none⟩),F,L] w (CX (ints (Gen.com (mul T) (Ai T) x y)) w):=by
 have a0:=AB (QA.O7 T hT U 0 (AX _) hg w b o F x N ha V K);have a3:=AB (λW (X:Below w.heap.size w W)=>OQ.TJ T hT U 0 (AX _) hg W b o F L x y (N.keep (AO X)) (ha.keep (AO X)) V (d.keep (AO X)) i K O);have a1:=AB (λW r vz u z hp C B h3 h4 h5=>DW.Qc T hT U 0 (AX _) hg W b o r vz u z hp C B h3 h4 h5);have HP:=AB N;have v:=AB (λu z I D C B=>tX hT hg K O (u:=u) (z:=z) I D C B);clear N ha d V i K O;go_enter Tryz.func98,Tryz.ntmps98;go_wp2_with fail;refine a0.AA.mono ?_;rintro e q ⟨u,⟨I,C⟩,g1,c1,rfl,g,Y⟩;have j:=AB Y;have R:=AB (And.intro I C);have a4:=AB g;have a5:=AB (a3.AA q Y);clear I C g Y;go_wp2_with fail;refine a5.AA.mono ?_;rintro e Z ⟨z,⟨D,B⟩,g2,c2,rfl,l,Q⟩;have J:=AB (j.AA.trans (Q.mono j.AA.size));have a2:=AB (show Calls Tryz.prog 145 #[.pointer (some ⟨b,o,none⟩),.slice (some ⟨g1,0,none⟩) (ints (pad 0 u)).length c1,.slice (some ⟨g2,0,none⟩) (ints (pad 0 z)).length c2] Z (CX (ints (Gen.com (mul T) (Ai T) x y)) Z) from by
  have h:=a1.AA Z _ _ u z (HP.AA.keep (AO J.AA)) ((a4.AA.keep (S:=λ_=>True) (AO Q) (λ_ _=>trivial)).sl.mono (λ_ _=>trivial)) (DW.RL _ _ _) (l.sl.mono (λ_ _=>trivial)) R.AA.1 D;have e:=v.AA u z R.AA.1 D R.AA.2 B;have e2:pad 0 (mul (T.drop 0) u z)=Gen.com (mul T) (Ai T) x y:=e;rw[e2]at h;exact h)
 clear D B l Q;go_wp2_with fail;refine a2.AA.mono ?_;rintro e s ⟨g3,c3,rfl,a,p⟩;have HR:=AB (show CX (ints (Gen.com (mul T) (Ai T) x y)) w (.returned (.slice (some ⟨g3,0,none⟩) (ints (Gen.com (mul T) (Ai T) x y)).length c3)) s from⟨_,_,rfl,a.mono J.AA.size,J.AA.trans (p.mono J.AA.size)⟩);clear a p;go_wp2_with fail;go_ret;exact HR.AA
end Vi
namespace NH
open RowKit AJ Gen CP Fe Dr IB DW
theorem Zn {T:Tw}{d:Nat}{x:List Nat}(B:A (El T) fF d x)(D:d<=T.length):d<=dep x:=by
 have F:=Ad B.1;refine Nat.le_of_not_lt λh=>?_;obtain⟨a,ha,C⟩:=Uk (x:=x) (by omega);have:=B.2 _ h;rw[Rm ha]at this;exact C this
noncomputable abbrev JH (T:Tw)(tl:List (List Nat))(x:List Nat):Nat×List Nat:=Co (mul T) (AJ.one T) (oF T) fF (Ao tl) T.length 0 x
theorem rD {T:Tw}{tl:List (List Nat)}{x:List Nat}(C:El T x)(h:dep x=T.length):JH T tl x=(T.length,x):=by
 have B:=Oa C;rw[h]at B;have:=PQ (m:=mul T) (e:=AJ.one T) (o:=oF T) (f:=fF) (Ao tl) T.length 0 0 x (λi hi=>B.2 i (by omega));rw[Iw,CK]at this;unfold JH;rw[this];rfl
theorem Zo {T:Tw}{tl:List (List Nat)}{x:List Nat}(C:El T x)(h:dep x<T.length):JH T tl x=Co (mul T) (AJ.one T) (oF T) fF (Ao tl) (T.length-dep x-1+1) (dep x) x:=by
 have B:=Oa C;have:=PQ (m:=mul T) (e:=AJ.one T) (o:=oF T) (f:=fF) (Ao tl) (dep x) (T.length-dep x-1+1) 0 x (λi hi=>B.2 i (by omega));rw[show dep x+(T.length-dep x-1+1)=T.length by omega,CK]at this;exact this
theorem Rs {T:Tw}{x:List Nat}(C:El T x)(h:dep x<T.length):∃a,x[dep x]?=some a/\a≠0/\fF (dep x) x=a:=by
 obtain⟨a,ha,B⟩:=Uk (x:=x) (by rw[Ad C];exact h);exact⟨a,ha,B,Rm ha⟩
theorem nG {T:Tw}{tl:List (List Nat)}{x:List Nat}(B:El T x)(h:dep x<T.length)(F:Ao tl (dep x)=none):JH T tl x=(dep x,x):=by
 obtain⟨a,ha,D,C⟩:=Rs B h;rw[Zo B h,Nf (by rw[C];exact D) F]
theorem tY {T:Tw}(hT:Wf T)(hg:AJ.Good T){tl:List (List Nat)}(O:Tb (El T) T.length fF (Ao tl)){x y:List Nat}(I:El T x)(h:dep x<T.length)(J:Ao tl (dep x)=some y){a:Nat}(ha:x[dep x]?=some a):
  JH T tl x=JH T tl (mul T (npow (mul T) (AJ.one T) y (oF T (dep x)-a)) x)/\El T (mul T (npow (mul T) (AJ.one T) y (oF T (dep x)-a)) x)/\dep x+1<=dep (mul T (npow (mul T) (AJ.one T) y (oF T (dep x)-a)) x)/\
   (mul T (npow (mul T) (AJ.one T) y (oF T (dep x)-a)) x)[dep x]?=some 0:=by
 obtain⟨R,C,L,D⟩:=Rs I h;rw[ha]at C;injection C with C;subst C;have F:=Ct hT hg;obtain⟨_,N,K⟩:=O _ y J;have B:=VX F h (Oa I) N K;rw[D]at B;refine⟨?_,B.1,Zn B (by omega),?_⟩
 .rw[Zo I h,MO (by rw[D];exact L) J,D];have:=PQ (m:=mul T) (e:=AJ.one T) (o:=oF T) (f:=fF) (Ao tl) (dep x+1) (T.length-dep x-1) 0 _ (λi hi=>B.2 i (by omega));rw[show dep x+1+(T.length-dep x-1)=T.length by omega,CK]at this;exact this.symm
 .have:=B.2 (dep x) (by omega);unfold fF at this;have Q:=Ad B.1;rw[BG,AU (by omega)]at this;rw[AU (by omega)];simp at this;rw[this]
def Fw (gb B:Nat):Nat->Prop:=λk=>k≠gb/\k≠B
def JI (S:Nat->Prop)(w:World)(u:Value)(r:List Nat):Prop:=(r=[]/\u= .slice none 0 0)\/(r≠[]/\AP S w u (ints r))
theorem JI.keep {S S':Nat->Prop}{w w':World}{u:Value}{r:List Nat}(h:JI S w u r)(B:Keep S' w w')(C:∀k,S k->S' k):JI S w' u r:=
 h.imp id λh=>⟨h.1,h.2.keep (B.mono C)⟩
theorem JI.mono {S S':Nat->Prop}{w:World}{u:Value}{r:List Nat}(h:JI S w u r)(B:∀k,S k->S' k):JI S' w u r:=
 h.imp id λh=>⟨h.1,h.2.mono B⟩
theorem JI.any {S:Nat->Prop}{w:World}{u:Value}{r:List Nat}(h:JI S w u r):AP Any w u (ints r):=by
 rcases h with⟨rfl,rfl⟩|⟨_,h⟩
 .exact RN _ _
 .exact h.mono λ_ _=>trivial
theorem Cx.mono {R R':World->Value->List Nat->Prop}{w:World}{g:Nat}{tl:List (List Nat)}(h:Cx R w g tl)(C:∀v r,R w v r->R' w v r):Cx R' w g tl:=by
 obtain⟨us,F,B,J⟩:=h;exact⟨us,F,B,λi r u D I=>C _ _ (J i r u D I)⟩
structure DT (w:World)(b o sb gb:Nat)(S:Nat->Prop)(n:Nat)(tl:List (List Nat)):Prop where
 hs:sb<w.heap.size
 c0:w.cell? ⟨sb,0,none⟩=some (.pointer (some ⟨b,o,none⟩))
 c1:w.cell? ⟨sb,1,none⟩=some (.slice (some ⟨gb,0,none⟩) n n)
 ne:sb≠gb
 tb:Cx (JI S) w gb tl
 ln:tl.length=n
theorem DT.keep {w w':World}{b o C gb n:Nat}{S S':Nat->Prop}{tl:List (List Nat)}(h:DT w b o C gb S n tl)(B:Keep S' w w')(D:S' C)(F:S' gb)(J:∀k,S k->S' k):DT w' b o C gb S n tl:=
 ⟨Ah h.hs B.size,by rw[B.cell D h.hs];exact h.c0,by rw[B.cell D h.hs];exact h.c1,h.ne,h.tb.keep B F (λv r I=>I.keep B J),h.ln⟩
theorem DT.below {w w':World}{b o B gb n:Nat}{S:Nat->Prop}{tl:List (List Nat)}(h:DT w b o B gb S n tl)(C:Below w.heap.size w w'):DT w' b o B gb S n tl:=
 h.keep (S':=Any) (AO C) trivial trivial λ_ _=>trivial
theorem DT.mono {w:World}{b o B gb n:Nat}{S S':Nat->Prop}{tl:List (List Nat)}(h:DT w b o B gb S n tl)(C:∀k,S k->S' k):DT w b o B gb S' n tl:=
 ⟨h.hs,h.c0,h.c1,h.ne,Cx.mono h.tb (λv r D=>D.mono C),h.ln⟩
theorem DT.put {w:World}{b o D gb n d:Nat}{S:Nat->Prop}{tl:List (List Nat)}{u:Value}{y:List Nat}(h:DT w b o D gb S n tl)(K:¬S gb)(J:AP S w u (ints y))(F:y≠[]):DT (w.setCell ⟨gb,d,none⟩ u) b o D gb S n (tl.set d y):=by
 have C:Keep S w (w.setCell ⟨gb,d,none⟩ u):=AL.setCell (p:=⟨gb,d,none⟩) K u;have B:Keep (λk=>k≠gb) w (w.setCell ⟨gb,d,none⟩ u):=AL.setCell (p:=⟨gb,d,none⟩) (λh=>h rfl) u;exact⟨Ah h.hs C.size,by rw[B.cell h.ne h.hs];exact h.c0,by rw[B.cell h.ne h.hs];exact h.c1,h.ne,h.tb.set d (λ_ _ _ _=>trivial) (λv r I=>I.keep C λ_ h=>h) (.inr ⟨F,J⟩),by simp[h.ln]⟩
theorem Ps {S:Nat->Prop}{w:World}{v:Value}{l:List Int}(h:AP S w v l):AP (λk=>S k/\k<w.heap.size) w v l:=by
 obtain⟨K,c,O,C,F,D,L⟩:=h;exact⟨K,c,O,C,F,D,λi x I=>by obtain⟨b,o,J,e2,B,N⟩:=L i x I;exact⟨b,o,J,⟨e2,B⟩,B,N⟩⟩
theorem Od {gb C D:Nat}{w w':World}{v:Value}{l:List Int}(h:AP (Fw gb C) w v l)(hg:w.grownBy w' (some C))(F:D=C\/w.heap.size<=D):AP (Fw gb D) w' v l:=by
 have B:Keep (λk=>Fw gb C k/\k<w.heap.size) w w':=Keep.grown hg λk B e=>B.1.2 (by injection e);exact((Ps h).keep B).mono λk B=>⟨B.1.1,λe=>by
  rcases F with rfl|F
  .exact B.1.2 e
  .have:=B.2;omega⟩
theorem rE {gb B C:Nat}{w w':World}{v:Value}{r:List Nat}(h:JI (Fw gb B) w v r)(hg:w.grownBy w' (some B))(D:C=B\/w.heap.size<=C):JI (Fw gb C) w' v r:=
 h.imp id λh=>⟨h.1,Od h.2 hg D⟩
def QZ (w:World)(gb B:Nat)(us:List Value)(rows:List (List Nat)):Prop:=us.length=rows.length/\∀(i:Nat) (r:List Nat) (u:Value),rows[i]?=some r->us[i]?=some u->AP (Fw gb B) w u (ints r)
theorem QZ.below {w w':World}{gb B:Nat}{us:List Value}{rows:List (List Nat)}(h:QZ w gb B us rows)(F:Below w.heap.size w w'):QZ w' gb B us rows:=
 ⟨h.1,λi r u C D=>(h.2 i r u C D).keep (AO F)⟩
structure EP (n:Nat)(w W:World)(b o sb gb gq:Nat)(v:Value)(us:List Value)(tl rows:List (List Nat)):Prop where
 sq:DT W b o sb gb (Fw gb gq) n tl
 wi:DV 24 W gq v us
 qu:QZ W gb gq us rows
 gr:w.grownBy W (some gb)
 bq:w.heap.size<=gq/\gq<W.heap.size
 bs:sb<w.heap.size/\gb<w.heap.size
theorem nH {a b c:World}{row:Option Nat}(B:a.grownBy b row)(C:b.grownBy c row):a.grownBy c row:=EO.FW B C
theorem tZ {a b:World}{g gb:Nat}(h:a.grownBy b (some g)){w:World}(B:w.grownBy a (some gb))(hg:w.heap.size<=g):w.grownBy b (some gb):=
 ⟨h.os.trans B.os,h.tape.trans B.tape,h.output.trans B.output,Ae B.size h.size,λk C D=>(h.block k (Ah C B.size) (λe=>by injection e with e;omega)).trans (B.block k C D)⟩
theorem EP.below {n:Nat}{w W F:World}{b o D gb C:Nat}{v:Value}{us:List Value}{tl rows:List (List Nat)}(h:EP n w W b o D gb C v us tl rows)(B:Below W.heap.size W F):EP n w F b o D gb C v us tl rows:=
 ⟨h.sq.below B,h.wi.keep (S:=Any) (AO B) trivial,h.qu.below B,nH h.gr (EO.NR B),⟨h.bq.1,Ah h.bq.2 B.size⟩,h.bs⟩
theorem EP.push {n:Nat}{w W K:World}{b o U gb I J:Nat}{v L u:Value}{us:List Value}{tl rows:List (List Nat)}{r:List Nat}(h:EP n w W b o U gb I v us tl rows)
  (p:AP (Fw gb I) W u (ints r)) (Q:DV 24 K J L (us++[u])) (hg:W.grownBy K (some I)) (F:J=I\/W.heap.size<=J):EP n w K b o U gb J L (us++[u]) tl (rows++[r]):=by
 have C:Keep (λk=>k≠I) W K:=Keep.grown hg λk C e=>C (by injection e);have N:=h.bq;have X:=h.bs;have z:=h.gr.size;refine⟨⟨Ah h.sq.hs C.size,by rw[C.cell (by omega) h.sq.hs];exact h.sq.c0,by rw[C.cell (by omega) h.sq.hs];exact h.sq.c1,h.sq.ne,?_,h.sq.ln⟩,Q,⟨by simp[h.qu.1],λi Y g B D=>?_⟩,tZ hg h.gr N.1,?_,X⟩
 .obtain⟨d,O,Z,q⟩:=h.sq.tb;refine⟨d,⟨O.1,?_⟩,Z,λi r v B s=>rE (q i r v B s) hg F⟩;rcases O.2 with⟨h,_⟩|⟨y,cap,l,h,a,R,x⟩
  .cases h
  .cases h;refine .inr ⟨gb,_,l,rfl,a,?_,x⟩;rw[C.block gb (by omega) (Bt.1 R).1];exact R
 .rcases CU i rows.length with hi|hi
  .rw[DK hi]at B;rw[DK (by rw[h.qu.1];exact hi)]at D;exact Od (h.qu.2 i Y g B D) hg F
  .rw[DC hi]at B;rw[DC (by rw[h.qu.1];exact hi),h.qu.1]at D;rcases S:i-rows.length with _|j
   .rw[S]at B D;simp at B D;subst B;subst D;exact Od p hg F
   .rw[S]at B;simp at B
 .obtain⟨off,c,_,_,_,V,_⟩:=Q.cell (i:=us.length) (u:=u) (by simp);refine⟨?_,V⟩;rcases F with rfl|F
  .exact N.1
  .omega
theorem EP.put {n d:Nat}{w W:World}{b o J gb C:Nat}{v u:Value}{us:List Value}{tl rows:List (List Nat)}{y:List Nat}(h:EP n w W b o J gb C v us tl rows)(O:AP (Fw gb C) W u (ints y))(L:y≠[]):
  EP n w (W.setCell ⟨gb,d,none⟩ u) b o J gb C v us (tl.set d y) rows:=by
 have B:Keep (λk=>k≠gb) W (W.setCell ⟨gb,d,none⟩ u):=AL.setCell (p:=⟨gb,d,none⟩) (λh=>h rfl) u;have I:=h.bq;have K:=h.bs;refine⟨h.sq.put (λh=>h.1 rfl) O L,h.wi.keep B (by omega),⟨h.qu.1,λi r v N Q=>(h.qu.2 i r v N Q).keep (B.mono λk B=>B.1)⟩,?_,⟨I.1,Ah I.2 B.size⟩,K⟩;have hg:=h.gr;exact⟨hg.os,hg.tape,hg.output,Ae hg.size B.size,λk F D=>(B.block k (λe=>D (by rw[e])) (Ah F hg.size)).trans (hg.block k F D)⟩
theorem EP.pop {n:Nat}{w W:World}{b o I gb B off m c:Nat}{u:Value}{us:List Value}{tl rows:List (List Nat)}{r:List Nat}(h:EP n w W b o I gb B (.slice (some ⟨B,off,none⟩) m c) (u::us) tl (r::rows))(O:m=rows.length+1):
  EP n w W b o I gb B (.slice (some ⟨B,off+1,none⟩) rows.length (c-1)) us tl rows/\(c=1->∀F,EP n w W b o I gb B (.slice (some ⟨B,F,none⟩) rows.length (c-1)) us tl rows):=by
 have D:us.length=rows.length:=by have:=h.qu.1;simpa using this
 have J:QZ W gb B us rows:=⟨D,λi K R L N=>h.qu.2 (i+1) K R (by simpa using L) (by simpa using N)⟩;have C:=h.wi.rest (by rw[D];exact O);rw[D]at C;exact⟨⟨h.sq,C.1,J,h.gr,h.bq,h.bs⟩,λQ F=>⟨h.sq,C.2 Q F,J,h.gr,h.bq,h.bs⟩⟩
theorem EP.head {n:Nat}{w W:World}{b o O gb B:Nat}{v:Value}{us:List Value}{tl rows:List (List Nat)}{r:List Nat}(h:EP n w W b o O gb B v us tl (r::rows)):
  ∃u L off c,us=u::L/\v= .slice (some ⟨B,off,none⟩) (rows.length+1) c/\rows.length+1<=c/\c<=maxLen/\W.cell? ⟨B,off,none⟩=some u/\AP (Fw gb B) W u (ints r):=by
 obtain⟨C,N⟩:=h.qu;cases us with
 |nil=>simp at C
 |cons u us=>
  obtain⟨off,c,I,D,K,_,F⟩:=h.wi.cell (i:=0) (u:=u) rfl;have J:us.length=rows.length:=by simpa using C
  rw[DX,J]at I D;exact⟨u,us,off,c,rfl,I,D,K,by rw[Iw]at F;exact F,N 0 r u rfl rfl⟩
theorem EP.form {n:Nat}{w W:World}{b o J gb I:Nat}{v:Value}{us:List Value}{tl rows:List (List Nat)}(h:EP n w W b o J gb I v us tl rows):∃B c,v= .slice B rows.length c/\rows.length<=c/\c<=maxLen:=by
 obtain⟨B,c,D,C,F⟩:=h.wi.form;rw[h.qu.1]at D C;exact⟨B,c,D,C,F⟩
end NH
namespace QU
open RowKit AJ Gen CP Fe Dr IB DW Oq NH
def Jk (n:Nat)(y:List Nat)(w:World)(e:Ending)(w':World):Prop:=∃g c,e= .returned (.slice (some ⟨g,0,none⟩) n c)/\Own w.heap.size w' (.slice (some ⟨g,0,none⟩) n c) (ints y)/\Below w.heap.size w w'
theorem Jk.of {n:Nat}{y:List Nat}{w w':World}{e:Ending}(h:CX (ints y) w e w')(D:y.length=n):Jk n y w e w':=by
 obtain⟨g,c,C,B,F⟩:=h;rw[BK,D]at C B;exact⟨g,c,C,B,F⟩
theorem dP (T:Tw)(hT:Wf T)(I:Small T)(hg:AJ.Good T)(W:World)(b o:Nat)(B:Value)(y:List Nat)(K:Nat)(F:K<=1000)(D:BH Any W b o (AZ T))(ha:AP Any W B (ints y))(C:El T y):
  Calls Tryz.prog 172 #[.pointer (some ⟨b,o,none⟩),B,.int .i64 (K:Int)] W (Jk T.length (npow (mul T) (AJ.one T) y K) W):=
 (Oc.NV T hT I 0 (AX _) hg W b o B y K F D ha C).mono λ_ _ h=>Jk.of h (Ad ((BA hT hg).npow C K))
theorem wL (T:Tw)(hT:Wf T)(I:Small T)(hg:AJ.Good T)(W:World)(b o:Nat)(B C:Value)(x y:List Nat)(L:BH Any W b o (AZ T))(ha:AP Any W B (ints x))(K:NN B)(J:AP Any W C (ints y))(F:El T x)(D:El T y):
  Calls Tryz.prog 145 #[.pointer (some ⟨b,o,none⟩),B,C] W (Jk T.length (mul T x y) W):=
 (DW.Qc T hT I 0 (AX _) hg W b o B C x y L ha K J F D).mono λ_ _ h=>Jk.of h (Ad (Bz hT F D))
theorem wM (T:Tw)(hT:Wf T)(L:Small T)(hg:AJ.Good T)(K:0<T.length)(W:World)(b o:Nat)(D I:Value)(x y:List Nat)(N:BH Any W b o (AZ T))(ha:AP Any W D (ints x))(J:AP Any W I (ints y))(C:El T x)(B:El T y):
  Calls Tryz.prog 98 #[.pointer (some ⟨b,o,none⟩),D,I] W (Jk T.length (Gen.com (mul T) (Ai T) x y) W):=
 (Vi.V7 T hT L hg W b o D I x y N ha (Je ha (by rw[Ad C];exact K)) J (Je J (by rw[Ad B];exact K)) C B).mono λ_ _ h=>Jk.of h (Ad (by
  have F:=Ct hT hg;exact F.G.cl (F.iM (F.G.cl B C)) (F.G.cl C B)))
def VP (n b o:Nat)(w:World)(e:Ending)(w':World):Prop:=
 ∃B gb,e= .returned (.pointer (some ⟨B,0,none⟩))/\w.heap.size<=gb/\w.heap.size<=B/\DT w' b o B gb (λk=>k≠gb) n (List.replicate n [])/\Below w.heap.size w w'
theorem TW (T:Tw)(C:T.length<=6)(w:World)(b o:Nat)(F:BH Any w b o (AZ T)):
  Calls Tryz.prog 113 #[.pointer (some ⟨b,o,none⟩)] w (VP T.length b o w):=by
 obtain⟨_,Q,X,d,V,g,i,J,B⟩:=F;obtain⟨j,Y,N,K,W,a,rfl,rfl,rfl,L,U,Z⟩:=B.open;have O:=Ea.SX T.length C;have I:=AB (show VP T.length b o w (.returned (.pointer (some ⟨w.heap.size+1,0,none⟩))) ((w.alloc (.cells (madeCells #[.slice none 0 0] T.length) 24)).alloc (.cells #[.pointer (some ⟨b,o,none⟩),.slice (some ⟨w.heap.size,0,none⟩) T.length T.length] 172)) from by
  refine⟨w.heap.size+1,w.heap.size,rfl,Al _,Nat.le_succ _,⟨by simp,?_,?_,by omega,?_,by simp⟩,?_⟩
  .have h:=Aj (w.alloc (.cells (madeCells #[.slice none 0 0] T.length) 24)) (.cells #[.pointer (some ⟨b,o,none⟩),.slice (some ⟨w.heap.size,0,none⟩) T.length T.length] 172);rw[show(w.alloc (.cells (madeCells #[.slice none 0 0] T.length) 24)).heap.size=w.heap.size+1 by simp]at h;rw[Ar _ _ _ _ _ (0,0) h];rfl
  .have h:=Aj (w.alloc (.cells (madeCells #[.slice none 0 0] T.length) 24)) (.cells #[.pointer (some ⟨b,o,none⟩),.slice (some ⟨w.heap.size,0,none⟩) T.length T.length] 172);rw[show(w.alloc (.cells (madeCells #[.slice none 0 0] T.length) 24)).heap.size=w.heap.size+1 by simp]at h;rw[Ar _ _ _ _ _ (0,0) h];rfl
  .have h:=Cx.made (R:=JI (λk=>k≠w.heap.size)) w T.length (by unfold maxLen;omega) (.inl ⟨rfl,rfl⟩);exact h.keep (S:=Any) (AL.alloc _) trivial (λv r D=>D.keep (S':=Any) (AL.alloc _) (λ_ _=>trivial))
  .exact(AY.alloc AV _).alloc (by simp) _)
 clear B;go_enter Tryz.func113,Tryz.ntmps113;go_wp2_with fail;go_ret;exact I.AA
def VK (T:Tw)(S:Nat->Prop)(tl:List (List Nat))(x:List Nat)(w:World)(e:Ending)(w':World):Prop:=
 ∃v,e= .returned v/\AP S w' v (ints (JH T tl x).2)/\El T (JH T tl x).2/\Below w.heap.size w w'
theorem nJ (T:Tw)(hT:Wf T)(X:Small T)(hg:AJ.Good T)(S:Nat->Prop)(w:World)(b o sb gb:Nat)(tl:List (List Nat))(vx:Value)(x:List Nat)(hP:BH Any w b o (AZ T))(hQ:DT w b o sb gb S T.length tl)(hS:∀k,w.heap.size<=k->S k)
  (a3:Tb (El T) T.length fF (Ao tl)) (D:AP S w vx (ints x)) (hE:El T x):
  Calls Tryz.prog 169 #[.pointer (some ⟨sb,0,none⟩),vx] w (VK T S tl x w):=by
 have HP:=AB hP;have HQ:=AB hQ;have HX:=AB D;have HE:=AB hE;have HS:=AB hS;have d2:=AB a3;have c3:=AB X;have d5:=AB (λx y D h ht a ha=>tY hT hg a3 (x:=x) (y:=y) D h ht (a:=a) ha);have b7:=AB (λx (D:El T x) h=>rD (tl:=tl) D h);have a9:=AB (λx (D:El T x) h ht=>nG (tl:=tl) D h ht);have HG:=AB (BA hT hg);have d7:=AB (λW va y K hK hp ha hy=>dP T hT X hg W b o va y K hK hp ha hy);have c8:=AB (λW va vb y z hp h1 h2 h3 h4 h5=>wL T hT X hg W b o va vb y z hp h1 h2 h3 h4 h5);have b0:=AB (λW v y h=>WV W v y h);have f0:=λ(w:World) (a:Option Addr) (n c:Nat)=>run_neq_slice_nil (P:=Tryz.prog) w 24 2 a n c Tryz.underlying24;have d3:x.length=T.length:=Ad hE;have f4:=X.1;obtain⟨aX,cX,rfl,c2⟩:=D.open;rw[d3]at HX c2 ⊢;clear hP hQ D hE hS a3 hT hg X;go_enter Tryz.func169,Tryz.ntmps169;go_wp2_with fail;refine(b0.AA w _ x (HX.AA.mono (λ_ _=>trivial))).mono ?_;rintro e w1 ⟨rfl,rfl⟩;go_wp2_with fail;go_loopw [1,5] (λxv dv wr=>∃(y:List Nat) (a:Option Addr) (c:Nat),xv= .slice a T.length c/\dv= .int .i64 (dep y:Int)/\Hid (AP S wr (.slice a T.length c) (ints y))/\Hid (El T y)/\Hid (JH T tl x=JH T tl y)/\Hid (Below w.heap.size w wr)) (λ_ dv _=>T.length-(intOf dv).toNat);case atStart=>exact⟨x,aX,cX,rfl,rfl,HX,HE,AB rfl,AB AY⟩
 case round=>
  obtain⟨y,a,c,rfl,rfl,hY,C,g,I⟩:=hrel;have e1:dep y<=T.length:=by have:=Rl y;rwa[Ad C.AA]at this
  obtain⟨d,hd⟩:∃d,dep y=d:=⟨_,rfl⟩;rw[hd]at e1;have B:=AB hd;simp only[hd];clear hd;have a2:=AB (HP.AA.keep (AO I.AA));have N:=AB (HQ.AA.below I.AA);by_cases F:d<T.length
  .have f5:(d:Int)<(T.length:Int):=by omega
   have g3:(0:Int)<=(d:Int):=by omega
   have e0:decide ((d:Int)<(T.length:Int))=true:=by simp;omega
   obtain⟨r,R⟩:∃r,tl[d]?=some r:=⟨_,AU (by rw[N.AA.ln];exact F)⟩;obtain⟨u,b4,_,J⟩:=N.AA.tb.at R;have s0:=N.AA.c0;have s1:=N.AA.c1;rcases J with⟨rfl,rfl⟩|⟨b3,J⟩
   .have HR:=AB (show VK T S tl x w (.returned (.slice a T.length c)) wr from⟨_,rfl,by rw[g.AA,a9.AA y C.AA (by rw[B.AA];exact F) (by rw[B.AA];exact KS R)];exact hY.AA,by rw[g.AA,a9.AA y C.AA (by rw[B.AA];exact F) (by rw[B.AA];exact KS R)];exact C.AA,I.AA⟩);clear R F;go_wp2_with fail;go_ret;exact HR.AA
   .have b5:=AB (GU R b3);have a6:=AB (d2.AA d r b5.AA).2.1.1;have b1:r.length=T.length:=Ad a6.AA;obtain⟨aR,cR,rfl,_⟩:=AP.open J;rw[b1]at b4 J;have d9:=AB (J.mono (S':=Any) (λ_ _=>trivial));obtain⟨i,Z,rfl⟩:∃i Z,aR=some ⟨i,Z,none⟩:=by
     obtain⟨i,Z,h,_⟩:=AP.at J (j:=0) (q:=r[0]'(by omega)) (AU _);exact⟨i,Z,h⟩
    obtain⟨s,p,e3,e5⟩:=Rs C.AA (by rw[B.AA];exact F);rw[B.AA]at p;obtain⟨bY,oY,rfl,_,f9,e8⟩:=AP.at hY.AA p;obtain⟨L,U⟩:∃L,T[d]?=some L:=⟨_,AU F⟩;have f2:L.o<=7:=c3.AA.2 L (Af U);have e7:s<L.o:=by
     obtain⟨L',a1,e6⟩:=Gb C.AA p;rw[U]at a1;injection a1 with a1;rw[a1];exact e6
    have b9:oF T d=L.o:=He U;obtain⟨Y,l,V,Q⟩:=d5.AA y r C.AA (by rw[B.AA];exact F) (by rw[B.AA];exact b5.AA) s (by rw[B.AA];exact p);rw[B.AA,b9]at Y l V Q;obtain⟨k,hk⟩:∃k,L.o-s=k:=⟨_,rfl⟩;rw[hk]at Y l V Q;have c9:IntKind.i64.wrap ((L.o:Int)-(s:Int))=(k:Int):=by rw[Ac _ (by omega)];omega
    have f1:k<=7:=by omega
    obtain⟨z,hz⟩:∃z,z=mul T (npow (mul T) (AJ.one T) r k) y:=⟨_,rfl⟩;rw[<-hz]at Y l V Q;have O:=AB (And.intro hz (And.intro Y (And.intro l (And.intro V Q))));have d6:z[d]?=some 0:=Q;obtain⟨e9,g2,vO,vP,vC,p0,p1,p2,hv⟩:=a2.AA;obtain⟨aO,cO,aP,cP,aC,cC,rfl,rfl,rfl,f7,f8,g8⟩:=hv.open;obtain⟨bO,oO,rfl,_,g0,d0⟩:=hv.ord U;have c4:=AB (HG.AA.npow a6.AA k);have g1:=N.AA.hs;have g7:=N.AA.tb.lt;have d1:=AB (hY.AA.mono (S':=Any) (λ_ _=>trivial));clear R b3 J p e3 e5 U e7 b9 hz Y l V Q hv e9 hk F b1;go_wp2_with fail;go_region_held3 (λw'=>(∀b o,b<wr.heap.size->w'.cell? ⟨b,o,none⟩=wr.cell? ⟨b,o,none⟩)/\Keep (λ_=>True) wr w')
     (first|exact Ap (by repeat(first|exact Ab|exact AL|refine AR ?_ ‹_›)))
     (first|(go_at_call 172;refine(d7.AA _ (.slice (some ⟨i,Z,none⟩) T.length cR) r k (by omega) (a2.AA.keep (by repeat(first|exact Ab|exact AL|refine AR ?_ ‹_›))) (d9.AA.keep (by repeat(first|exact Ab|exact AL|refine AR ?_ ‹_›))) a6.AA).mono ?_;rintro e w5 ⟨g5,c5,rfl,a8,a5⟩)|(have gg:=a5;clear gg;go_at_call 145;refine(c8.AA _ _ (.slice (some ⟨bY,oY,none⟩) T.length c) (npow (mul T) (AJ.one T) r k) y (a2.AA.keep (by repeat(first|exact Ab|exact AL|refine AR ?_ ‹_›))) (a8.sl.mono (λ_ _=>trivial)) (RL _ _ _) (d1.AA.keep (by repeat(first|exact Ab|exact AL|refine AR ?_ ‹_›))) c4.AA C.AA).mono ?_;rintro e w6 ⟨g6,c6,rfl,a0,b2⟩))
    rename_i e2;clear e2;have a7:Below wr.heap.size wr w5:=(AY.drew).trans a5;have a4:=a7.size;have b6:Below wr.heap.size wr w6:=a7.trans (b2.mono a4);rw[<-O.AA.1]at a0;obtain⟨f6,_⟩:=a0.cell (j:=d) (a:=0) (by rw[Dt,O.AA.2.2.2.2];rfl);have d4:=AB (I.AA.trans (b6.mono I.AA.size));have b8:=AB (show AP S w6 (.slice (some ⟨g6,0,none⟩) T.length c6) (ints z) from a0.sl.mono λk hk=>HS.AA k (Ae (Ae I.AA.size a4) hk));have g4:=O.AA.2.2.2.1;have f3:dep z<=T.length:=by have:=Rl z;rwa[Ad O.AA.2.2.1]at this
    have d8:=AB (g.AA.trans O.AA.2.1);have e4:=AB O.AA.2.2.1;have c7:=AB (b0.AA w6 (.slice (some ⟨g6,0,none⟩) T.length c6) z (b8.AA.mono (λ_ _=>trivial)));clear a8 a5 a0 b2 a7 b6 a4 e8 d0 p0 p1 p2 s0 s1 b4 c9 d6;go_wp2_with fail;refine c7.AA.mono ?_;rintro e w7 ⟨rfl,rfl⟩;go_wp2_with fail;go_roundw;case rel=>exact⟨z,_,c6,rfl,rfl,b8,e4,d8,d4⟩
    case measure=>simp[intOf]<;>omega
  .obtain rfl:d=T.length:=by omega
   have e0:decide ((T.length:Int)<(T.length:Int))=false:=by simp
   have HR:=AB (show VK T S tl x w (.returned (.slice a T.length c)) wr from⟨_,rfl,by rw[g.AA,b7.AA y C.AA B.AA];exact hY.AA,by rw[g.AA,b7.AA y C.AA B.AA];exact C.AA,I.AA⟩);clear F;go_wp2_with fail;go_ret;exact HR.AA
end QU
namespace Vj
open RowKit AJ Gen CP Fe Dr IB DW Ea Ml Oq NH QU
theorem Y8 {S:Nat->Prop}{w:World}{D:Addr}{n c:Nat}{rows:List (List Nat)}(h:AQ S w (.slice (some D) n c) (rows.map ints)):
  ∃us:List Value,us.length=rows.length/\(∀(i:Nat) (r:List Nat) (u:Value),rows[i]?=some r->us[i]?=some u->AP S w u (ints r))/\(∀j u,us[j]?=some u->w.cell? (D.add j)=some u)/\∀u∈us,u.oneCell'=true:=by
 obtain⟨L,O,e,_,_,_,R⟩:=h;obtain⟨rfl,_,_⟩:L=some D/\n=(rows.map ints).length/\c=O:=by simpa[eq_comm]using e
 have J:∀i r,rows[i]?=some r->∃u,w.cell? (D.add i)=some u/\AP S w u (ints r):=λi r I=>by
  obtain⟨b,o,U,Y,X,u,V,B⟩:=R i (ints r) (by simp[I]);obtain rfl:D=⟨b,o,none⟩:=IL U;exact⟨u,by rw[addr_add];exact V,B⟩
 refine⟨(List.range rows.length).map (λi=>(w.cell? (D.add i)).getD (.slice none 0 0)),by simp,λi r u I B=>?_,λj u B=>?_,λu B=>?_⟩
 .have hi:=(Ak.1 I).1;obtain⟨N,C,F⟩:=J i r I;simp only[Bh,List.getElem?_range hi,Option.map_some,EQ,C,OM]at B;rw[<-B];exact F
 .have K:=(Ak.1 B).1;simp only[BC,List.length_range]at K;obtain⟨N,C,F⟩:=J j rows[j] (AU K);simp only[Bh,List.getElem?_range K,Option.map_some,EQ,C,OM]at B;rw[C,B]
 .obtain⟨i,hi,rfl⟩:=BX.1 B;obtain⟨N,C,F⟩:=J i _ (AU (Cg.1 hi));rw[C];obtain⟨L,W,Q,_⟩:=F;rw[OM,Q];rfl
def Va (S:Nat->Prop)(rows:List (List Nat))(w:World)(e:Ending)(w':World):Prop:=
 ∃v us,e= .returned v/\w'.ownsRow w.heap.size 24 1 v rows.length us/\us.length=rows.length/\(∀(i:Nat) (r:List Nat) (u:Value),rows[i]?=some r->us[i]?=some u->AP S w u (ints r))/\Below w.heap.size w w'
theorem jC (S:Nat->Prop)(w:World)(v:Value)(rows:List (List Nat))(W:AQ S w v (rows.map ints))(Q:rows.length<=1000000):
  Calls Tryz.prog 168 #[v] w (Va S rows w):=by
 obtain⟨x,hi,d,s,y⟩:=Bd GJ;have B:=W;obtain⟨p,c,rfl,I,V,F,hx⟩:=W;rw[BC]at I B;have a0:=λ(w:World) (a:Option Addr) (n c Z b:Nat)=>Lib.run_eql_slice_nil (P:=Tryz.prog) w 25 24 a n c Z b Tryz.underlying25;have q:=DL (base:=w.heap.size) (e:=24) (size:=1) w #[] 0 AV (AX _) rfl;rw[BC];clear hx;cases p with
 |none=>
  obtain rfl:c=0:=F rfl;obtain rfl:rows=[]:=Di (by omega);have D:=AB (show Va S [] w (.returned (.slice none 0 0)) w from⟨_,[],rfl,FY _ _ _ _,rfl,λi r u hr=>by simp at hr,BB _ _⟩);clear B V F I Q;go_enter Tryz.func168,Tryz.ntmps168;go_wp2_with fail;go_ret;exact D.AA
 |some ad=>
  obtain⟨us,O,L,R,N⟩:=Y8 B;have J:∀j u,us[j]?=some u->(w.alloc (.cells #[] 24)).cell? (ad.add j)=some u:=λj u hu=>by
   have h:=R j u hu;have g:(ad.add j).block<w.heap.size:=by
    rcases CU (ad.add j).block w.heap.size with C|C
    .exact C
    .simp[World.cell?,Array.getElem?_eq_none C]at h
   rw[World.cell?_of_block (w:=w) (Dv w _ _ g)];exact h
  have C1:=AB J;have C2:=AB N;have C3:=AB (show 0+rows.length<=maxLen by unfold maxLen;omega);have C4:=AB (show(0+rows.length)*24<=140737488355328 by omega);have C5:=AB (show us.length=rows.length*1 by omega);have C6:=AB (And.intro O L);clear B V F Q O L R N J I;go_enter Tryz.func168,Tryz.ntmps168;go_wp2_with (at_builtin;refine DR _ rfl _ _ 25 rfl w.heap.size 24 x (.slice none 0 0) 1 24 Tryz.underlying25 hi d s y rfl (by decide) _ _ _ rfl q ad rows.length c us rfl C5.AA C1.AA C2.AA C3.AA C4.AA (by simp) ?_);intro K Y U X z;have D:=AB (show Va S rows w (.returned K) Y from⟨K,us,rfl,by simpa using U,C6.AA.1,C6.AA.2,(AY.alloc AV _).grown X (by simp) (by intro k l;simp[Value.ownBlock]at l;omega)⟩);clear U X z;go_wp2_with fail;go_ret;exact D.AA
theorem rF {T:Tw}(hT:Wf T)(hg:AJ.Good T){tl:List (List Nat)}(K:Tb (El T) T.length fF (Ao tl)){x r:List Nat}{d:Nat}(L:El T x)(h:JH T tl x=(d,r)):
  El T r/\dep r=d/\d<=T.length/\A (El T) fF d r/\(d<T.length->Ao tl d=none):=by
 have F:=Ct hT hg;have B:=QI F K T.length 0 x (by omega) ⟨L,λj I=>absurd I (CS _)⟩;have D:=(U6 (m:=mul T) (e:=AJ.one T) (o:=oF T) (f:=fF) (Ao tl) T.length 0 x).2;rw[show Co (mul T) (AJ.one T) (oF T) fF (Ao tl) T.length 0 x=(d,r) from h]at B D;simp only[CK]at B D;refine⟨B.1.1,?_,D,B.1,λC=>(B.2 C).2⟩;rcases CU d T.length with C|C
 .exact MW B.1 (B.2 C).1 C
 .have N:=Zn B.1 D;have J:=Rl r;rw[Ad B.1.1]at J;omega
noncomputable def Ew (T:Tw)(tl:List (List Nat))(y:List Nat):Nat->List (List Nat)
 |0=>[]
 |e+1=>Ew T tl y e++(match Ao tl e with
  |none=>[]
  |some z=>[com (mul T) (Ai T) z y])
theorem nK {T:Tw}{tl:List (List Nat)}{y:List Nat}{e:Nat}(h:Ao tl e=none):Ew T tl y (e+1)=Ew T tl y e:=by rw[Ew,h,FP]
theorem nL {T:Tw}{tl:List (List Nat)}{y z:List Nat}{e:Nat}(h:Ao tl e=some z):Ew T tl y (e+1)=Ew T tl y e++[com (mul T) (Ai T) z y]:=by rw[Ew,h]
theorem Wn (T:Tw)(tl:List (List Nat))(y:List Nat):∀e,(Ew T tl y e).length<=e
 |0=>Al _
 |e+1=>by
  have:=Wn T tl y e;rw[Ew,Bc];split
  .simp;omega
  .simp;omega
theorem Y9 {T:Tw}{tl:List (List Nat)}{y:List Nat}:∀{e j:Nat} {z:List Nat},j<e->Ao tl j=some z->com (mul T) (Ai T) z y∈Ew T tl y e
 |0,j,z,h,_=>absurd h (CS _)
 |e+1,j,z,h,hz=>by
  rw[Ew];rcases DF.1 h with B|B
  .exact OJ _ (Y9 B hz)
  .subst B;rw[hz];exact LZ _ CJ
theorem ZA {T:Tw}{tl:List (List Nat)}{y w:List Nat}:∀{e:Nat},w∈Ew T tl y e->∃j z,Ao tl j=some z/\w=com (mul T) (Ai T) z y
 |0,h=>by simp[Ew]at h
 |e+1,h=>by
  rw[Ew]at h;rcases DY.1 h with B|B
  .exact ZA B
  .cases C:Ao tl e with
   |none=>rw[C]at B;simp at B
   |some z=>
    rw[C]at B;simp only[ES]at B;exact⟨e,z,C,B⟩
abbrev Ht (T:Tw)(im tl rows:List (List Nat)):Prop:=FE (El T) (mul T) (AJ.one T) T.length (oF T) fF (Ai T) im (Ao tl) rows
def wO (T:Tw)(im:List (List Nat))(b o B gb:Nat)(w:World)(e:Ending)(w':World):Prop:=
 ∃(C:Bool) (tl:List (List Nat)),e= .returned (.bool C)/\Fv T im tl/\DT w' b o B gb (λk=>k≠gb) T.length tl/\w.grownBy w' (some gb)
def dQ (T:Tw)(im:List (List Nat))(b o B gb:Nat)(w:World)(e:Ending)(w':World):Prop:=
 ∃(C:Bool) (tl:List (List Nat)),e= .returned (.bool C)/\Ht T im tl []/\DT w' b o B gb (λk=>k≠gb) T.length tl/\w.grownBy w' (some gb)
def Oz (n:Nat)(w W:World)(b o B gb:Nat)(v:Value)(tl rows:List (List Nat)):Prop:=
 (rows=[]/\(∃a c,v= .slice a 0 c)/\DT W b o B gb (λk=>k≠gb) n tl/\w.grownBy W (some gb))\/∃C us,EP n w W b o B gb C v us tl rows
theorem Oz.fin {n:Nat}{w W:World}{b o B gb:Nat}{v:Value}{tl:List (List Nat)}(h:Oz n w W b o B gb v tl []):(∃a c,v= .slice a 0 c)/\DT W b o B gb (λk=>k≠gb) n tl/\w.grownBy W (some gb):=by
 rcases h with⟨_,h⟩|⟨F,us,h⟩
 .exact h
 .obtain⟨a,c,D,_⟩:=h.form;exact⟨⟨a,c,D⟩,h.sq.mono λk C=>C.1,h.gr⟩
theorem rG {w W:World}{gb:Nat}(h:w.grownBy W (some gb)):Keep (λk=>k≠gb) w W:=Keep.grown h λk B e=>B (by injection e)
theorem OI {T:Tw}{w W:World}{b o gb:Nat}(h:BH (λk=>k≠gb) w b o (AZ T))(hg:w.grownBy W (some gb)):BH Any W b o (AZ T):=(h.keep (rG hg)).mono λ_ _=>trivial
theorem DT.wP {w:World}{b o D gb n g:Nat}{tl:List (List Nat)}(h:DT w b o D gb (λk=>k≠gb) n tl)(hg:w.heap.size<=g):DT w b o D gb (Fw gb g) n tl:=by
 refine⟨h.hs,h.c0,h.c1,h.ne,?_,h.ln⟩;refine Cx.mono h.tb λv r F=>?_;rcases F with B|⟨B,I⟩
 .exact .inl B
 .exact .inr ⟨B,(Ps I).mono λk C=>⟨C.1,by have:=C.2;omega⟩⟩
theorem Oz.start {n:Nat}{w W:World}{b o J gb:Nat}{v:Value}{us:List Value}{tl rows:List (List Nat)}(B:DT w b o J gb (λk=>k≠gb) n tl)(F:W.ownsRow w.heap.size 24 1 v rows.length us)(N:us.length=rows.length)
  (O:∀(i:Nat) (r:List Nat) (u:Value),rows[i]?=some r->us[i]?=some u->AP (λk=>k≠gb) w u (ints r)) (C:Below w.heap.size w W):Oz n w W b o J gb v tl rows:=by
 have K:=B.below C;have hg:w.grownBy W (some gb):=EO.NR C;rcases F.2 with⟨rfl,Q⟩|⟨g,cap,V,rfl,D,R,_⟩
 .obtain rfl:rows=[]:=Di Q;exact .inl ⟨rfl,⟨_,_,rfl⟩,K,hg⟩
 .have U:=(Bt.1 R).1;refine .inr ⟨g,us,(DT.wP B D).below C,DV.Pv F,⟨N,λi r u S L=>?_⟩,hg,⟨D,U⟩,⟨B.hs,B.tb.lt⟩⟩;exact((Ps (O i r u S L)).keep (AO C)).mono λk I=>⟨I.1,by have:=I.2;omega⟩
theorem rH {T:Tw}{y:List Nat}{d:Nat}(B:El T y)(C:d<T.length):y≠[]:=λh=>by
 have:=Ad B;rw[h]at this;simp at this;omega
theorem VA {gb g:Nat}{W:World}{B:Nat}{v:Value}{l:List Int}(h:Own B W v l)(F:gb<B)(D:g<B):AP (Fw gb g) W v l:=h.sl.mono λk C=>⟨by omega,by omega⟩
theorem UG (T:Tw)(hT:Wf T)(hs:Small T)(hg:AJ.Good T)(hp:EN.Pr T)(w:World)(b o O gb:Nat)(vl:Value)(im ws i:List (List Nat))(hP:BH (λk=>k≠gb) w b o (AZ T))(hQ:DT w b o O gb (λk=>k≠gb) T.length i)
  (hl:AQ (λk=>k≠gb) w vl (ws.map ints)) (k7:∀x∈im,El T x) (k0:Ht T im i ws) (h6:ws.length<=6):
  Calls Tryz.prog 114 #[.pointer (some ⟨O,0,none⟩),vl] w (dQ T im b o O gb w):=by
 obtain⟨i0,hi,f3,f9,e7⟩:=Bd GJ;have HP:=AB hP;have HQ:=AB hQ;have i7:=AB k7;have n5:=AB hs;have l5:=AB hp;have HG:=AB (BA hT hg);have HF:=AB (Ct hT hg);have i2:=AB (jC _ w vl ws hl (by omega));have j9:=AB (λW va y K hK hp ha V=>dP T hT hs hg W b o va y K hK hp ha V);have n2:=AB (λo6 W va vb x y hp ha hb hx V=>wM T hT hs hg o6 W b o va vb x y hp ha hb hx V);have l8:=AB (λS W tl vx x h1 Z h3 h4 h5 h6=>nJ T hT hs hg S W b o O gb tl vx x h1 Z h3 h4 h5 h6);have o9:=AB (λtl x r d (m1:Tb (El T) T.length fF (Ao tl)) (hx:El T x) h=>rF hT hg m1 (r:=r) (d:=d) hx h);have q1:=λ(w:World) (a:Option Addr) (n c:Nat)=>run_neq_slice_nil (P:=Tryz.prog) w 24 2 a n c Tryz.underlying24;have n8:=hs.1;have j7:i.length=T.length:=hQ.ln;have m6:emp i<=6:=Ae (Zk i) (by rw[j7];exact n8);have p6:emp i*(T.length+3)+ws.length<=100:=by have:=Nat.mul_le_mul m6 (show T.length+3<=9 by omega);omega
 have q0:=AB k0;clear hP hQ hl k7 hT hs hg hp k0;go_enter Tryz.func114,Tryz.ntmps114;go_wp2_with fail;refine i2.AA.mono ?_;rintro e w1 ⟨v1,s5,rfl,k8,h7,h0,l4⟩;have l6:=AB (Oz.start HQ.AA k8 h7 h0 l4);clear k8 h7 h0 l4 i2;go_wp2_with fail;go_loopg [5,6] (emp i*(T.length+3)+ws.length) (λgk gv qv wr=>∃(bl:Bool) (tl rows:List (List Nat)),gv= .bool bl/\tl.length=T.length/\gk<=100/\gk=emp tl*(T.length+3)+rows.length/\Hid (Ht T im tl rows)/\Hid (Oz T.length w wr b o O gb qv tl rows));case atStart=>
  exact⟨false,i,ws,rfl,j7,p6,rfl,q0,l6⟩
 case round=>
  obtain⟨bl,tl,rows,rfl,j0,j8,g0,l,c8⟩:=hrel;cases rows with
  |nil=>
   obtain⟨⟨a,c,rfl⟩,hq,l1⟩:=c8.AA.fin;have q9:decide (((0:Nat):Int)>0)=false:=by simp
   have HR:=AB (show dQ T im b o O gb w (.returned (.bool bl)) wr from⟨bl,tl,rfl,l.AA,hq,l1⟩);clear hq l1 c8 g0;go_wp2_with fail;go_ret;exact HR.AA
  |cons x rs=>
   obtain⟨p,us,Y⟩:∃p us,EP T.length w wr b o O gb p _ us tl (x::rs):=by
    rcases c8.AA with⟨h,_⟩|h
    .cases h
    .exact h
   obtain⟨u,a6,off,c,rfl,rfl,j3,o3,k9,b4⟩:=Y.head;obtain⟨m,hm⟩:∃m,rs.length+1=m:=⟨_,rfl⟩;have e9:=AB (Y.pop (off:=off) (m:=rs.length+1) (c:=c) rfl);rw[hm]at j3;have b5:El T x:=(Gen.sub HG.AA i7.AA).le (l.AA.wg x CJ);have h8:x.length=T.length:=Ad b5;obtain⟨aU,cU,rfl,_⟩:=AP.open b4;rw[h8]at b4 k9;obtain⟨B,e1⟩:∃B,rs.length=B:=⟨_,rfl⟩;have k3:m=B+1:=by omega
   have m4:decide ((m:Int)>0)=true:=by simp;omega
   have m8:(0:Int)<(m:Int):=by omega
   have o2:(1:Int)<=(m:Int):=by omega
   have o8:0<m:=by omega
   have p9:=AB Y;have n7:=Y.bq.2;have o0:=AB b4;have q8:=AB b5;obtain⟨d,rest,c4⟩:∃d rest,JH T tl x=(d,rest):=⟨_,_,rfl⟩;obtain⟨k5,j2,k4,k1,b7⟩:=o9.AA tl x rest d l.AA.tb b5 c4;have l0:=AB (show Calls Tryz.prog 169 #[.pointer (some ⟨O,0,none⟩),.slice aU T.length cU] wr λe w'=>∃v,e= .returned v/\AP (Fw gb p) w' v (ints rest)/\Below wr.heap.size wr w' from by
    have h:=l8.AA (Fw gb p) wr tl (.slice aU T.length cU) x (OI HP.AA Y.gr) Y.sq (λk hk=>⟨by have:=Y.bs.2;have:=Y.gr.size;omega,by omega⟩) l.AA.tb b4 b5;refine h.mono λe w' h=>?_;obtain⟨v,h1,Z,_,h4⟩:=h;rw[c4]at Z;exact⟨v,h1,Z,h4⟩)
   have D:=AB (And.intro c4 (And.intro k5 (And.intro j2 (And.intro k1 b7))));have d0:=AB (show gk=emp tl*(T.length+3)+(B+1) by rw[g0,DX,e1]);have b6:=AB e1;have d2:=AB k3;simp only[hm];clear c8 Y b4 b5 h8 c4 k5 j2 k1 b7 g0 hm e1 k3;go_wp2_with fail;refine l0.AA.mono ?_;rintro e w2 ⟨v2,rfl,Z,e4⟩;have o4:rest.length=T.length:=Ad D.AA.2.1;obtain⟨aV,U,rfl,_⟩:=AP.open Z;rw[o4]at Z;have e3:=AB Z;have d6:=AB (And.intro (e9.AA.1.below e4) (λhc o'=>(e9.AA.2 hc o').below e4));rw[b6.AA]at d6;clear Z e4 l0 e9 k9 n7 p9 o0;go_upto_region 5 with fail;go_cut [6] (λqv W=>Hid (EP T.length w W b o O gb p qv a6 tl rs)/\Hid (AP (Fw gb p) W (.slice aV T.length U) (ints rest)));case first=>
    by_cases hc:c=1
    .subst hc;have p8:m=1:=by omega
     subst p8;have m2:B=0:=by have:=d2.AA;omega
     subst m2;go_wp2_with fail;go_meet;exact⟨AB (d6.AA.2 trivial off),e3⟩
    .have s2:m-1=B:=by have:=d2.AA;omega
     go_wp2_with fail;go_meet;exact⟨AB d6.AA.1,e3⟩
   case rest=>
    obtain⟨a8,c5⟩:=hcut;rename World=>R;have h9:=AB (show Calls Tryz.prog 170 #[.slice aV T.length U] R λe w'=>e= .returned (.int .i64 (d:Int))/\R=w' from by
     have h:=WV R _ rest (c5.AA.mono (λ_ _=>trivial));rw[D.AA.2.2.1]at h;exact h)
    clear d6 e3 j3 o3 m4 m8 o2 o8 d2;go_wp2_with fail;refine h9.AA.mono ?_;rintro e w4 ⟨rfl,rfl⟩;clear h9;by_cases e0:d=T.length
    .have hq:((d:Int)==(T.length:Int))=true:=by simp;omega
     have d7:=AB (l.AA.member (by rw[show Co (mul T) (AJ.one T) (oF T) fF (Ao tl) T.length 0 x=(d,rest) from D.AA.1];exact e0));clear e0 k4;go_wp2_with fail;go_roundg (emp tl*(T.length+3)+B);case measure=>exact TF d0.AA
     case rel=>exact⟨bl,tl,rs,rfl,j0,Ae (Ci (TF d0.AA)) j8,by rw[b6.AA],d7,AB (.inr ⟨p,a6,a8.AA⟩)⟩
    .have hq:((d:Int)==(T.length:Int))=false:=by simp;omega
     have b0:d<T.length:=by omega
     obtain⟨L,hL⟩:∃L,T[d]?=some L:=⟨_,AU b0⟩;obtain⟨a,ha,s7,f1⟩:=Rs D.AA.2.1 (by rw[D.AA.2.2.1];exact b0);rw[D.AA.2.2.1]at ha f1;have p7:a<L.o:=by
      obtain⟨L',c6,b2⟩:=Gb D.AA.2.1 ha;rw[hL]at c6;injection c6 with c6;rw[c6];exact b2
     have m3:=AB (l5.AA L (Af hL));have r5:L.o<=7:=n5.AA.2 L (Af hL);have HA:=AB (And.intro f1 (He hL));have p5:=AB hL;obtain⟨bV,oV,rfl,_,m0,m5⟩:=AP.at c5.AA ha;obtain⟨-, f7,vO,vP,vC,p0,p1,p2,hv⟩:=OI HP.AA a8.AA.gr;obtain⟨aO,cO,aP,cP,aC,cC,rfl,rfl,rfl,-, -, -⟩:=hv.open;obtain⟨bO,oO,rfl,-, e6,d9⟩:=hv.ord hL;have s0:=a8.AA.sq.c0;have a2:=a8.AA.sq.hs;have r8:(d:Int)<(T.length:Int):=by omega
     have r3:(0:Int)<=(d:Int):=by omega
     clear e0 k4 hL ha f1 hv p1 p2;go_wp2_with fail;go_region_held3 (λw'=>(∀b o,b<R.heap.size->w'.cell? ⟨b,o,none⟩=R.cell? ⟨b,o,none⟩)/\Keep (λ_=>True) R w')
      (first|exact Ap (by repeat(first|exact Ab|exact AL|refine AR ?_ ‹_›)))
      (first|(go_at_call 171;refine(gB L.o a m3.AA (by omega) p7 _).mono ?_;rintro e w5 ⟨ci,rfl,q3,hinv,rfl⟩))
     rename_i o5;clear o5;obtain⟨w5,e5⟩:∃w5,R.drew=w5:=⟨_,rfl⟩;simp only[e5];have f0:Below R.heap.size R w5:=by rw[<-e5];exact AY.drew
     have n9:=AB hinv;have a0:=AB ((a8.AA.below f0).below (AY.alloc AV (.cells #[.slice (some ⟨bV,oV,none⟩) T.length U] 24)));have g3:=AB ((c5.AA.keep (AO f0)).keep ((Keep.refl _ w5).alloc (.cells #[.slice (some ⟨bV,oV,none⟩) T.length U] 24)));have s3:ci<=7:=by omega
     have a1:=AB (show a6.length=B by rw[a0.AA.qu.1,b6.AA]);have q2:B<=100:=by have:=d0.AA;omega
     clear hinv e5 f0 s0 p0 d9 m5 f7 m0 e6 a2 a8 c5 hq;go_upto_region 10 with fail;go_wp2_with (at_builtin;(refine V4 _ rfl _ _ 25 rfl 24 i0 (.slice none 0 0) 24 Tryz.underlying25 hi f3 f9 e7 rfl p _ a6 rfl a0.AA.wi ⟨w5.heap.size,0,none⟩ 1 (.slice (some ⟨bV,oV,none⟩) T.length U) rfl ?c1 rfl ?c2 ?c3 ?_));case c1=>rw[Ar _ _ _ #[.slice (some ⟨bV,oV,none⟩) T.length U] _ (0,0) (Aj _ _)];rfl
     case c2=>rw[a1.AA];unfold maxLen;omega
     case c3=>rw[a1.AA];omega
     intro g6 v6 w6 b8 e2 d8;have s:=AB (a0.AA.push g3.AA b8 e2 (by simpa using d8));have g5:=AB (Od g3.AA e2 (by simpa using d8));have s0:=s.AA.sq.c0;have a2:=s.AA.sq.hs;have k6:=AB (j9.AA w6 (.slice (some ⟨bV,oV,none⟩) T.length U) rest ci (by omega) (OI HP.AA s.AA.gr) (g5.AA.mono (λ_ _=>trivial)) D.AA.2.1);clear b8 e2 d8 a0 g3;go_wp2_with fail;refine k6.AA.mono ?_;rintro e w7 ⟨gy,cy,rfl,f5,l2⟩;obtain⟨y,V⟩:∃y,y=npow (mul T) (AJ.one T) rest ci:=⟨_,rfl⟩;rw[<-V]at f5;have i1:El T y:=by rw[V];exact HG.AA.npow D.AA.2.1 ci
     have j5:fF d y=1:=by
      rw[V,HF.AA.GY b0 D.AA.2.2.2.1,HA.AA.1,HA.AA.2,JC];exact n9.AA
     have HY:=AB (And.intro V (And.intro i1 j5));have N:=AB (s.AA.below l2);have f8:=AB (VA (g:=g6) (gb:=gb) f5 (by have:=s.AA.bs.2;have:=s.AA.gr.size;omega) s.AA.bq.2);obtain⟨-, f7,vO,vP,vC,p0,p1,p2,hv⟩:=OI HP.AA N.AA.gr;obtain⟨r6,q6,q7,q5,r7,r1,rfl,rfl,rfl,-, -, -⟩:=hv.open;obtain⟨r2,r9,rfl,-, e6,d9⟩:=hv.ord p5.AA;clear V i1 j5 f5 l2 s0 a2 k6 g5 hv p1 p2 s;have s0:=N.AA.sq.c0;have a2:=N.AA.sq.hs;have g4:=AB (OI HP.AA N.AA.gr);have b1:=AB (f8.AA.mono (S':=Any) (λ_ _=>trivial));have m9:=AB (HG.AA.npow HY.AA.2.1 L.o);have d4:=AB (show(a6++[Value.slice (some ⟨bV,oV,none⟩) T.length U]).length=B+1 by simp[a1.AA]);obtain⟨g1,g7⟩:∃g1,a6++[Value.slice (some ⟨bV,oV,none⟩) T.length U]=g1:=⟨_,rfl⟩;rw[g7]at N d4;clear g7 a1;go_upto_region 12 with fail;go_cut [6] (λqv W=>∃Q a3,Hid (EP T.length w W b o O gb Q qv a3 tl (rs++[rest]++[npow (mul T) (AJ.one T) y L.o]))/\Hid (AP (Fw gb Q) W (.slice (some ⟨gy,0,none⟩) T.length cy) (ints y)));case first=>
      go_region_law
       (first|(go_simp;go_at_call 172;refine(j9.AA _ (.slice (some ⟨gy,0,none⟩) T.length cy) y L.o (by omega) (g4.AA.keep (by repeat(first|exact Ab|exact AL|refine AR ?_ ‹_›))) (b1.AA.keep (by repeat(first|exact Ab|exact AL|refine AR ?_ ‹_›))) HY.AA.2.1).mono ?_;rintro e X ⟨I,F,rfl,c7,b3⟩)|(refine fq _ (by rfl) _ _ _ (by rfl) 24 i0 (.slice none 0 0) 24 Tryz.underlying25 hi f3 f9 e7 rfl g6 v6 g1 (by rfl) (DV.keep (S:=Any) (DV.keep (S:=Any) N.AA.wi (by repeat(first|exact Ab|exact AL|refine AR ?_ ‹_›)) trivial) (AL.alloc _) trivial) ⟨X.heap.size,0,none⟩ 1 (.slice (some ⟨I,0,none⟩) T.length F) (by rfl) (by rw[Ar _ _ _ #[.slice (some ⟨I,0,none⟩) T.length F] 24 (0,0) (Aj X _)];rfl) (by rfl) (by rw[d4.AA];unfold maxLen;omega) (by rw[d4.AA];omega) ?_;intro f6 m7 n0 l9 a5 a7))
      all_goals (go_wp2_with fail;go_meet)
      all_goals
       have i3:Below w7.heap.size w7 X:=(AY.drew).trans b3;have n1:=(N.AA.below i3).below (AY.alloc AV (.cells #[.slice (some ⟨I,0,none⟩) T.length F] 24));have o7:=(f8.AA.keep (AO i3)).keep ((Keep.refl _ X).alloc (.cells #[.slice (some ⟨I,0,none⟩) T.length F] 24));have n3:=(VA (g:=g6) (gb:=gb) c7 (by have:=N.AA.bs.2;have:=N.AA.gr.size;show gb<w7.heap.size;omega) (show g6<w7.heap.size from N.AA.bq.2)).keep ((Keep.refl _ X).alloc (.cells #[.slice (some ⟨I,0,none⟩) T.length F] 24));exact⟨f6,_,AB (n1.push n3 l9 a5 (by simpa using a7)),AB (Od o7 a5 (by simpa using a7))⟩
     case rest=>
      obtain⟨g8,p4,d3,k2⟩:=hcut;rename World=>w8;have s8:=d3.AA.sq.c1;have n6:=d3.AA.sq.hs;have d2:=AB (Al (emp tl));clear N f8 g4 b1 m9 d4 s0 a2 f7 p0 e6 d9;go_wp2_with fail;go_loopw [6,84] (λqv ev wr=>∃(e:Nat) (Q:Nat) (a3:List Value) (J:List (List Nat)),e<=T.length/\ev= .int .i64 (e:Int)/\J.length<=B+2+e/\Hid (J=rs++[rest]++[npow (mul T) (AJ.one T) y L.o]++Ew T tl y e)/\Hid (EP T.length w wr b o O gb Q qv a3 tl J)/\Hid (AP (Fw gb Q) wr (.slice (some ⟨gy,0,none⟩) T.length cy) (ints y))) (λ_ ev _=>T.length-(intOf ev).toNat);case atStart=>exact⟨0,g8,p4,_,AX _,rfl,by simp[b6.AA],AB (by simp[Ew]),d3,k2⟩
      case round=>
       obtain⟨e,Q,a3,J,he,rfl,s4,d1,C,d5⟩:=hrel;clear d3 k2 s8 n6;have s0:=C.AA.sq.c0;have s1:=C.AA.sq.c1;have a2:=C.AA.sq.hs;by_cases b2:e<T.length
       .have q4:(e:Int)<(T.length:Int):=by omega
        have r0:(0:Int)<=(e:Int):=by omega
        obtain⟨q,a9⟩:∃q,tl[e]?=some q:=⟨_,AU (by omega)⟩;obtain⟨uq,i5,_,a4⟩:=C.AA.sq.tb.at a9;have i9:=C.AA.sq.tb.lt;rcases a4 with⟨rfl,rfl⟩|⟨f4,a4⟩
        .have f2:=AB (show J=rs++[rest]++[npow (mul T) (AJ.one T) y L.o]++Ew T tl y (e+1) by rw[nK (KS a9)];exact d1.AA);clear b2 a9;go_wp2_with fail;go_roundw;case rel=>exact⟨e+1,Q,a3,J,by omega,by go_num,by omega,f2,C,d5⟩
         case measure=>simp[intOf]<;>omega
        .have j4:=AB (l.AA.tb e q (GU a9 f4)).2.1.1;have i8:q.length=T.length:=Ad j4.AA;obtain⟨aQ,cQ,rfl,_⟩:=AP.open a4;rw[i8]at i5 a4;obtain⟨bQ,oQ,rfl⟩:∃bQ oQ,aQ=some ⟨bQ,oQ,none⟩:=by
          obtain⟨bQ,oQ,h,_⟩:=AP.at a4 (j:=0) (q:=q[0]'(by omega)) (AU _);exact⟨bQ,oQ,h⟩
         have f2:=AB (show J++[com (mul T) (Ai T) q y]=rs++[rest]++[npow (mul T) (AJ.one T) y L.o]++Ew T tl y (e+1) by rw[nL (GU a9 f4),d1.AA,Dy]);have i4:=AB (n2.AA (by omega) wr (.slice (some ⟨bQ,oQ,none⟩) T.length cQ) (.slice (some ⟨gy,0,none⟩) T.length cy) q y (OI HP.AA C.AA.gr) (a4.mono (λ_ _=>trivial)) (d5.AA.mono (λ_ _=>trivial)) j4.AA HY.AA.2.1);have a1:=AB C.AA.qu.1;clear b2 a9 f4 a4 i8;go_wp2_with fail;refine i4.AA.mono ?_;rintro e' X ⟨I,F,rfl,c7,b3⟩;have a0:=AB ((C.AA.below b3).below (AY.alloc AV (.cells #[.slice (some ⟨I,0,none⟩) T.length F] 24)));have b1:=AB ((d5.AA.keep (AO b3)).keep ((Keep.refl _ X).alloc (.cells #[.slice (some ⟨I,0,none⟩) T.length F] 24)));have l3:=AB ((VA (g:=Q) (gb:=gb) c7 (by omega) C.AA.bq.2).keep ((Keep.refl _ X).alloc (.cells #[.slice (some ⟨I,0,none⟩) T.length F] 24)));clear c7 b3 i4 s0 s1 a2 i5 i9;go_wp2_with (at_builtin;(refine V4 _ rfl _ _ 25 rfl 24 i0 (.slice none 0 0) 24 Tryz.underlying25 hi f3 f9 e7 rfl Q _ a3 rfl a0.AA.wi ⟨X.heap.size,0,none⟩ 1 (.slice (some ⟨I,0,none⟩) T.length F) rfl ?c1 rfl ?c2 ?c3 ?_));case c1=>rw[Ar _ _ _ #[.slice (some ⟨I,0,none⟩) T.length F] _ (0,0) (Aj _ _)];rfl
         case c2=>rw[a1.AA];unfold maxLen;omega
         case c3=>rw[a1.AA];omega
         intro f6 m7 n0 b8 a5 a7;have n4:=AB (a0.AA.push l3.AA b8 a5 (by simpa using a7));have p3:=AB (Od b1.AA a5 (by simpa using a7));clear b8 a5 a7 a0 b1 l3;go_wp2_with fail;go_roundw;case rel=>exact⟨e+1,f6,_,_,by omega,by go_num,by simp;omega,f2,n4,p3⟩
         case measure=>simp[intOf]<;>omega
       .obtain rfl:e=T.length:=by omega
        have b9:=rH HY.AA.2.1 b0;have e8:tl[d]?=some []:=by
         cases b7:tl[d]? with
         |none=>have:=List.getElem?_eq_none_iff.1 b7;omega
         |some r=>cases r with
          |nil=>rfl
          |cons q r=>have h:=GU b7 (by simp);rw[D.AA.2.2.2.2 b0]at h;simp at h
        obtain⟨ut,s6,r4,_⟩:=C.AA.sq.tb.at e8;have j6:=Uo e8 b9;have j1:=AB (show emp (tl.set d y)*(T.length+3)+(B+2+(Ew T tl y T.length).length)<gk from dO (by rw[j6];exact d0.AA) (Wn T tl y T.length));have i6:=AB (show J.length=B+2+(Ew T tl y T.length).length by rw[d1.AA];simp[b6.AA];omega);have l7:=AB (C.AA.put (d:=d) d5.AA b9);have i9:=C.AA.sq.tb.lt;have d7:=AB (show Ht T im (tl.set d y) J from by
         unfold Ht;rw[Q4 (by omega) b9,d1.AA];refine l.AA.enter HF.AA i7.AA D.AA.1 b0 HY.AA.1 HY.AA.2.2 (λw hw=>by simp[hw]) (by simp) (by rw[HA.AA.2];simp) (λj z hz=>?_) (λw hw=>?_)
         .exact LZ _ (Y9 (l.AA.tb j z hz).1 hz)
         .rcases DY.1 hw with h|h
          .rcases DY.1 h with h|h
           .rcases DY.1 h with h|h
            .exact .inl h
            .exact .inr (.inl (ES.1 h))
           .exact .inr (.inr (.inl (by rw[HA.AA.2];exact ES.1 h)))
          .exact .inr (.inr (.inr (ZA h))))
        clear j6 b2 e8 b9;go_wp2_with fail;go_roundg (emp (tl.set d y)*(T.length+3)+J.length);case measure=>rw[i6.AA];exact j1.AA
        case rel=>exact⟨true,tl.set d y,J,rfl,by simp[j0],Ae (Ci (by rw[i6.AA];exact j1.AA)) j8,rfl,d7,AB (.inr ⟨Q,a3,l7.AA⟩)⟩
theorem rJ (T:Tw)(hT:Wf T)(L:Small T)(hg:AJ.Good T)(F:EN.Pr T)(w:World)(b o B gb:Nat)(C:Value)(im:List (List Nat))(R:BH (λk=>k≠gb) w b o (AZ T))(N:DT w b o B gb (λk=>k≠gb) T.length (List.replicate T.length []))
  (I:AQ (λk=>k≠gb) w C (im.map ints)) (D:∀x∈im,El T x) (Q:im.length<=6):
  Calls Tryz.prog 114 #[.pointer (some ⟨B,0,none⟩),C] w (wO T im b o B gb w):=by
 refine(UG T hT L hg F w b o B gb C im im _ R N I D (by unfold Ht;rw[ME];exact FE.start (Ct hT hg) D) Q).mono ?_;rintro e w' ⟨O,tl,rfl,S,J,K⟩;exact⟨O,tl,rfl,S.Oo (Ct hT hg) D,J,K⟩
end Vj
namespace QS
open RowKit AJ Gen CP Fe Dr IB DW Oq NH QU
theorem nM (w:World)(a:Int):Calls Tryz.prog 160 #[.int .i64 a] w λe w'=>e= .returned (.bool (a !=0))/\w=w':=by
 go_enter Tryz.func160,Tryz.ntmps160;go_wp2_with fail;go_ret;first|exact⟨rfl,rfl⟩|exact⟨by simp,rfl⟩
theorem kJ (w:World)(v:Value)(x:List Nat)(D:AP Any w v (ints x))(I:dep x<x.length)(Y:x.length<=1000000):
  Calls Tryz.prog 159 #[v,.func (.func 160) #[] #[]] w λe w'=>e= .returned (.int .i64 (dep x:Int))/\w=w':=by
 obtain⟨i,l,rfl,_⟩:=D.open;have V:=AB D;have K:=AB I;have L:=AB (λW a=>nM W a);clear D I;go_enter Tryz.func159,Tryz.ntmps159;go_wp2_with fail;go_loop [8] (λF=>∃k:Nat,k<=x.length/\F= .int .i64 (k:Int)/\Hid (∀j,j<k->x[j]?=some 0)) (λF=>x.length-(intOf F).toNat);case atStart=>exact⟨0,AX _,rfl,AB (λj h=>absurd h (CS _))⟩
 case round=>
  obtain⟨k,S,rfl,C⟩:=hrel;have Q:k<x.length:=by
   obtain⟨a,ha,B⟩:=Uk K.AA;refine Nat.lt_of_not_le λh=>B ?_;have:=C.AA (dep x) (by have:=K.AA;omega);rw[ha]at this;injection this
  obtain⟨a,ha⟩:∃a,x[k]?=some a:=⟨_,AU Q⟩;obtain⟨b,o,rfl,_,Z,g⟩:=V.AA.at ha;by_cases B:a=0
  .subst B;have R:=AB (show∀j,j<k+1->x[j]?=some 0 from λj U=>by
    rcases DF.1 U with h|h
    .exact C.AA j h
    .rw[h];exact ha)
   clear ha C;go_wp2_with fail;refine(L.AA w 0).mono ?_;rintro e w' ⟨rfl,rfl⟩;go_wp2_with fail;go_round;case rel=>exact⟨k+1,by omega,by go_num,R⟩
   case measure=>simp[intOf];omega
  .have J:((a:Int) !=0)=true:=by simp;omega
   have X:=AB (show dep x=k from Jy x k C.AA (λd N=>by rw[ha]at N;cases N;exact B) S);have O:=AB (L.AA w (a:Int));rw[J]at O;clear ha C B J;go_wp2_with fail;refine O.AA.mono ?_;rintro e w' ⟨rfl,rfl⟩;go_wp2_with fail;go_ret;exact⟨by rw[X.AA];rfl,rfl⟩
theorem tq {e:TypeId}{B:Nat}{w:World}{v:Value}{x:List Nat}(h:w.ownsRow B e 1 v x.length (vals (ints x))):AP (λk=>B<=k) w v (ints x):=by
 rcases h.2 with⟨rfl,D⟩|⟨g,cap,L,rfl,F,N,J,K,Q,O⟩
 .have I:x=[]:=Di D;subst I;exact RN _ _
 .refine⟨_,cap,by rw[BK],by rw[BK];exact J,K,λe=>absurd e (by simp),λi y C=>⟨g,0,rfl,F,(Aq h g rfl).2,.int .i64 y,?_,rfl⟩⟩;have hi:i<x.length:=by have:=(Ak.1 C).1;rwa[BK]at this
  rw[CK,FZ h i (by omega)];simp[vals,C]
def dR (us:List (List Nat))(w:World)(e:Ending)(w':World):Prop:=∃v,e= .returned v/\AP (λk=>w.heap.size<=k) w' v (ints (us.map dep))/\Below w.heap.size w w'
theorem Wd (w:World)(R:Value)(us:List (List Nat))(B:AQ Any w R (us.map ints))(hl:us.length<=1000)(O:∀u∈us,dep u<u.length/\u.length<=1000):
  Calls Tryz.prog 95 #[R] w (dR us w):=by
 obtain⟨i0,hi,z,a2,a3⟩:=Bd Rv;obtain⟨aU,cU,rfl,_,_⟩:=Am.form B;rw[BC]at B ⊢;have i:=AB B;have HD:=AB O;have a1:=AB (λW v x h F y=>kJ W v x h F y);obtain⟨m,L⟩:∃m,us.length=m:=⟨_,rfl⟩;rw[L]at i hl ⊢;have U:=AB L;clear B O L;go_enter Tryz.func95,Tryz.ntmps95;go_wp2_with fail;go_loopw [3,8] (λD N wr=>∃k:Nat,k<=m/\N= .int .i64 (k:Int)/\Hid (wr.ownsRow w.heap.size 3 1 D k (vals (ints ((us.map dep).take k))))/\Hid (Below w.heap.size w wr)) (λ_ N _=>m-(intOf N).toNat);case atStart=>exact⟨0,AX _,rfl,AB (FY _ _ _ _),AB AY⟩
 case round=>
  obtain⟨k,hk,rfl,I,C⟩:=hrel;by_cases a8:k<m
  .obtain⟨u,B⟩:∃u,us[k]?=some u:=⟨_,AU (by rw[U.AA];omega)⟩;obtain⟨b,o,q,rfl,_,V,Z,Y⟩:=Am.get i.AA (k:=k) (x:=ints u) (by rw[Bh,B];rfl);have K:=AO (S:=Any) C.AA;have a6:=(K.cell (b:=b) (o:=o+k) trivial V).trans Z;have b0:b<wr.heap.size:=Ah V C.AA.size;have l:=HD.AA u (Af B);have X:=AB (a1.AA wr q u (AP.keep Y K) l.1 (by omega));have d:(us.map dep).take (k+1)=(us.map dep).take k++[dep u]:=by rw[EL,Bh,B];rfl
   have a7:=AB (show vals (ints ((us.map dep).take (k+1)))=vals (ints ((us.map dep).take k))++[.int .i64 (dep u:Int)] by rw[d];simp[vals,ints]);have a9:(k:Int)<(m:Int):=by omega
   clear B Z Y l K d;go_wp2_with fail;refine X.AA.mono ?_;rintro e w' ⟨rfl,rfl⟩;have F:=Aw I.AA (S:=Any) ((Keep.refl _ wr).alloc (.cells #[.int .i64 (dep u:Int)] 3)) (λ_ _=>trivial);have a0:=C.AA.size;clear X a6;go_wp2_with (at_builtin;(refine DR _ rfl _ _ 80 rfl w.heap.size 3 i0 (.int .i64 0) 1 8 Tryz.underlying80 hi z a2 a3 rfl (by decide) _ _ _ rfl F ⟨wr.heap.size,0,none⟩ 1 1 [.int .i64 (dep u:Int)] rfl rfl ?c1 ?c2 ?c3 ?c4 ?c5 ?_));case c1=>
    intro j u J
    match j,J with
    |0,J=>simp at J;subst J;simp[Addr.add]
   case c2=>intro u B;simp at B;subst B;rfl
   case c3=>unfold maxLen;omega
   case c4=>omega
   case c5=>simp;omega
   intro s p Q r _;have HN:=AB (show p.ownsRow w.heap.size 3 1 s (k+1) (vals (ints ((us.map dep).take (k+1)))) by rw[a7.AA];exact Q);have a5:=AB (show Below w.heap.size w p from(C.AA.alloc a0 _).grown r (by simp;omega) (λg hg=>(Aq F g hg).1));clear Q r F I C;go_wp2_with fail;go_roundw;case rel=>exact⟨k+1,by omega,by go_num,HN,a5⟩
   case measure=>simp[intOf]<;>omega
  .obtain rfl:k=m:=by omega
   have a:=AB (show∀D,wr.ownsRow w.heap.size 3 1 D k (vals (ints ((us.map dep).take k)))->dR us w (.returned D) wr from λD h=>⟨D,rfl,by
    rw[<-U.AA,Jh (by simp)]at h;exact tq (by rw[BC];exact h),C.AA⟩)
   have a4:=AB (a.AA _ I.AA);clear I C a;go_wp2_with fail;go_ret;exact a4.AA
theorem Qe (w:World)(v:Value)(x:List Nat)(D:AP Any w v (ints x))(S:x.length<=1000000):
  Calls Tryz.prog 102 #[v] w (fQ (dep x=x.length) w):=by
 obtain⟨X,U,rfl,_⟩:=D.open;have Q:=AB D;clear D;go_enter Tryz.func102,Tryz.ntmps102;go_wp2_with fail;go_loop [7] (λF=>∃k:Nat,k<=x.length/\F= .int .i64 (k:Int)/\Hid (∀j,j<k->x[j]?=some 0)) (λF=>x.length-(intOf F).toNat);case atStart=>exact⟨0,AX _,rfl,AB (λj h=>absurd h (CS _))⟩
 case round=>
  obtain⟨k,K,rfl,B⟩:=hrel;by_cases L:k<x.length
  .obtain⟨a,ha⟩:∃a,x[k]?=some a:=⟨_,AU L⟩;obtain⟨b,o,rfl,_,V,Y⟩:=Q.AA.at ha;by_cases C:a=0
   .subst C;have N:=AB (show∀j,j<k+1->x[j]?=some 0 from λj O=>by
     rcases DF.1 O with h|h
     .exact B.AA j h
     .rw[h];exact ha)
    clear ha B;go_wp2_with fail;go_round;case rel=>exact⟨k+1,by omega,by go_num,N⟩
    case measure=>simp[intOf];omega
   .have R:((a:Int) !=0)=true:=by simp;omega
    have I:=AB (show dep x=k from Jy x k B.AA (λW J=>by rw[ha]at J;cases J;exact C) K);clear ha B C;go_wp2_with fail;go_ret;exact⟨false,rfl,⟨λh=>Bool.noConfusion h,λh=>by have:=I.AA;omega⟩,rfl⟩
  .obtain rfl:k=x.length:=by omega
   have I:=AB (show dep x=x.length from Jy x _ B.AA (λa ha=>by have:=(Ak.1 ha).1;omega) K);clear B;go_wp2_with fail;go_ret;exact⟨true,rfl,⟨λ_=>I.AA,λ_=>rfl⟩,rfl⟩
def Fx (T:Tw)(u x:List Nat)(j:Nat):List Nat:=mul T x (npow (mul T) (AJ.one T) u j)
theorem nN {T:Tw}(hT:Wf T)(hg:AJ.Good T){d:Nat}(C:d<T.length){u x:List Nat}(I:A (El T) fF d u)(N:fF d u=1)(J:El T x){j:Nat}(B:j<=(oF T d-fF d x)%oF T d):
  fF d (Fx T u x j)=0↔j=(oF T d-fF d x)%oF T d:=by
 have F:=Ct hT hg;have K:=(F.Gc (Ci C)).npow I j;have D:=F.lt C J;unfold Fx;rw[(fr hT C J K).2,F.GY C I,N,GZ,Nat.add_mod_mod];generalize fF d x=f at B D ⊢;generalize oF T d=o at B D ⊢;by_cases L:f=0
 .subst L;rw[Nat.sub_zero,Nat.mod_self]at B ⊢;obtain rfl:j=0:=by omega
  simp
 .rw[EC (show o-f<o by omega)]at B ⊢;rcases Nat.lt_or_eq_of_le B with h|h
  .rw[EC (by omega)];omega
  .rw[h,IV (Ci D),Nat.mod_self];simp
theorem rM {T:Tw}{d:Nat}{u x:List Nat}(B:dep u=d):Fx T u x ((oF T d-fF d x)%oF T d)=JQ T u x:=by unfold Fx JQ;rw[B]
theorem nO {T:Tw}{us:List (List Nat)}{x u:List Nat}{k:Nat}(B:us[k]?=some u):Ev T (us.take (k+1)) x=JQ T u (Ev T (us.take k) x):=by
 have:∀(a:List (List Nat)) (x:List Nat),Ev T (a++[u]) x=JQ T u (Ev T a x):=λa=>by
  induction a with
  |nil=>intro x;rfl
  |cons v a ih=>intro x;exact ih _
 rw[EL,B];exact this _ _
def fT (T:Tw)(us:List (List Nat)):Prop:=∀u∈us,El T u/\dep u<T.length/\fF (dep u) u=1
theorem YY (T:Tw)(hT:Wf T)(hs:Small T)(hg:AJ.Good T)(w:World)(b o:Nat)(vu Y:Value)(us:List (List Nat))(x:List Nat)(hP:BH Any w b o (AZ T))(B:AQ Any w vu (us.map ints))(d4:us.length<=6)(hx:AP Any w Y (ints x))(hn:NN Y)(hE:El T x)(U:fT T us):
  Calls Tryz.prog 103 #[.pointer (some ⟨b,o,none⟩),vu,Y] w (Jk T.length (Ev T us x) w):=by
 have d9:=hs.1;have d2:x.length=T.length:=Ad hE;have HP:=AB hP;have v:=AB B;have HL:=AB U;have HE:=AB (show∀k,El T (Ev T (us.take k) x) from λk=>U7 hT hg _ (λu B=>(U u (La B)).1) hE);have d5:=AB (Nu T hT hs 0 (AX _) hg);have L:=AB (BA hT hg);have d1:=AB (λd u y F B h1 J j hj=>nN hT hg (d:=d) (u:=u) (x:=y) F B h1 J (j:=j) hj);have c0:=AB (Te Any Y (ints x) w hx hn (by rw[BK];omega));have X:=AB (λW h=>Wd W vu us h (by omega) (λu B=>by have h:=U u B;have:=Ad h.1;omega));have HF:=AB (Ct hT hg);obtain⟨aU,cU,rfl,_,_⟩:=Am.form B;rw[BC]at v X ⊢;obtain⟨m,hm⟩:∃m,us.length=m:=⟨_,rfl⟩;rw[hm]at v X d4 ⊢;have HM:=AB hm;clear hP B hx hn hE U hm hT hs hg;go_enter Tryz.func103,Tryz.ntmps103;go_wp2_with fail;refine c0.AA.mono ?_;rintro e w1 ⟨g,c,rfl,a3,b1⟩;rw[BK,d2]at a3 ⊢;have a4:=AB b1;have a5:=AB a3;have b3:=AB (X.AA w1 (AQ.keep v.AA (AO b1)));clear a3 b1 c0 X;go_wp2_with fail;refine b3.AA.mono ?_;rintro e w2 ⟨vp,rfl,V,a9⟩;obtain⟨aP,cP,rfl,_⟩:=V.open;rw[BC,HM.AA]at V ⊢;have s:=AB (a4.AA.trans (a9.mono a4.AA.size));have a7:=a5.AA.lt;have d0:=AB (V.mono (S':=λk=>k≠g) (λk Z=>by have:=a7.2;omega));have d6:=AB (a5.AA.of_below a9);have c2:w.heap.size<=g:=a7.1;clear V a9 b3 a7 a4 a5;go_wp2_with fail;go_loopw [15] (λiv wr=>∃i:Nat,i<=m/\iv= .int .i64 (i:Int)/\Hid (Own w.heap.size wr (.slice (some ⟨g,0,none⟩) T.length c) (ints (Ev T (us.take i) x)))/\Hid (w2.grownBy wr (some g))) (λiv _=>m-(intOf iv).toNat);case atStart=>exact⟨0,AX _,rfl,d6,AB (EO.Qf _ _)⟩
 case round=>
  obtain⟨i,hi,rfl,C,D⟩:=hrel;have I:=AB (show Below w.heap.size w wr from s.AA.grown D.AA s.AA.size (by intro k Z;cases Z;exact c2));have a0:=EO.Kz (S:=λk=>k≠g) D.AA (λh=>h rfl);by_cases b7:i<m
  .obtain⟨u,B⟩:∃u,us[i]?=some u:=⟨_,AU (by rw[HM.AA];omega)⟩;obtain⟨Q,b4,a8⟩:=HL.AA u (Af B);obtain⟨d,F⟩:∃d,dep u=d:=⟨_,rfl⟩;rw[F]at b4 a8;have b2:=d0.AA.keep a0;obtain⟨bP,oP,rfl,_,e1,d3⟩:=AP.at b2 (j:=i) (q:=d) (by rw[Bh,B,<-F];rfl);obtain⟨y,J⟩:∃y,Ev T (us.take i) x=y:=⟨_,rfl⟩;have O:El T y:=J▸HE.AA i;have d7:=AB (show A (El T) fF d u from F▸Oa Q);have b9:=AB (show Fx T u y ((oF T d-fF d y)%oF T d)=Ev T (us.take (i+1)) x by rw[rM F,nO B,J]);obtain⟨K,l⟩:∃K,(oF T d-fF d y)%oF T d=K:=⟨_,rfl⟩;rw[l]at b9;have HZ:=AB (λj (hj:j<=K)=>show fF d (Fx T u y j)=0↔j=K by
    have h:=d1.AA d u y b4 d7.AA a8 O j (by rw[l];exact hj);rw[l]at h;exact h)
   have HY:=AB O;have a6:=AB Q;have c6:=AB B;rw[J]at C;have c8:=AB (show Fx T u y 0=y by unfold Fx;rw[GR];exact L.AA.eR O);have p:=AB (λj=>show El T (Fx T u y j) from L.AA.cl O (L.AA.npow Q j));have e5:(i:Int)<(m:Int):=by omega
   have e3:(0:Int)<=(d:Int):=by omega
   have e0:(d:Int)<(T.length:Int):=by omega
   clear B Q a8 b2 l J O F b7 a0 I;go_wp2_with fail;go_loopg [20] K (λgk dv wr=>gk<=K/\Hid (Own w.heap.size wr (.slice (some ⟨g,0,none⟩) T.length c) (ints (Fx T u y (K-gk))))/\Hid (w2.grownBy wr (some g)));case atStart=>exact⟨Al _,by rw[Gy,c8.AA];exact C,D⟩
   case round=>
    clear C D d3;obtain⟨e2,C,D⟩:=hrel;have I:=AB (show Below w.heap.size w wr from s.AA.grown D.AA s.AA.size (by intro k Z;cases Z;exact c2));obtain⟨a,ha,z⟩:∃a,(Fx T u y (K-gk))[d]?=some a/\fF d (Fx T u y (K-gk))=a:=
     ⟨_,AU (by rw[Ad (p.AA _)];omega),Rm (AU (by rw[Ad (p.AA _)];omega))⟩
    obtain⟨cA,_⟩:=C.AA.cell (j:=d) (a:=(a:Int)) (by rw[Dt,ha];rfl);have N:=HZ.AA (K-gk) (by omega);rw[z]at N;have d8:=C.AA.lt.2;obtain⟨bU,oU,q,rfl,_,b8,a2,hq⟩:=Am.get v.AA (k:=i) (x:=ints u) (by rw[Bh,c6.AA];rfl);have R:=AO (S:=Any) I.AA;have b5:=(R.cell (b:=bU) (o:=oU+i) trivial b8).trans a2;have e4:bU<wr.heap.size:=Ah b8 R.size;by_cases c7:gk=0
    .subst c7;have r:a=0:=N.2 (by omega);have c4:((a:Int) !=0)=false:=by simp[r]
     have b0:=AB (show Own w.heap.size wr (.slice (some ⟨g,0,none⟩) T.length c) (ints (Ev T (us.take (i+1)) x)) from by
      have h:=C.AA;rw[Nat.sub_zero,b9.AA]at h;exact h)
     clear ha z N r C hq a2 b5 R;go_wp2_with fail;go_roundw;case rel=>exact⟨i+1,by omega,by go_num,b0,D⟩
     case measure=>simp[intOf]<;>omega
    .have r:¬a=0:=λh=>by have:=N.1 h;omega
     have c4:((a:Int) !=0)=true:=by simp;omega
     have b6:=AB (show Calls Tryz.prog 144 #[.pointer (some ⟨b,o,none⟩),.slice (some ⟨g,0,none⟩) T.length c,q] wr (EO.VY w.heap.size g c (mul T (Fx T u y (K-gk)) u) wr) from
      d5.AA (λk=>k<w.heap.size) wr b o w.heap.size g c q [] (Fx T u y (K-gk)) u ((LQ HP.AA).keep (AO I.AA)) ((OH hq).keep (AO I.AA)) (by omega) rfl (p.AA _) a6.AA C.AA)
     have c5:=AB (show mul T (Fx T u y (K-gk)) u=Fx T u y (K-(gk-1)) from by
      rw[show K-(gk-1)=K-gk+1 by omega];unfold Fx;rw[Cu];exact L.AA.Ag HY.AA (L.AA.npow a6.AA _) a6.AA)
     clear ha z N r C hq a2 R;go_wp2_with fail;refine b6.AA.mono ?_;rintro e w5 ⟨rfl,a1,c1⟩;rw[c5.AA,Ad (p.AA _)]at a1;have c9:=AB a1;have c3:=AB (EO.FW D.AA c1);clear a1 c1 b6 b5 cA;go_wp2_with fail;go_roundg (gk-1);case measure=>omega
     case rel=>exact⟨by omega,c9,c3⟩
  .obtain rfl:i=m:=by omega
   have b0:=AB (show Jk T.length (Ev T us x) w (.returned (.slice (some ⟨g,0,none⟩) T.length c)) wr from⟨g,c,rfl,by
    have h:=C.AA;rw[<-HM.AA,FO]at h;exact h,I.AA⟩)
   clear C D I a0 b7;go_wp2_with fail;go_ret;exact b0.AA
end QS
namespace Hy
open RowKit AJ Gen CP Fe Dr IB Ea
theorem UT {α:Type}{t t':Nat->Option α}:∀(k d:Nat),(∀j,d<=j->t j=t' j)->BV t k d=BV t' k d
 |0,d,h=>rfl
 |k+1,d,h=>by rw[BV,BV,h d AV,UT k (d+1) (λj B=>h j (by omega))]
theorem UU {α:Type}{t:Nat->Option α}{k d:Nat}(h:t d=none):BV t (k+1) d=BV t k (d+1):=by rw[BV,h]
theorem UV {α:Type}{t:Nat->Option α}{k d:Nat}{y:α}(h:t d=some y):BV t (k+1) d=y::BV t k (d+1):=by rw[BV,h]
def FV (T:Tw)(t:Nat->Option (List Nat))(d:Nat)(B:Nat->Option (List Nat)):Prop:=
 ∀j,d<=j->(t j=none->B j=none)/\∀y,t j=some y->∃r,IG T t j r/\fF j r=1/\Zs fF t (j+1) T.length r/\B j=some r
abbrev Qa (T:Tw)(im:List (List Nat))(t:Nat->Option (List Nat)):Prop:=Oy (El T) (mul T) (AJ.one T) T.length fF (Ai T) im t
theorem FV.cf {T:Tw}{t B:Nat->Option (List Nat)}(h:FV T t 0 B):Cf (El T) (mul T) (AJ.one T) T.length fF (Ai T) t B:=λd=>h d (AX _)
theorem Cf.NG {T:Tw}{t B:Nat->Option (List Nat)}(h:Cf (El T) (mul T) (AJ.one T) T.length fF (Ai T) t B)(d:Nat):FV T t d B:=λj _=>h j
theorem nP {T:Tw}{im:List (List Nat)}{t:Nat->Option (List Nat)}(C:Qa T im t):FV T t T.length (λ_=>none):=λj D=>by
 cases h:t j with
 |none=>exact⟨λ_=>rfl,λy B=>by cases B⟩
 |some y=>have:=(C.tb j y h).1;omega
theorem rO {T:Tw}{t B:Nat->Option (List Nat)}{d k:Nat}(h:FV T t (d+1) B)(I:t d=none):∃C,FV T t d C/\BV C (k+1) d=BV B k (d+1):=by
 refine⟨λj=>if j=d then none else B j,λj F=>?_,?_⟩
 .by_cases e:j=d
  .subst e;exact⟨λ_=>by simp,λy D=>by rw[I]at D;cases D⟩
  .have:=h j (by omega);simp only[BF e];exact this
 .rw[UU (by simp)];exact UT _ _ (λj F=>by simp;intro h;omega)
theorem FV.w {T:Tw}{t B:Nat->Option (List Nat)}{d:Nat}(h:FV T t d B):∀j,d<=j->(t j=none->B j=none)/\∀y,t j=some y->∃r,IG T t j r/\fF j r=1/\B j=some r:=λj C=>
 ⟨(h j C).1,λy I=>by obtain⟨r,J,D,_,F⟩:=(h j C).2 y I;exact⟨r,J,D,F⟩⟩
theorem rP {T:Tw}(hT:Wf T)(hg:AJ.Good T){im:List (List Nat)}{t B:Nat->Option (List Nat)}(C:Qa T im t){d k:Nat}(N:d+1+k=T.length)(h:FV T t (d+1) B){y:List Nat}(D:t d=some y):
  ∃K,FV T t d K/\BV K (k+1) d=Ev T (BV B k (d+1)) y::BV B k (d+1):=by
 have F:=Ct hT hg;obtain⟨I,J,S⟩:=C.tb d y D;obtain⟨s,X,Q,U⟩:=PI hT hg C k (d+1) N h.w y J.1;have W:=C.sub d (Ci I);obtain⟨L,Y⟩:=Ej.1 X;have R:=W.cl (C.mem d y D) L;have O:fF d (mul T y s)=1:=by
  rw[(fr hT I J.1 L.1).2,S,Y,Iw];exact EC (by have:=F.lt I J.1;omega)
 refine⟨put B d (mul T y s),λj V=>?_,?_⟩
 .by_cases e:j=d
  .subst e;exact⟨λh=>(by rw[D]at h;cases h),λz Z=>⟨_,R,O,U,by unfold put;rw[BQ rfl]⟩⟩
  .have:=h j (by omega);unfold put;simp only[BF e];exact this
 .rw[UV (y:=mul T y s) (by unfold put;rw[BQ rfl]),Q];refine Ck _ (UT _ _ (λj V=>?_));unfold put;rw[BF (by omega)]
theorem Nt {α:Type}{t:Nat->Option α}{u:α}:∀{k d:Nat},u∈BV t k d->∃j,d<=j/\j<d+k/\t j=some u
 |0,d,h=>by simp[BV]at h
 |k+1,d,h=>by
  rw[BV]at h;cases B:t d with
  |none=>
   rw[B]at h;obtain⟨j,F,D,C⟩:=Nt h;exact⟨j,by omega,by omega,C⟩
  |some y=>
   rw[B]at h;rcases EE.1 h with rfl|h
   .exact⟨d,Al _,by omega,B⟩
   .obtain⟨j,F,D,C⟩:=Nt h;exact⟨j,by omega,by omega,C⟩
theorem RX {α:Type}(t:Nat->Option α):∀(k d:Nat),(BV t k d).length<=k
 |0,d=>by simp[BV]
 |k+1,d=>by
  have:=RX t k (d+1);rw[BV];split
  .omega
  .rw[DX];omega
theorem FV.row {T:Tw}{t D:Nat->Option (List Nat)}{d j:Nat}{u:List Nat}(h:FV T t d D)(L:d<=j)(C:D j=some u):IG T t j u/\fF j u=1/\Zs fF t (j+1) T.length u:=by
 have I:=h j L;cases F:t j with
 |none=>rw[I.1 F]at C;cases C
 |some y=>
  obtain⟨r,J,K,N,B⟩:=I.2 y F;rw[C]at B;injection B with B;subst B;exact⟨J,K,N⟩
theorem uX {T:Tw}(hT:Wf T)(hg:AJ.Good T){im tl I:List (List Nat)}(D:Fv T im tl)(h:FD T tl I 0):Cf (El T) (mul T) (AJ.one T) T.length fF (Ai T) (Ao tl) (Ao I):=λd=>by
 have F:=Ct hT hg;refine⟨((h d).1 (AX _)).1,λy B=>?_⟩;obtain⟨s,Q,L,O⟩:=((h d).1 (AX _)).2 y B;obtain⟨C,J,N⟩:=D.tb d y B;obtain⟨K,R⟩:=Ej.1 Q;refine⟨_,(D.sub d (Ci C)).cl (D.mem d y B) K,?_,O,L⟩;rw[(fr hT C J.1 K.1).2,N,R,Iw];exact EC (by have:=F.lt C J.1;omega)
def Dl (T:Tw)(im us:List (List Nat)):Prop:=∃t B,Qa T im t/\Cf (El T) (mul T) (AJ.one T) T.length fF (Ai T) t B/\us=BV B T.length 0
theorem Dl.el {T:Tw}{im us:List (List Nat)}(h:Dl T im us):∀u∈us,El T u:=by
 obtain⟨t,F,I,B,rfl⟩:=h;intro u C;obtain⟨j,_,_,D⟩:=Nt C;exact(FV.row (Cf.NG B 0) (AX _) D).1.1.1
theorem Dl.le {T:Tw}{im us:List (List Nat)}(h:Dl T im us):us.length<=T.length:=by
 obtain⟨t,B,D,C,rfl⟩:=h;exact RX _ _ _
theorem Dl.dep {T:Tw}{im us:List (List Nat)}(h:Dl T im us):∀u∈us,Dr.dep u<T.length:=by
 obtain⟨t,I,K,C,rfl⟩:=h;intro u D;obtain⟨j,_,J,F⟩:=Nt D;have B:=FV.row (Cf.NG C 0) (AX _) F;rw[MW B.1.1 (by rw[B.2.1];omega) (by omega)];omega
theorem Dl.Ev {T:Tw}(hT:Wf T)(hg:AJ.Good T){im us:List (List Nat)}(h:Dl T im us){x:List Nat}(C:El T x):Dr.Ev T us x=AJ.one T↔Gen (mul T) (AJ.one T) im x:=by
 obtain⟨t,K,B,D,rfl⟩:=h;obtain⟨s,J,F,I⟩:=PI hT hg B T.length 0 (by omega) (Cf.NG D 0).w x C;rw[F];exact Uc (Ct hT hg) B C J I
noncomputable def Gi (T:Tw)(t:Nat->Option (List Nat)):Nat->Nat->List Nat->List Nat
 |0,_,x=>x
 |k+1,d,x=>Gi T t k (d+1) (match t d with
  |none=>x
  |some u=>if fF d x=0 then x else mul T x (npow (mul T) (AJ.one T) (Ai T u) (fF d x)))
theorem nQ {T:Tw}{t:Nat->Option (List Nat)}{k d:Nat}{x:List Nat}(h:t d=none):Gi T t (k+1) d x=Gi T t k (d+1) x:=by rw[Gi,h]
theorem nT {T:Tw}{t:Nat->Option (List Nat)}{k d:Nat}{x:List Nat}(h:fF d x=0):Gi T t (k+1) d x=Gi T t k (d+1) x:=by
 rw[Gi];split
 .rfl
 .rw[BQ h]
theorem nW {T:Tw}{t:Nat->Option (List Nat)}{k d:Nat}{x u:List Nat}(h:t d=some u)(B:fF d x≠0):Gi T t (k+1) d x=Gi T t k (d+1) (mul T x (npow (mul T) (AJ.one T) (Ai T u) (fF d x))):=by
 rw[Gi,h];simp only[BF B]
theorem YC {T:Tw}(hT:Wf T)(hg:AJ.Good T){im:List (List Nat)}{t D:Nat->Option (List Nat)}(W:Qa T im t):
  ∀(k d:Nat),d+k=T.length->FV T t d D->∀x,El T x->∃s,IG T t d s/\Gi T D k d x=mul T x s/\Zs fF t d T.length (mul T x s)
 |0,d,hd,ht,x,hx=>⟨AJ.one T,(W.sub d (by omega)).me,by rw[(BA hT hg).eR hx];rfl,λi B N=>by omega⟩
 |k+1,d,hd,ht,x,hx=>by
  have F:=Ct hT hg;have G:=F.G;have K:=W.sub d (by omega);have h:=YC hT hg W k (d+1) (by omega) (λj C=>ht j (by omega));have a:∀z,IG T t d z->El T (mul T x z)->fF d (mul T x z)=0->Gi T D (k+1) d x=Gi T D k (d+1) (mul T x z)->∃s,IG T t d s/\Gi T D (k+1) d x=mul T x s/\Zs fF t d T.length (mul T x s):=by
   intro z Z V X q;obtain⟨s,B,N,S⟩:=h (mul T x z) V;have e:mul T (mul T x z) s=mul T x (mul T z s):=G.Ag hx Z.1.1 B.1.1;refine⟨mul T z s,K.cl Z (Ej.1 B).1,by rw[q,N,e],λi hi U L=>?_⟩;rw[<-e];rcases CU d i with I|l
   .exact S i I U L
   .obtain rfl:i=d:=by omega
    have Y:A (El T) fF (i+1) s:=B.1;rcases CU (i+1) T.length with I|a0
    .rw[(fr hT I V Y).1 i (by omega)];exact X
    .have u:s=AJ.one T:=F.ze B.1.1 λj C=>Y.2 j (by omega);rw[u,G.eR V];exact X
  by_cases Q:fF d x=0
  .exact a (AJ.one T) K.me (by rw[G.eR hx];exact hx) (by rw[G.eR hx];exact Q) (by rw[G.eR hx];exact nT Q)
  .cases R:t d with
   |none=>
    obtain⟨s,B,N,S⟩:=h x hx;refine⟨s,(Ej.1 B).1,by rw[nQ ((ht d AV).1 R)];exact N,λi hi U L=>?_⟩;rcases CU d i with I|l
    .exact S i I U L
    .obtain rfl:i=d:=by omega
     exact absurd R L
   |some y=>
    obtain⟨r,O,v,_,p⟩:=(ht d AV).2 y R;have C:d<T.length:=by omega
    have J:=K.npow (F.Gv K O) (fF d x);have b:=K.npow O (fF d x);have hR:=fr hT C hx J.1;have g:fF d (mul T (npow (mul T) (AJ.one T) r (fF d x)) (npow (mul T) (AJ.one T) (Ai T r) (fF d x)))=0:=by rw[(F.MR O.1.1 _).1,F.fe d C]
    rw[F.fm C b.1.1 J.1.1 b.1.2 J.1.2,F.GY C O.1,v,GZ,Nat.mod_add_mod]at g;exact a _ J (G.cl hx J.1.1) (by rw[hR.2];exact g) (nW p Q)
def NP (n:Nat)(us:List (List Nat)):List (List Nat):=us.foldl (λtl u=>tl.set (Dr.dep u) u) (List.replicate n [])
theorem Uq {n:Nat}{C:Nat->Option (List Nat)}(F:∀j u,C j=some u->Dr.dep u=j/\u≠[]/\j<n):∀(k d:Nat) (tl:List (List Nat)),d+k=n->tl.length=n->∀j,(j<d->Ao ((BV C k d).foldl (λtl u=>tl.set (Dr.dep u) u) tl) j=Ao tl j)/\
   (d<=j->Ao ((BV C k d).foldl (λtl u=>tl.set (Dr.dep u) u) tl) j=match C j with|none=>Ao tl j|some u=>some u)
 |0,d,tl,hk,hl,j=>by
  refine⟨λ_=>rfl,λI=>?_⟩;cases h:C j with
  |none=>rfl
  |some u=>have:=(F j u h).2.2;omega
 |k+1,d,tl,hk,hl,j=>by
  cases h:C d with
  |none=>
   rw[UU h];have B:=Uq F k (d+1) tl (by omega) hl j;refine⟨λI=>B.1 (by omega),λI=>?_⟩;rcases CU d j with D|D
   .exact B.2 D
   .obtain rfl:j=d:=by omega
    rw[B.1 (by omega),h]
  |some u=>
   obtain⟨K,L,N⟩:=F d u h;rw[UV h,List.foldl_cons,K];have B:=Uq F k (d+1) (tl.set d u) (by omega) (by simp[hl]) j;have J:Ao (tl.set d u) j=put (Ao tl) d u j:=by rw[Q4 (by omega) L]
   refine⟨λI=>?_,λI=>?_⟩
   .rw[B.1 (by omega),J];unfold put;rw[BF (by omega)]
   .rcases CU d j with D|D
    .rw[B.2 D,J];unfold put;rw[BF (by omega)]
    .obtain rfl:j=d:=by omega
     rw[B.1 (by omega),J,h];unfold put;rw[BQ rfl]
theorem Dl.NP {T:Tw}(N:0<T.length){us:List (List Nat)}{t B:Nat->Option (List Nat)}(J:FV T t 0 B)(K:∀j,T.length<=j->B j=none)(h:us=BV B T.length 0):Ao (Hy.NP T.length us)=B:=by
 funext j;have I:∀j u,B j=some u->Dr.dep u=j/\u≠[]/\j<T.length:=λj u C=>by
  have D:j<T.length:=by
   refine Nat.lt_of_not_le λh=>?_;rw[K j h]at C;cases C
  obtain⟨F,L,_⟩:=J.row (AX _) C;refine⟨MW F.1 (by omega) D,λe=>?_,D⟩;have:=Ad F.1.1;rw[e]at this;simp at this;omega
 rw[h];unfold Hy.NP;rw[(Uq I T.length 0 (List.replicate T.length []) (by omega) (by simp) j).2 (AX _),ME];cases B j<;>rfl
theorem Dl.red {T:Tw}(hT:Wf T)(hg:AJ.Good T)(L:0<T.length){im us:List (List Nat)}(h:Dl T im us){x:List Nat}(F:El T x):Gi T (Ao (Hy.NP T.length us)) T.length 0 x=AJ.one T↔Gen (mul T) (AJ.one T) im x:=by
 obtain⟨t,I,D,B,C⟩:=h;have K:∀j,T.length<=j->I j=none:=λj Q=>by
  refine(B j).1 ?_;cases J:t j with
  |none=>rfl
  |some y=>have:=(D.tb j y J).1;omega
 rw[Dl.NP L (Cf.NG B 0) K C];obtain⟨s,C,N,O⟩:=YC hT hg D T.length 0 (by omega) (Cf.NG B 0) x F;rw[N];exact Uc (Ct hT hg) D F C O
end Hy
namespace Sm
open RowKit AJ Gen CP Fe Dr IB DW Ea Oq Hy NH QU Vj QS
theorem ZB {e2:TypeId}{B:Nat}{w:World}{v:Value}{rows:List (List Nat)}{qs:List Value}(h:w.ownsRow B e2 1 v rows.length qs)(S:qs.length=rows.length)
  (I:∀(i:Nat) (r:List Nat) (u:Value),rows[i]?=some r->qs[i]?=some u->AP (λk=>B<=k) w u (ints r)):AQ (λk=>B<=k) w v (rows.map ints):=by
 rcases h.2 with⟨rfl,J⟩|⟨g,cap,R,rfl,L,K,O,Q,V,U⟩
 .obtain rfl:rows=[]:=Di J;exact⟨none,0,rfl,Al _,by simp,λ_=>rfl,λi x N=>by simp at N⟩
 .refine⟨some ⟨g,0,none⟩,cap,by simp,by simpa using O,Q,by simp,λi r C=>?_⟩;simp only[Bh,Hg]at C;obtain⟨F,C,rfl⟩:=C;have hi:=(Ak.1 C).1;obtain⟨u,D⟩:∃u,qs[i]?=some u:=⟨_,AU (by omega)⟩;refine⟨g,0,rfl,L,(Bt.1 K).1,u,?_,I i F u C D⟩;rw[CK,FZ h i (by omega)];exact D
def Lh (T:Tw)(im:List (List Nat))(w:World)(e:Ending)(w':World):Prop:=∃v us,e= .returned v/\Dl T im us/\AQ (λk=>w.heap.size<=k) w' v (us.map ints)/\Below w.heap.size w w'
def Vb (T:Tw)(im:List (List Nat))(w:World)(e:Ending)(w':World):Prop:=∃v us,e= .returned v/\Dl T im us/\AQ Any w' v (us.map ints)/\Below w.heap.size w w'
def Eh (T:Tw)(tl:List (List Nat))(k:Nat)(us:List (List Nat)):Prop:=∃B,FV T (Ao tl) k B/\us=BV B (T.length-k) k
theorem Eh.led {T:Tw}{tl us:List (List Nat)}{k:Nat}(N:k<=T.length)(h:Eh T tl k us):fT T us:=by
 obtain⟨L,J,rfl⟩:=h;intro u K;obtain⟨j,F,O,I⟩:=Nt K;obtain⟨B,D,_⟩:=J.row F I;have C:=MW B.1 (by omega) (show j<T.length by omega);exact⟨B.1.1,by omega,by rw[C];exact D⟩
theorem Eh.len {T:Tw}{tl us:List (List Nat)}{k:Nat}(h:Eh T tl k us):us.length<=T.length:=by
 obtain⟨B,C,rfl⟩:=h;have:=RX B (T.length-k) k;omega
theorem Eh.start {T:Tw}{im tl:List (List Nat)}(B:Fv T im tl):Eh T tl T.length []:=⟨_,nP B,by rw[Gy];rfl⟩
theorem Eh.none {T:Tw}{tl us:List (List Nat)}{k:Nat}(K:k<T.length)(h:Eh T tl (k+1) us)(F:Ao tl k=Option.none):Eh T tl k us:=by
 obtain⟨J,D,rfl⟩:=h;obtain⟨B,C,I⟩:=rO (k:=T.length-(k+1)) D F;exact⟨B,C,by rw[<-I,show T.length-(k+1)+1=T.length-k by omega]⟩
theorem Eh.some {T:Tw}(hT:Wf T)(hg:AJ.Good T){im tl us:List (List Nat)}{k:Nat}{y:List Nat}(J:Fv T im tl)(L:k<T.length)(h:Eh T tl (k+1) us)(D:Ao tl k=Option.some y):Eh T tl k (Ev T us y::us):=by
 obtain⟨K,I,rfl⟩:=h;obtain⟨B,C,F⟩:=rP hT hg J (k:=T.length-(k+1)) (by omega) I D;exact⟨B,C,by rw[<-F,show T.length-(k+1)+1=T.length-k by omega]⟩
theorem Eh.done {T:Tw}{im tl us:List (List Nat)}(D:Fv T im tl)(h:Eh T tl 0 us):Dl T im us:=by
 obtain⟨B,C,rfl⟩:=h;exact⟨_,B,D,C.cf,by rw[Nat.sub_zero]⟩
theorem UH (T:Tw)(hT:Wf T)(hs:Small T)(hg:AJ.Good T)(im tl:List (List Nat))(S:Nat->Prop)(w:World)(b o sb gb:Nat)(hP:BH Any w b o (AZ T))(s:DT w b o sb gb S T.length tl)(Y:Fv T im tl):
  Calls Tryz.prog 115 #[.pointer (some ⟨sb,0,none⟩)] w (Lh T im w):=by
 obtain⟨i0,hi,d1,d8,d6⟩:=Bd GJ;have HP:=AB hP;have HQ:=AB s;have HC:=AB Y;have c9:=AB Y.tb;have a8:=hs.1;have c7:=AB (λW vu vx us x D C h3 h4 h5 h6 h7=>YY T hT hs hg W b o vu vx us x D C h3 h4 h5 h6 h7);have e5:=AB (λus k y I h ht=>Eh.some hT hg Y (us:=us) (k:=k) (y:=y) I h ht);have d2:=AB (λus k I h ht=>Eh.none (T:=T) (tl:=tl) (us:=us) (k:=k) I h ht);have e8:=λ(w:World) (a:Option Addr) (n c:Nat)=>run_neq_slice_nil (P:=Tryz.prog) w 24 2 a n c Tryz.underlying24;have s0:=s.c0;have s1:=s.c1;have a6:=s.hs;have c8:IntKind.i64.wrap ((T.length:Int)-1)=(T.length:Int)-1:=Ac _ (by omega);have e7:=AB (Eh.start Y);have f0:=AB (λus (hu:∀u∈us,El T u) x hx=>U7 hT hg us (x:=x) hu hx);clear hP s Y hT hs hg;go_enter Tryz.func115,Tryz.ntmps115;go_wp2_with fail;go_loopw [3,4] (λX dv wr=>∃(k:Nat) (d:Int) (us:List (List Nat)),k<=T.length/\d=(k:Int)-1/\dv= .int .i64 d/\Hid (Eh T tl k us)/\Hid (AQ (λk=>w.heap.size<=k) wr X (us.map ints))/\Hid (Below w.heap.size w wr)) (λ_ dv _=>(intOf dv+1).toNat);case atStart=>exact⟨T.length,_,[],Al _,rfl,by first|rfl|simp[c8],e7,AB ⟨none,0,rfl,Al _,by simp,λ_=>rfl,λi x hx=>by simp at hx⟩,AB AY⟩
 case round=>
  obtain⟨k,d,us,I,hd,rfl,Z,K,J⟩:=hrel;clear s0 s1 a6;have Q:=AB (HQ.AA.below J.AA);cases k with
  |zero=>
   obtain rfl:d= -1:=by omega
   have d4:decide ((-1:Int)>=0)=false:=by decide
   have HR:=AB (show∀X,AQ (λk=>w.heap.size<=k) wr X (us.map ints)->Lh T im w (.returned X) wr from λX h=>⟨X,us,rfl,Eh.done HC.AA Z.AA,h,J.AA⟩);have e0:=AB (HR.AA _ K.AA);clear hd HR K J;go_wp2_with fail;go_ret;exact e0.AA
  |succ k=>
   obtain rfl:d=(k:Int):=by omega
   have d4:decide ((k:Int)>=0)=true:=by simp
   have f1:(0:Int)<=(k:Int):=by omega
   have e9:(k:Int)<(T.length:Int):=by omega
   have R:IntKind.i64.wrap ((k:Int)-1)=(k:Int)-1:=Ac _ (by omega);obtain⟨r,z⟩:∃r,tl[k]?=some r:=⟨_,AU (by rw[Q.AA.ln];omega)⟩;obtain⟨u,b5,_,N⟩:=Q.AA.tb.at z;have s0:=Q.AA.c0;have s1:=Q.AA.c1;have a6:=Q.AA.hs;have e6:=Q.AA.tb.lt;rcases N with⟨rfl,rfl⟩|⟨b4,N⟩
   .have p:=AB (d2.AA us k (by omega) Z.AA (KS z));clear z hd;go_wp2_with fail;go_roundw;case rel=>exact⟨k,_,us,by omega,rfl,by first|rfl|simp[R],p,K,J⟩
    case measure=>simp[intOf,R]<;>omega
   .have b6:=AB (GU z b4);have b9:=AB (c9.AA k r b6.AA).2.1.1;have b1:r.length=T.length:=Ad b9.AA;obtain⟨aR,cR,rfl,_⟩:=AP.open N;rw[b1]at b5 N;obtain⟨V,U,rfl⟩:∃V U,aR=some ⟨V,U,none⟩:=by
     obtain⟨V,U,h,_⟩:=AP.at N (j:=0) (q:=r[0]'(by omega)) (AU _);exact⟨V,U,h⟩
    have d7:=AB (Eh.led I Z.AA);have b3:=AB (Eh.len Z.AA);have p:=AB (e5.AA us k r (by omega) Z.AA b6.AA);have c4:=AB (HP.AA.keep (AO J.AA));have d3:=AB (N.mono (S':=Any) (λ_ _=>trivial));have c3:=AB (show NN (.slice (some ⟨V,U,none⟩) T.length cR) from λn c e=>by simp at e);obtain⟨y,hy⟩:∃y,Ev T us r=y:=⟨_,rfl⟩;rw[hy]at p;have HY:=AB hy;clear z b4 N b1 hd hy;go_wp2_with fail;go_region_held3 (λw'=>(∀b o,b<wr.heap.size->w'.cell? ⟨b,o,none⟩=wr.cell? ⟨b,o,none⟩)/\Keep (λ_=>True) wr w')
     (first|exact Ap (by repeat(first|exact Ab|exact AL|refine AR ?_ ‹_›)))
     (first|(go_at_call 103;refine(c7.AA _ _ (.slice (some ⟨V,U,none⟩) T.length cR) us r (c4.AA.keep (by repeat(first|exact AL.drew|exact AL))) (AQ.mono (AQ.keep (S:=λk=>w.heap.size<=k) K.AA (by repeat(first|exact AL.drew|exact AL))) (λ_ _=>trivial)) (Ae b3.AA a8) (d3.AA.keep (by repeat(first|exact AL.drew|exact AL))) c3.AA b9.AA d7.AA).mono ?_;rintro e F ⟨L,O,rfl,a3,b7⟩))
    rename_i d5;clear d5;rw[HY.AA]at a3;have a7:Below wr.heap.size wr F:=(AY.drew).trans b7;have a1:=AB (J.AA.trans (a7.mono J.AA.size));have b2:=AB (a3.sl.mono (S':=λk=>w.heap.size<=k) (λk I=>Ae J.AA.size I));have a4:=AB (AQ.keep K.AA (AO a7));have a2:=AB (a1.AA.alloc a1.AA.size (.cells #[.slice (some ⟨L,0,none⟩) T.length O] 24));have a0:=AB (JD (base:=w.heap.size) (e:=24) (size:=1) F #[.slice (some ⟨L,0,none⟩) T.length O] 1 a1.AA.size (by unfold maxLen;omega) rfl);clear a3 b7 a7 b5 s0 s1 a6 e6;obtain⟨ao,cO,b0,_,_⟩:=Am.form a4.AA;rw[BC]at b0;subst b0;cases ao with
    |none=>
     obtain⟨d9,rfl⟩:us=[]/\cO=0:=by
      obtain⟨f3,c',e1,e2,_,e3,_⟩:=a4.AA;simp only[Du]at e1;obtain⟨rfl,e4,rfl⟩:=e1;have h0:=e3 rfl;exact⟨Di (by rw[BC]at e2;omega),h0⟩
     subst d9;have HF:=AB (show AQ (λk=>w.heap.size<=k) (F.alloc (.cells #[.slice (some ⟨L,0,none⟩) T.length O] 24)) (.slice (some ⟨F.heap.size,0,none⟩) 1 1) ([y].map ints) from ZB (qs:=[.slice (some ⟨L,0,none⟩) T.length O]) a0.AA rfl (λi r u D C=>by
      match i,D,C with
      |0,D,C=>simp at D C;subst D;subst C;exact b2.AA.keep (AL.alloc _)))
     clear K;go_wp2_with (at_builtin;(refine wpList_append_own_none rfl _ _ 25 rfl w.heap.size 24 i0 1 Tryz.underlying25 hi _ 1 _ rfl a0.AA rfl ?_));go_wp2_with fail;go_roundw;case rel=>exact⟨k,_,[y],by omega,rfl,by first|rfl|simp[R],p,HF,a2⟩
     case measure=>simp[intOf,R]<;>omega
    |some ad=>
     obtain⟨qs,D,C,h3,h4⟩:=Y8 a4.AA;have a9:∀j u,qs[j]?=some u->(F.alloc (.cells #[.slice (some ⟨L,0,none⟩) T.length O] 24)).cell? (ad.add j)=some u:=λj u hu=>by
      have h:=h3 j u hu;have hb:(ad.add j).block<F.heap.size:=by
       rcases CU (ad.add j).block F.heap.size with h'|h'
       .exact h'
       .simp[World.cell?,Array.getElem?_eq_none h']at h
      rw[World.cell?_of_block (w:=F) (Dv F _ _ hb)];exact h
     have C1:=AB a9;have C2:=AB h4;have f2:us.length<=6:=Ae b3.AA a8;have C3:=AB (show 1+us.length<=maxLen by unfold maxLen;omega);have C4:=AB (show(1+us.length)*24<=140737488355328 by omega);have C5:=AB (show qs.length=us.length*1 by omega);have C6:=AB (And.intro D C);clear D C h3 h4 a9 K;go_wp2_with (at_builtin;refine DR _ rfl _ _ 25 rfl w.heap.size 24 i0 (.slice none 0 0) 1 24 Tryz.underlying25 hi d1 d8 d6 rfl (by decide) _ _ _ rfl a0.AA ad us.length cO qs rfl C5.AA C1.AA C2.AA C3.AA C4.AA (by have:=a1.AA.size;simp;omega) ?_);intro v' w6 c2 a5 c6;have HF:=AB (show AQ (λk=>w.heap.size<=k) w6 v' ((y::us).map ints) from ZB (qs:=.slice (some ⟨L,0,none⟩) T.length O::qs) (B:=w.heap.size) (e2:=24) (by rw[DX,Gh];simpa using c2) (by simp[C6.AA.1]) (λi r u D C=>by
      have b8:∀v l,AP (λk=>w.heap.size<=k) F v l->AP (λk=>w.heap.size<=k) w6 v l:=λv l h=>
       (((Ps h).keep ((Keep.refl _ F).alloc (.cells #[.slice (some ⟨L,0,none⟩) T.length O] 24))).keep (Keep.grown a5 (λk I e=>by simp[Value.ownBlock]at e;omega))).mono (λk I=>I.1)
      cases i with
      |zero=>simp at D C;subst D;subst C;exact b8 _ _ b2.AA
      |succ i=>exact b8 _ _ (C6.AA.2 i r u (by simpa using D) (by simpa using C))))
     have d0:=AB (show Below w.heap.size w w6 from a2.AA.grown a5 a2.AA.size (λg hg=>(Aq a0.AA g hg).1));clear c2 a5 c6;go_wp2_with fail;go_roundw;case rel=>exact⟨k,_,y::us,by omega,rfl,by first|rfl|simp[R],p,HF,d0⟩
     case measure=>simp[intOf,R]<;>omega
theorem rQ (T:Tw)(hT:Wf T)(I:Small T)(hg:AJ.Good T)(im tl:List (List Nat))(S:Nat->Prop)(w:World)(b o B gb:Nat)(J:BH Any w b o (AZ T))(F:DT w b o B gb S T.length tl)(N:Fv T im tl):
  Calls Tryz.prog 115 #[.pointer (some ⟨B,0,none⟩)] w (Vb T im w):=by
 refine(UH T hT I hg im tl S w b o B gb J F N).mono ?_;rintro e w' ⟨v,us,L,C,D,K⟩;exact⟨v,us,L,C,AQ.mono D (λ_ _=>trivial),K⟩
theorem pK (T:Tw)(hT:Wf T)(J:Small T)(hg:AJ.Good T)(Z:EN.Pr T)(w:World)(b o:Nat)(N:Value)(im:List (List Nat))(R:BH Any w b o (AZ T))(a:AQ Any w N (im.map ints))(V:∀x∈im,El T x)(g:im.length<=6):
  Calls Tryz.prog 82 #[.pointer (some ⟨b,o,none⟩),N] w (Vb T im w):=by
 have U:=AB (TW T J.1 w b o R);have X:=AB (λW F gb C B D=>rJ T hT J hg Z W b o F gb N im C B D V g);have r:=AB (λtl S W F gb C B D=>rQ T hT J hg im tl S W b o F gb C B D);have l:=AB R;have u:=AB a;clear R a V g hT J hg Z;go_enter Tryz.func82,Tryz.ntmps82;go_wp2_with fail;refine U.AA.mono ?_;rintro e p ⟨F,gb,rfl,y,a0,I,K⟩;have Y:=AB (X.AA p F gb (((LQ l.AA).keep (AO K)).mono (λk L=>by omega)) I ((AQ.keep (U8 u.AA) (AO K)).mono (λk L=>by omega)));have O:=AB K;clear I K U X;go_wp2_with fail;refine Y.AA.mono ?_;rintro e i ⟨z,tl,rfl,j,I,d⟩;have Q:=AB (show Below w.heap.size w i from O.AA.grown d O.AA.size (by intro k L;cases L;exact y));have h:=AB (r.AA tl _ i F gb (l.AA.keep (AO Q.AA)) I j);clear j I d Y O;go_wp2_with fail;refine h.AA.mono ?_;rintro e q ⟨v,us,rfl,C,B,D⟩;have s:=AB (show Vb T im w (.returned v) q from⟨v,us,rfl,C,B,Q.AA.trans (D.mono Q.AA.size)⟩);clear C B D h;go_wp2_with fail;go_ret;exact s.AA
end Sm
end Go.Proofs.YtgjadpmbnejaoaaGreat
