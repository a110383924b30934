import Derived.Test.YtgjadpmbnejaoaaGreatZB
import Derived.Shelf.Bits.Mul64
import Derived.Shelf.Spec.SlicesInsert
/-
  Lemmas for the law FnAutomorphisms, in short spelling.
-/
set_option linter.unusedVariables false
set_option linter.unusedSimpArgs false
set_option maxRecDepth 100000
set_option maxHeartbeats 40000000
namespace Go.Proofs.YtgjadpmbnejaoaaGreat
namespace Sl
open AJ Gen CP Fe Dr BN CL Dk EF Ll Lr QR Hy Gj Sk
theorem YT {α:Type}:∀(M L:List α),M.Nodup->(∀x∈M,x∈L)->L.length<=M.length->M.Perm L
 |[],L,_,_,h=>by
  rw[List.length_eq_zero_iff.1 (Nat.le_zero.1 h)]
 |x::M,L,hn,hs,hl=>by
  classical
  obtain⟨I,F⟩:=List.nodup_cons.1 hn;have B:=hs x CJ;have D:=List.perm_cons_erase B;have J:=List.length_erase_of_mem B;have K:=List.length_pos_of_mem B;rw[DX]at hl;exact((YT M (L.erase x) F (λy C=>(List.mem_erase_of_ne (λe=>I (by rw[<-e];exact C))).2 (hs y (CW _ C))) (by omega)).cons x).trans D.symm
theorem jN {n:Nat}{f:Nat->Nat}(h:∀y,y<n->∃x,x<n/\f x=y):∀a b,a<n->b<n->f a=f b->a=b:=by
 have I:=YT (List.range n) ((List.range n).map f) List.nodup_range (λy J=>by
  obtain⟨x,K,e⟩:=h y (Cg.1 J);exact BX.2 ⟨x,Cg.2 K,e⟩) (by simp)
 have L:((List.range n).map f).Nodup:=I.nodup_iff.1 List.nodup_range;have D:=List.pairwise_iff_getElem.1 (List.pairwise_map.1 L);intro a b ha F e;rcases OL a b with B|B|B
 .have C:=D a b (by simpa using ha) (by simpa using F) B;rw[List.getElem_range,List.getElem_range]at C;exact absurd e C
 .exact B
 .have C:=D b a (by simpa using F) (by simpa using ha) B;rw[List.getElem_range,List.getElem_range]at C;exact absurd e.symm C
theorem XZ {α:Type}{t:Nat->Option α}:∀{k d:Nat},(BV t k d).length=k->∀j,d<=j->j<d+k->t j≠none
 |0,d,_,j,h1,h2=>by omega
 |k+1,d,h,j,h1,h2=>by
  have D:=RX t k (d+1);rw[BV]at h;cases B:t d with
  |none=>rw[B]at h;simp only at h;omega
  |some y=>
   rw[B]at h;rw[DX]at h;rcases CU d j with C|C
   .exact XZ (k:=k) (d:=d+1) (by omega) j (by omega) (by omega)
   .obtain rfl:j=d:=by omega
    rw[B];simp
theorem kV {T:Tw}(hT:Wf T)(hg:AJ.Good T){im us:List (List Nat)}(h:Dl T im us)(K:us.length=T.length){x:List Nat}(B:El T x):Gen (mul T) (AJ.one T) im x:=by
 obtain⟨t,O,I,C,rfl⟩:=h;have F:=Ct hT hg;obtain⟨s,D,Q,J⟩:=Dr.PI hT hg I T.length 0 (by omega) (Cf.NG C 0).w x B;refine(Uc F I B D J).1 (F.ze (F.G.cl B D.1.1) λj N=>J j (AX _) N λL=>?_);exact XZ K j (AX _) (by omega) ((C j).1 L)
theorem RY {T:Tw}(hT:Wf T):∀(us:List (List Nat)) (d:Nat),d<=T.length->Om T us->(∀u∈us,d<=dep u)->
  us.length<=T.length-d/\sz (BI T us)<=sz (T.drop d)/\(us.length=T.length-d->sz (BI T us)=sz (T.drop d))/\(sz (T.drop d)<=sz (BI T us)->us.length=T.length-d)
 |[],d,hd,_,_=>by
  have W:=FM (DJ hT d);have U:sz (BI T [])=1:=rfl;rw[U];refine⟨AX _,W,λh=>?_,λh=>?_⟩
  .have e:d=T.length:=by simp at h;omega
   rw[e,JZ];rfl
  .rcases CU d T.length with C|S
   .obtain⟨L,B⟩:∃L,T[d]?=some L:=⟨_,AU C⟩;have D:=Jt B;have O:=FM (DJ hT (d+1));have N:=(En hT B).2.2.2.2;have x:2*1<=L.o*sz (T.drop (d+1)):=Nat.mul_le_mul N O;omega
   .simp;omega
 |u::us,d,hd,hc,hu=>by
  obtain⟨y,Q,-, C,-, -, V⟩:=hc;have l:=hu u CJ;obtain⟨j,R⟩:∃j,dep u=j:=⟨_,rfl⟩;rw[R]at Q C l;obtain⟨a1,q,X,Z⟩:=RY hT us (j+1) (by omega) V λv i=>C v i;obtain⟨L,B⟩:∃L,T[j]?=some L:=⟨_,AU Q⟩;have D:=Jt B;have O:=FM (DJ hT (j+1));have N:=(En hT B).2.2.2.2;have g:sz (BI T (u::us))=L.o*sz (BI T us):=by
   show oF T (dep u)*_=_;rw[R,He B]
  have r:∀k,sz (T.drop j)*2^k<=sz (T.drop (j-k))\/j<k:=λk=>by
   induction k with
   |zero=>left;simp
   |succ k F=>
    rcases F with F|F
    .rcases CU j (k+1)with h|h
     .right;exact h
     .left;obtain⟨M,J⟩:∃M,T[j-(k+1)]?=some M:=⟨_,AU (by omega)⟩;have K:=Jt J;rw[show j-(k+1)+1=j-k by omega]at K;have a:=(En hT J).2.2.2.2;rw[K,Ke,<-Nat.mul_assoc,JC _ 2];exact Nat.mul_le_mul a F
    .right;omega
  have b:sz (T.drop j)*2^(j-d)<=sz (T.drop d):=by
   rcases r (j-d)with h|h
   .rwa[show j-(j-d)=d by omega]at h
   .omega
  have Y:sz (T.drop j)<=sz (T.drop d):=Ae (Nat.le_mul_of_pos_right _ (Nat.pow_pos (by omega))) b;rw[g,DX];have p:L.o*sz (BI T us)<=sz (T.drop j):=by rw[D];exact Md _ q
  refine⟨by omega,Ae p Y,λh=>?_,λh=>?_⟩
  .have I:j=d:=by omega
   rw[<-I,D,X (by omega)]
  .have I:j=d:=by
    rcases CU d j with C|S
    .have z:sz (T.drop j)*2<=sz (T.drop j)*2^(j-d):=Md _ (by
      have:2^1<=2^(j-d):=MX (by omega) (by omega);simpa using this)
     have s:=FM (DJ hT j);omega
    .omega
   rw[<-I,D]at h;have:=Z (Nat.le_of_mul_le_mul_left h (by omega));omega
theorem Xa {T:Tw}(hT:Wf T)(hg:AJ.Good T)(J:GQ T){a us:List (List Nat)}(hi:∀c∈a,El T c)(F:Rel (mul T) (AJ.one T) T a)(K:Dl T a us):us.length=T.length↔BD T T a:=by
 obtain⟨L,W⟩:=Pg hT hg J K;have G:=BA hT hg;constructor
 .intro R;refine⟨hi,F,?_⟩;have U:∀y,y<sz T->∃x,x<sz T/\num T (ev (mul T) (AJ.one T) a (at_ T x))=y:=λy B=>by
   obtain⟨z,C,e⟩:=(Pp hT hg hT hi F _).1 (kV hT hg K R (Cb hT y));exact⟨num T z,Em C hT,by rw[EY hT C,e,LX,EC B]⟩
  have Q:=jN U;intro x y D B e;refine Ua hT D B (Q _ _ (Em D hT) (Em B hT) ?_);rw[EY hT D,EY hT B,e]
 .intro O;have S:us.length=T.length-0:=(RY hT us 0 (AX _) L λ_ _=>AX _).2.2.2 (by
   rw[List.drop_zero];have V:∀y∈List.range (sz T),y∈(List.range (sz (BI T us))).map λk=>num T (ev (mul T) (AJ.one T) us (at_ (BI T us) k)):=λy B=>by
    have B:=Cg.1 B;have N:=(Pp hT hg hT hi F _).2 (XW hT hg hT O AV (Cb hT y));obtain⟨z,C,e⟩:=(W _).2 N;have I:=(Pq hT hg J L).wf;exact BX.2 ⟨num _ z,Cg.2 (Em C I),by rw[EY I C,e,LX,EC B]⟩
   have:=Qp _ _ List.nodup_range V;simpa using this)
  simpa using S
theorem pE {T:Tw}(hT:Wf T)(hg:AJ.Good T)(B:GQ T){a us:List (List Nat)}(C:Dl T a us):us.length=T.length↔sz (BI T us)=sz T:=by
 obtain⟨D,_⟩:=Pg hT hg B C;have h:=RY hT us 0 (AX _) D λ_ _=>AX _;rw[List.drop_zero,Nat.sub_zero]at h;exact⟨h.2.2.1,λe=>h.2.2.2 (by omega)⟩
end Sl
namespace dZ
open RowKit Lib AJ Bv Dn
def Gl (l:List Int)(k:Nat):List Int:=(List.range l.length).map λt=>if t<k\/l.length-k<=t then l.getD (l.length-1-t) 0 else l.getD t 0
theorem Nk (l:List Int)(k:Nat):(Gl l k).length=l.length:=by simp[Gl]
theorem Nl {l:List Int}{k t:Nat}(h:t<l.length):(Gl l k)[t]?=some (if t<k\/l.length-k<=t then l.getD (l.length-1-t) 0 else l.getD t 0):=by
 unfold Gl;rw[Bh,List.getElem?_range h];rfl
theorem getD_some {l:List Int}{t:Nat}(h:t<l.length):l[t]?=some (l.getD t 0):=by
 rw[BG,AU h];rfl
theorem kW (l:List Int):Gl l 0=l:=by
 refine GN λt=>?_;by_cases h:t<l.length
 .rw[Nl h,BF (by omega),getD_some h]
 .rw[Dq (by rw[Nk];omega),Dq (by omega)]
theorem kX {l:List Int}{k:Nat}(h:k<l.length-1-k):((Gl l k).set k (l.getD (l.length-1-k) 0)).set (l.length-1-k) (l.getD k 0)=Gl l (k+1):=by
 refine GN λt=>?_;by_cases B:t<l.length
 .rw[Nl B];by_cases D:t=l.length-1-k
  .subst D;rw[Jj (by rw[List.length_set,Nk];exact B),BQ (by omega),show l.length-1-(l.length-1-k)=k by omega]
  .rw[KA (λe=>D e.symm)];by_cases C:t=k
   .subst C;rw[Jj (by rw[Nk];exact B),BQ (by omega)]
   .rw[KA (λe=>C e.symm),Nl B];by_cases F:t<k\/l.length-k<=t
    .rw[BQ F,BQ (by omega)]
    .rw[BF F,BF (by omega)]
 .rw[Dq (by rw[List.length_set,List.length_set,Nk];omega),Dq (by rw[Nk];omega)]
theorem pF {l:List Int}{k:Nat}(h:¬k<l.length-1-k):Gl l k=l.reverse:=by
 refine GN λt=>?_;by_cases B:t<l.length
 .rw[Nl B,List.getElem?_reverse B,getD_some (by omega)];by_cases C:t<k\/l.length-k<=t
  .rw[BQ C]
  .rw[BF C,show l.length-1-t=t by omega]
 .rw[Dq (by rw[Nk];omega),Dq (by rw[List.length_reverse];omega)]
def VO (B n:Nat)(v:Value)(l:List Int)(w:World)(e:Ending)(w':World):Prop:=e= .returned (.tuple #[])/\w'.ownsRow B 2 1 v n (vals l.reverse)/\w.grownBy w' v.ownBlock
theorem Xb (w:World)(r:Option Nat):w.grownBy w r:=⟨rfl,rfl,rfl,Al _,λ_ _ _=>rfl⟩
theorem pG (n:Nat)(a:Option Addr)(c:Nat)(l:List Int)(K:l.length=n)(hn:n<=1000)(B:Nat)(w:World)(h:w.ownsRow B 2 1 (.slice a n c) n (vals l)):
  Calls Tryz.prog 195 #[.slice a n c] w (VO B n (.slice a n c) l w):=by
 by_cases Z:n=0
 .subst Z;obtain rfl:=Di K;have O:=AB (show VO B 0 (.slice a 0 c) [] w (.returned (.tuple #[])) w from⟨rfl,h,Xb _ _⟩);clear h K;go_enter Tryz.func195,Tryz.ntmps195;go_wp2_with fail;go_loopw [2,3] (λI F wr=>I= .int .i64 0/\F= .int .i64 (-1)/\wr=w) (λ_ _ _=>0);case atStart=>exact⟨rfl,rfl,rfl⟩
  case round=>
   obtain⟨rfl,rfl,rfl⟩:=hrel;go_wp2_with fail;go_end0;exact O.AA
 .obtain⟨g,cap,z,_,_⟩:=World.ownsRow.form h (Nat.pos_of_ne_zero Z);injection z with e1 _ e3;subst e1;subst e3;have D:=AB K;have W:=AB (show w.ownsRow B 2 1 (.slice (some ⟨g,0,none⟩) n c) n (vals (Gl l 0)) by rw[kW];exact h);have a0:IntKind.i64.wrap ((n:Int)-1)=(n:Int)-1:=Ac _ (by omega);clear h K;go_enter Tryz.func195,Tryz.ntmps195;go_wp2_with fail;go_loopw [2,3] (λI F wr=>∃(k:Nat) (q:Int),I= .int .i64 (k:Int)/\F= .int .i64 q/\Hid (q=(n:Int)-1-(k:Int)/\k<=n)/\Hid (wr.ownsRow B 2 1 (.slice (some ⟨g,0,none⟩) n c) n (vals (Gl l k)))/\Hid (w.grownBy wr (some g))) (λI F _=>(intOf F-intOf I).toNat);case atStart=>exact⟨0,(n:Int)-1,rfl,rfl,AB ⟨by simp,AX _⟩,W,AB (Xb _ _)⟩
  case round=>
   clear W a0;obtain⟨k,q,rfl,rfl,J,C,L⟩:=hrel;by_cases a4:(k:Int)<q
   .obtain⟨j,hj⟩:∃j:Nat,q=(j:Int):=⟨q.toNat,by omega⟩;subst hj;have R:j=n-1-k:=by have:=J.AA;omega
    have Q:j<n:=by omega
    have N:k<n:=by omega
    have X:=AB (And.intro R (And.intro Q N));have V:=FZ C.AA k (by omega);have u:=FZ C.AA j (by omega);have f1:=Me C.AA k;have f2:=Me C.AA j;have a8:=(Aq C.AA g rfl).2;have r:(vals (Gl l k))[k]?=some (.int .i64 (l.getD k 0)):=by
     rw[vals,Bh,Nl (by rw[D.AA];exact N),BF (by rw[D.AA];omega)];rfl
    have b:(vals (Gl l k))[j]?=some (.int .i64 (l.getD j 0)):=by
     rw[vals,Bh,Nl (by rw[D.AA];exact Q),BF (by rw[D.AA];omega)];rfl
    rw[r]at V;rw[b]at u;obtain⟨x,U⟩:∃x,l.getD k 0=x:=⟨_,rfl⟩;obtain⟨y,S⟩:∃y,l.getD j 0=y:=⟨_,rfl⟩;rw[U]at V;rw[S]at u;obtain⟨s,d⟩:=Jz C.AA k (.int .i64 y);obtain⟨v,Y⟩:=Jz s j (.int .i64 x);have p:=AB (show((wr.setCell ⟨g,k,none⟩ (.int .i64 y)).setCell ⟨g,j,none⟩ (.int .i64 x)).ownsRow B 2 1 (.slice (some ⟨g,0,none⟩) n c) n (vals (Gl l (k+1))) by
     have e:vals (Gl l (k+1))=((vals (Gl l k)).set k (.int .i64 y)).set j (.int .i64 x):=by
      rw[<-kX (l:=l) (k:=k) (by rw[D.AA];omega),D.AA,<-R,U,S];simp[vals,List.map_set]
     rw[e];exact v)
    have i:=AB (show w.grownBy ((wr.setCell ⟨g,k,none⟩ (.int .i64 y)).setCell ⟨g,j,none⟩ (.int .i64 x)) (some g) from Bl.Jd (Bl.Jd L.AA d) Y);have a1:¬k=j:=by omega
    have a9:(0:Int)<=(k:Int):=by omega
    have a7:(0:Int)<=(j:Int):=by omega
    have a5:(k:Int)<(n:Int):=by omega
    have a3:(j:Int)<(n:Int):=by omega
    have a6:IntKind.i64.wrap ((k:Int)+1)=(k:Int)+1:=Ac _ (by omega);have a2:IntKind.i64.wrap ((j:Int)-1)=(j:Int)-1:=Ac _ (by omega);clear s d v Y U S r b J C L R Q N;go_upto_region 3 with fail;go_region_law (fail);all_goals
     go_wp2_with fail;go_roundw;case rel=>exact⟨k+1,(j:Int)-1,by go_num,rfl,AB ⟨by have:=X.AA;omega,by have:=X.AA;omega⟩,by first|exact p|exact AB p.AA,by first|exact i|exact AB (Bl.Ju i.AA)⟩
     case measure=>simp[intOf];omega
   .have O:=AB (show VO B n (.slice (some ⟨g,0,none⟩) n c) l w (.returned (.tuple #[])) wr from⟨rfl,by
     have h:=C.AA;rwa[pF (by rw[D.AA];have:=J.AA;omega)]at h,L.AA⟩)
    clear C L J;go_wp2_with fail;go_end0;exact O.AA
theorem Tj {α:Type}{l:List α}{i:Nat}{x:α}(h:l[i]?=some x):l.take (i+1)=l.take i++[x]:=by rw[EL,h];rfl
theorem kY (a:Option Addr)(n c:Nat)(l:List Int)(h:l.length=n)(hn:n<=1000)(U:∀x∈l,-1000<=x/\x<=1000)(w:World)(q:AP (λ_=>True) w (.slice a n c) l):
  Calls Tryz.prog 141 #[.slice a n c] w (Dz (CQ l) w):=by
 obtain⟨i0,a9,y,a2,a5⟩:=Bd Dh;have HV:=AB q;have J:=AB h;have HN:=AB U;have O:=AB (show w.ownsRow w.heap.size 2 1 (.slice none 0 0) 0 (vals ((l.take 0).map λl=> -l)) from by simp[vals];exact FY _ _ _ _);clear q h U;go_enter Tryz.func141,Tryz.ntmps141;go_wp2_with fail;go_loopw [3,8] (λov L wr=>∃(i:Nat) (D:Option Addr) (F:Nat),i<=n/\L= .int .i64 (i:Int)/\ov= .slice D i F/\Hid (wr.ownsRow w.heap.size 2 1 (.slice D i F) i (vals ((l.take i).map λl=> -l)))/\Hid (Below w.heap.size w wr)) (λ_ L _=>n-(intOf L).toNat);case atStart=>exact⟨0,_,_,AX _,rfl,rfl,O,AB AY⟩
 case round=>
  clear O;obtain⟨i,D,F,b1,rfl,rfl,I,C⟩:=hrel;by_cases v:i<n
  .obtain⟨x,K⟩:∃x,l[i]?=some x:=⟨_,AU (by rw[J.AA];omega)⟩;have a4:=HN.AA x (Af K);obtain⟨b,o,u,rfl,_,r,a7,rfl⟩:=Ce (HV.AA.keep (AO C.AA)) K;have b4:IntKind.i64.wrap (-x)= -x:=Ac _ (by omega);have b5:(0:Int)<=(i:Int):=by omega
   have b3:(i:Int)<(n:Int):=by omega
   have R:=AB (show vals ((l.take (i+1)).map λl=> -l)=vals ((l.take i).map λl=> -l)++[.int .i64 (-x)] by
    rw[Tj K];simp[vals])
   have Q:=AB v;obtain⟨p,W⟩:∃p,(l.take i).map (λl=> -l)=p:=⟨_,rfl⟩;have B:=I.AA;rw[W]at B R;have N:=Aw B (S:=λ_=>True) ((Keep.refl _ wr).alloc (.cells #[.int .i64 (-x)] 2)) (λ_ _=>trivial);have j:=C.AA.size;clear I B K a4 W;go_wp2_with (at_builtin;(refine ER _ rfl _ _ 24 rfl w.heap.size 2 i0 (.int .i64 0) 1 8 Tryz.underlying24 a9 y a2 a5 rfl (by decide) _ _ _ rfl N ⟨wr.heap.size,0,none⟩ 1 1 [.int .i64 (-x)] rfl rfl (Cw (cs:= #[.int .i64 (-x)]) (t:=2) (fr:=(0,0)) (Aj wr _)) (by simp[Value.oneCell']) (by decide) (by unfold maxLen;omega) (by omega) (by simp;omega) _ rfl ?_));intro g2 Z w6 X Y a0 a8;have s:=AB ((C.AA.alloc j (.cells #[.int .i64 (-x)] 2)).grown Y (by simp;omega) (λg hg=>(Aq N g hg).1));have a6:=AB (show w6.ownsRow w.heap.size 2 1 (.slice (some ⟨g2,0,none⟩) (i+1) Z) (i+1) (vals ((l.take (i+1)).map λl=> -l)) from by
    rw[R.AA];simpa[vals]using X)
   clear N X Y a0 a8 C j a7 r;go_wp2_with fail;go_roundw;case rel=>exact⟨i+1,_,Z,Q.AA,by go_num,rfl,a6,s⟩
   case measure=>have:=Q.AA;simp[intOf];omega
  .obtain rfl:i=n:=by omega
   have b2:¬(i:Int)<(i:Int):=by omega
   have B:=I.AA;rw[show l.take i=l by rw[<-J.AA,FO]]at B;have b0:=AB (pG i D F (l.map λl=> -l) (by rw[BC,J.AA]) hn w.heap.size wr B);have a3:=AB B;clear I B;go_wp2_with (go_at_call 195;refine b0.AA.mono ?_;rintro e w7 ⟨rfl,d,V⟩;have z:=AB (show Dz (CQ l) w (.returned (.slice D i F)) w7 from⟨_,rfl,(by unfold Own;rw[NZ,J.AA];exact d),C.AA.grown V C.AA.size (λk hk=>(Aq a3.AA k hk).1)⟩);clear d V);go_ret;exact z.AA
end dZ
namespace dh
open RowKit AJ Bv Lib
theorem jO (x y:Nat)(C:x<18446744073709551616)(B:y<18446744073709551616)(w:World):
  Calls Tryz.prog 238 #[.int .u64 x,.int .u64 y] w λe w'=>e= .returned (.tuple #[.int .u64 ((x*y/18446744073709551616:Nat):Int),.int .u64 ((x*y%18446744073709551616:Nat):Int)])/\w'=w:=by
 obtain⟨F,D,Q,O⟩:=Lib.mul64_hi x y C B;have S:=Lib.half_mul_le (a:=x/4294967296) (b:=y/4294967296) (by omega) (by omega);have R:=Lib.half_mul_le (a:=x/4294967296) (b:=y%4294967296) (by omega) (by omega);have U:=Lib.half_mul_le (a:=x%4294967296) (b:=y/4294967296) (by omega) (by omega);have L:x/4294967296*(y/4294967296)<18446744073709551616:=by omega
 have I:x/4294967296*(y%4294967296)<18446744073709551616:=by omega
 have J:x%4294967296*(y/4294967296)<18446744073709551616:=by omega
 have N:x/4294967296*(y/4294967296)+(x/4294967296*(y%4294967296)+x%4294967296*(y%4294967296)/4294967296)/4294967296<18446744073709551616:=by omega
 have K:x/4294967296*(y/4294967296)+(x/4294967296*(y%4294967296)+x%4294967296*(y%4294967296)/4294967296)/4294967296+((x/4294967296*(y%4294967296)+x%4294967296*(y%4294967296)/4294967296)%4294967296+x%4294967296*(y/4294967296))/4294967296<18446744073709551616:=by omega
 go_enter Tryz.func238,Tryz.ntmps238;go_wp2;simp only[Mul64.maskN x C,Mul64.maskN y B,Mul64.divN,Mul64.mulN,Mul64.addN,Mul64.wrapN _ F,Mul64.wrapN _ I,Mul64.wrapN _ D,Mul64.maskN _ D,Mul64.wrapN _ J,Mul64.wrapN _ Q,Mul64.wrapN _ L,Mul64.wrapN _ N,Mul64.wrapN _ K,Mul64.wrapM (x*y)];rw[O];go_ret2;exact⟨rfl,rfl⟩
theorem KV (e:Nat)(D:e<=100)(w:World):
  Calls Tryz.prog 194 #[.int .u64 1,.int .u64 (e:Int)] w λr w'=>r= .returned (.tuple #[.int .u64 0,.int .u64 (e:Int)])/\w=w':=by
 have B:=AB (show Calls Tryz.prog 238 #[.int .u64 1,.int .u64 (e:Int)] w λr w'=>r= .returned (.tuple #[.int .u64 0,.int .u64 (e:Int)])/\w=w' from by
  refine(jO 1 e (by omega) (by omega) w).mono ?_;rintro r w' ⟨rfl,rfl⟩;rw[Nat.one_mul,Nat.div_eq_of_lt (by omega),EC (by omega)];exact⟨rfl,rfl⟩)
 have F:IntKind.u64.wrap (e:Int)=(e:Int):=by rw[IntKind.wrap_u64];omega
 go_enter Tryz.func194,Tryz.ntmps194;go_wp2_with fail;refine B.AA.mono ?_;rintro r C ⟨rfl,rfl⟩;go_wp2_with fail;exact Au (v:=.tuple #[.int .u64 0,.int .u64 (e:Int)]) (by simp[results,Tryz.results194,go_sem]) rfl ⟨rfl,rfl⟩
theorem Tk {B:Nat}{g n cap:Nat}:∀(C x:List Nat) (o:Nat) (w:World),Own B w (.slice (some ⟨g,0,none⟩) n cap) (ints x)->o+C.length<=x.length->
  Own B (w.setCells g o (vals (ints C))) (.slice (some ⟨g,0,none⟩) n cap) (ints (x.take o++C++x.drop (o+C.length)))/\w.grownBy (w.setCells g o (vals (ints C))) (some g)
 |[],x,o,w,h,hl=>by
  refine⟨?_,⟨rfl,rfl,rfl,Al _,λ_ _ _=>rfl⟩⟩;have L:Own B w (.slice (some ⟨g,0,none⟩) n cap) (ints (x.take o++[]++x.drop (o+([]:List Nat).length))):=by simpa using h
  exact L
 |y::C,x,o,w,h,hl=>by
  rw[DX]at hl;obtain⟨O,D⟩:=h.Iz o y;obtain⟨K,F⟩:=Tk C (x.set o y) (o+1) _ O (by rw[List.length_set];omega);refine⟨?_,⟨F.os.trans D.os,F.tape.trans D.tape,F.output.trans D.output,Ae D.size F.size,λk I J=>(F.block k (Ah I D.size) J).trans (D.block k I J)⟩⟩;have e:(x.set o y).take (o+1)++C++(x.set o y).drop (o+1+C.length)=x.take o++(y::C)++x.drop (o+(y::C).length):=by
   have N:(x.set o y).take (o+1)=x.take o++[y]:=by
    rw[List.take_set,EL,AU (show o<x.length by omega)];rw[List.set_append_right _ _ (by rw[Ec];omega),Ec,Nat.min_eq_left (by omega),Gy];rfl
   rw[N,List.drop_set_of_lt (by omega),DX,show o+1+C.length=o+(C.length+1) by omega];simp
  rw[e]at K;exact K
theorem kZ (p e k m:Nat)(h:k+m<=e):(List.replicate k p++List.replicate (e-k) 0).take k++List.replicate m p++(List.replicate k p++List.replicate (e-k) 0).drop (k+m)=List.replicate (k+m) p++List.replicate (e-(k+m)) 0:=by
 rw[List.take_left' (by simp),List.drop_append,List.drop_of_length_le (by simp),List.nil_append,Bp,List.drop_replicate,List.replicate_append_replicate,show e-k-(k+m-k)=e-(k+m) by omega]
theorem Kt (n:Nat)(B:n<=100)(w:World):(Instr.makeSlice 24 (.int .i64 (n:Int)) (.int .i64 (n:Int))).run Tryz.prog w= .ok (.slice (some ⟨w.heap.size,0,none⟩) n n) (w.alloc (.cells (madeCells #[.int .i64 0] n) 2)):=
 run_make_row' (P:=Tryz.prog) 24 2 (.int .i64 0) 8 Tryz.underlying24 Dh rfl .i64 .i64 n (by omega) (by omega) w
theorem ZL:(Tryz.prog.info? 2).map (·.size)=some 1:=by kernel_rfl
theorem RZ {B g n cap:Nat}{w:World}{x:List Nat}(h:Own B w (.slice (some ⟨g,0,none⟩) n cap) (ints x))(j:Nat)(C:j<x.length):(w.cell? ⟨g,j,none⟩).isSome=true/\w.frozen? ⟨g,j,none⟩=false:=by
 obtain⟨F,D⟩:=h.cell (j:=j) (a:=((x[j]:Nat):Int)) (by rw[Dt,AU C];rfl);rw[F];exact⟨rfl,D⟩
theorem O6 (p e:Nat)(a2:1<=e)(he:e<=10)(w:World)(B:Nat)(F:w.heap[B]?=some (.cells #[.int .i64 (p:Int)] 2 (0,0))):
  Calls Tryz.prog 140 #[.slice (some ⟨B,0,none⟩) 1 1,.int .i64 (e:Int)] w (CX (ints (List.replicate e p)) w):=by
 have l:=AB (KV e (by omega) w);have h1:IntKind.u64.wrap (e:Int)=(e:Int):=by rw[IntKind.wrap_u64];omega
 have h2:IntKind.i64.wrap (e:Int)=(e:Int):=Ac _ (by omega);have a6:=Kt e (by omega);obtain⟨g,hg⟩:∃g,w.heap.size=g:=⟨_,rfl⟩;have HG:=AB hg;have a3:B<w.heap.size:=(Bt.1 F).1;have HB:=AB F;obtain⟨D,L⟩:∃D,D=w.alloc (.cells (madeCells #[.int .i64 0] e) 2):=⟨_,rfl⟩;have X:=AB (show Own w.heap.size D (.slice (some ⟨g,0,none⟩) e e) (ints (List.replicate e 0)) by
  have h:=Own.made (B:=w.heap.size) w e AV (by unfold maxLen;omega);rw[JS,hg]at h;rw[L];rw[hg];exact h)
 have Y:=AB (show Below w.heap.size w D by rw[L];exact AY.alloc AV _);have i:D.heap[B]?=some (.cells #[.int .i64 (p:Int)] 2 (0,0)):=(Y.AA.block B a3).trans F;have S:∀ty,(Builtin.copy_ #[24,24] ty #[.slice (some ⟨g,0,none⟩) e e,.slice (some ⟨B,0,none⟩) 1 1]).run Tryz.prog D= .ok (goInt 1) (D.setCells g 0 [.int .i64 (p:Int)]):=λty=>
  run_copy_cells D _ _ ty 2 g 0 e e ⟨B,0,none⟩ 1 1 [.int .i64 (p:Int)] Tryz.underlying24 ZL (by simp only[List.length_singleton,Nat.min_def];split<;>omega)
   (λj v C=>by
    match j,C with
    |0,C=>simp at C;subst C;rw[addr_add,Ar _ _ _ _ _ (0,0) i];rfl)
   (λj C=>by rw[CK];exact(RZ X.AA j (by simp at C ⊢; omega)).1) (λj C=>by rw[CK];exact(RZ X.AA j (by simp at C ⊢; omega)).2) (λv N=>by simp at N;subst N;rfl)
 obtain⟨O,J⟩:∃O,D.setCells g 0 [.int .i64 (p:Int)]=O:=⟨_,rfl⟩;obtain⟨o1,y⟩:=Tk [p] (List.replicate e 0) 0 D X.AA (by simp;omega);have a5:=AB (show Own w.heap.size O (.slice (some ⟨g,0,none⟩) e e) (ints (List.replicate 1 p++List.replicate (e-1) 0)) by
  rw[<-J];have h:=o1;simp only[List.take_zero,List.nil_append,List.length_singleton,CK,List.drop_replicate]at h;exact h)
 have a7:=AB (show Below w.heap.size w O by
  rw[<-J];exact Y.AA.grown y Y.AA.size (by intro k hk;cases hk;rw[hg];exact Al _))
 rw[J]at S;have a9:¬(e:Int)<0:=by omega
 have b7:¬(e:Int)>9223372036854775807:=by omega
 clear o1 y J F i;go_enter Tryz.func140,Tryz.ntmps140;go_wp2_with fail;refine l.AA.mono ?_;rintro r w' ⟨rfl,rfl⟩;go_upto_region 7 with fail;rw[<-L];clear L a6 l;go_wp2_with (at_builtin;refine wpList_copy_runI _ rfl _ _ 24 24 rfl _ _ rfl rfl (S _) ?_);clear S;go_wp2_with fail;go_loopw [8] (λR wr=>∃k:Nat,1<=k/\k<=e/\R= .int .i64 (k:Int)/\Hid (Own w.heap.size wr (.slice (some ⟨g,0,none⟩) e e) (ints (List.replicate k p++List.replicate (e-k) 0)))/\Hid (Below w.heap.size w wr)) (λR _=>e-(RowKit.intOf R).toNat);case atStart=>exact⟨1,Al _,a2,rfl,a5,a7⟩
 case round=>
  obtain⟨k,b5,b8,rfl,I,F⟩:=hrel;by_cases a4:k<e
  .obtain⟨m,Z⟩:∃m,Nat.min k (e-k)=m:=⟨_,rfl⟩;have V:1<=m/\k+m<=e/\m<=k:=by rw[<-Z];simp only[Nat.min_def];split<;>omega
   have K:(List.replicate k p++List.replicate (e-k) 0).length=e:=by simp;omega
   have d:∀(W:World),(∀x,W.cell? x=wr.cell? x)->(∀x,W.frozen? x=wr.frozen? x)->∀ty Q b,(Builtin.copy_ #[24,24] ty #[.slice (some ⟨g,k,none⟩) (e-k) Q,.slice (some ⟨g,0,none⟩) k b]).run Tryz.prog W= .ok (goInt m) (W.setCells g k (vals (ints (List.replicate m p)))):=λW u a8 ty Q b=>by
    have h:=run_copy_cells (P:=Tryz.prog) W 24 24 ty 2 g k (e-k) Q ⟨g,0,none⟩ k b (vals (ints (List.replicate m p))) Tryz.underlying24 ZL (by rw[Z];simp[vals,ints])
     (λj v C=>by
      have a1:j<m:=by have:=(Ak.1 C).1;simpa[vals,ints]using this
      have N:v= .int .i64 (p:Int):=by
       simp[vals,ints,Gg,a1]at C;exact C.symm
      rw[u,addr_add,CK,N];exact(I.AA.cell (j:=j) (a:=((p:Nat):Int)) (by rw[Dt,DK (by simp;omega),Gg,BQ (by omega)];rfl)).1)
     (λj C=>by rw[u];exact(RZ I.AA (k+j) (by rw[K];simp[vals,ints]at C;omega)).1) (λj C=>by rw[a8];exact(RZ I.AA (k+j) (by rw[K];simp[vals,ints]at C;omega)).2) (LH _)
    rw[show(vals (ints (List.replicate m p))).length=m by simp[vals,ints]]at h;exact h
   have b4:(k:Int)<(e:Int):=by omega
   have b1:(0:Int)<=(k:Int):=by omega
   have b2:(k:Int)<=(e:Int):=by omega
   have b9:¬k=e:=by omega
   have b3:¬e=k:=by omega
   have b0:IntKind.i64.wrap ((k:Int)+(m:Int))=(k:Int)+(m:Int):=Ac _ (by omega);have b6:Tryz.prog.follows Departure.mixedOrders=true:=by first|rfl|kernel_rfl|decide
   go_wp2_with fail;go_region_law_o (refine step_copy_runI rfl _ _ 24 24 rfl (.slice (some ⟨g,k,none⟩) (e-k) (e-k)) (.slice (some ⟨g,0,none⟩) k e) (by simp[Act.eval,Act.put]) (by simp[Act.eval,Act.put]) (d wr.drew (λ_=>rfl) (λ_=>rfl) _ _ _) ?_);obtain⟨U,s⟩:=Tk (List.replicate m p) _ k wr.drew I.AA.drew (by rw[K,Bp];exact V.2.1);rw[Bp,kZ p e k m V.2.1]at U;have q:=AB U;have a0:=AB (show Below w.heap.size w (wr.drew.setCells g k (vals (ints (List.replicate m p)))) from F.AA.drew.grown s F.AA.size (by intro j C;cases C;rw[HG.AA];exact Al _));obtain⟨w5,z⟩:∃w5,wr.drew.setCells g k (vals (ints (List.replicate m p)))=w5:=⟨_,rfl⟩;rw[z]at q a0 ⊢;clear U s d I F z K Z;go_simp;go_wp2_with fail;go_roundw;case rel=>exact⟨k+m,by omega,V.2.1,by go_num,q,a0⟩
   case measure=>simp[RowKit.intOf]<;>omega
  .obtain rfl:k=e:=by omega
   have HR:=AB (show CX (ints (List.replicate k p)) w (.returned (.slice (some ⟨g,0,none⟩) k k)) wr from⟨g,k,by simp[ints],by
    have h:=I.AA;rw[Gy,List.replicate_zero,FP]at h;rw[show(ints (List.replicate k p)).length=k by simp[ints]];exact h,F.AA⟩)
   clear I F a4;go_wp2_with fail;go_ret;exact HR.AA
end dh
namespace Vg
open RowKit AJ Val Bv Dn NF dZ
open EH(UC NS)
open Bj(Aa)
open BU(Any)
theorem Iu:(Tryz.prog.info? 24).map (λi=>(i.zero,i.size,i.bytes))=some (some (.slice none 0 0),1,24):=by kernel_rfl
theorem Pe:∀(x:List Nat) (s:Nat),Bg s x=ints (Kl.Cn s x)
 |[],s=>rfl
 |a::x,s=>by
  rw[Bg,Kl.Cn,Pe x (s+1)];simp[ints]
theorem wV {j k:Nat}(B:(j:Int)<=6)(C:(k:Int)<=6):IntKind.i64.wrap ((j:Int)+1)=(j:Int)+1/\IntKind.i64.wrap ((j:Int)+(k:Int))=(j:Int)+(k:Int)/\IntKind.i64.wrap ((j:Int)+(k:Int)+2)=(j:Int)+1+(k:Int)+1/\IntKind.i64.wrap (-((j:Int)+1))= -(j:Int)-1:=
 ⟨Ac _ (by omega),Ac _ (by omega),(Ac _ (by omega)).trans (by omega),(Ac _ (by omega)).trans (by omega)⟩
theorem Zx {N:Nat}(h:N<=1000):N+1<=maxLen/\(N+1)*24<=140737488355328:=⟨by unfold maxLen;omega,by omega⟩
theorem wW {k:Nat}(B:(k:Int)<=6):IntKind.i64.wrap ((k:Int)+1)=(k:Int)+1:=Ac _ (by omega)
theorem meas {m k:Nat}(h:k<m):m-(k+1)<m-k:=by omega
theorem uT {j k m i:Nat}(hi:i<=6)(h:m+(j+1)=i)(B:k<m):(j:Int)<=6/\(k:Int)<=6:=by omega
theorem vV {i j k m s:Nat}(hi:i<=6)(D:j<i)(C:k<m)(h:m+(j+1)=i)(F:s<=j*i):i+s+k<=1000:=by
 have B:j*i<=6*6:=Nat.mul_le_mul (by omega) hi;omega
def bf (L:List (List Int))(w:World)(e:Ending)(w':World):Prop:=∃u,e= .returned (.tuple #[u,.int .i64 0])/\BL w.heap.size w' u L/\Below w.heap.size w w'
def DI (T:Tw)(i:Nat):List (List Int):=(List.range T.length).map (Et T)++(List.range i).flatMap λi=>(List.range (T.length-(i+1))).map (EG T i)
theorem Nn (T:Tw):∀i,(List.map (λi=>((List.range (T.length-(i+1))).map (EG T i)).length) (List.range i)).sum<=i*T.length
 |0=>by simp
 |i+1=>by
  rw[FB,IM,List.sum_append,Nat.succ_mul];have:=Nn T i;simp only[FC,Jb,List.sum_cons,List.sum_nil,BC,List.length_range]at this ⊢;omega
def vW (B m:Nat)(l:List Int)(V:World)(e:Ending)(w':World):Prop:=∃g c,e= .returned (.slice (some ⟨g,0,none⟩) m c)/\w'.ownsRow B 2 1 (.slice (some ⟨g,0,none⟩) m c) m (vals l)/\Below V.heap.size V w'
def bn (m:Nat)(l:List Int)(V:World)(e:Ending)(w':World):Prop:=∃a c,e= .returned (.slice a m c)/\AP Any w' (.slice a m c) l/\Below V.heap.size V w'
theorem uU (p o:Nat)(L:1<=o)(K:o<=10)(D:Nat)(V:World)(O:D<=V.heap.size)(B:Nat)(N:V.heap[B]?=some (.cells #[.int .i64 ((p:Int)+1)] 2 (0,0))):
  Calls Tryz.prog 140 #[.slice (some ⟨B,0,none⟩) 1 1,.int .i64 (o:Int)] V (vW D o (List.replicate o ((p:Int)+1)) V):=by
 have I:((p+1:Nat):Int)=(p:Int)+1:=by omega
 refine(dh.O6 (p+1) o L K V B (by rw[I];exact N)).mono ?_;rintro e Q ⟨g,c,rfl,C,F⟩;have e2:ints (List.replicate o (p+1))=List.replicate o ((p:Int)+1):=by simp[ints]
 have J:(ints (List.replicate o (p+1))).length=o:=by simp[ints]
 unfold Own at C;rw[J]at C ⊢;rw[e2]at C;exact⟨g,c,rfl,KT C O,F⟩
theorem ZM (n m:Nat)(a:Option Addr)(c:Nat)(x:List Nat)(J:x.length=n)(K:n<=6)(F:∀y∈x,y<=6)(D:(Bg 0 x).length=m)(V:World)(I:AP Any V (.slice a n c) (ints x)):
  Calls Tryz.prog 85 #[.slice a n c] V (bn m (Bg 0 x) V):=by
 refine(Kl.PH V _ x I (by omega) F).mono ?_;rintro e L ⟨v,rfl,B,C⟩;rw[<-Pe]at B;obtain⟨a,c,rfl,_,_⟩:=Cz B.sl;rw[D]at B ⊢;exact⟨a,c,rfl,B.sl.mono λ_ _=>trivial,C⟩
theorem Zy (m:Nat)(a:Option Addr)(c:Nat)(l:List Int)(D:l.length=m)(F:m<=1000)(C:∀x∈l,-1000<=x/\x<=1000)(V:World)(I:AP Any V (.slice a m c) l):
  Calls Tryz.prog 141 #[.slice a m c] V (bn m (CQ l) V):=by
 refine(kY a m c l D F C V I).mono ?_;rintro e J ⟨v,rfl,B,C⟩;obtain⟨a,c,rfl,_,_⟩:=Cz B.sl;rw[NZ,D]at B ⊢;exact⟨a,c,rfl,B.sl.mono λ_ _=>trivial,C⟩
theorem kg (T:Tw)(gT:Ba.BR (AZ T))(hT:Wf T)(hs:Small T)(w:World)(vO vP vC:Value)(hP:Av Any w vO vP vC (AZ T)):
  Calls Tryz.prog 80 #[.agg #[vO,vP,vC]] w (bf (Db T) w):=by
 obtain⟨j0,hj,h7,e9,f7⟩:=Bd Iu;obtain⟨n,hn⟩:∃n,T.length=n:=⟨_,rfl⟩;have c0:n<=6:=by have:=hs.1;omega
 obtain⟨aO,cO,rfl,_,_⟩:=Cz hP.os;obtain⟨aP,cP,rfl,_,_⟩:=Cz hP.ps;obtain⟨aC,cC,rfl,_,_⟩:=Cz hP.cs;rw[Jv,Ud,Ue,hn]at hP ⊢;obtain⟨B0,d8⟩:∃B0,w.heap.size=B0:=⟨_,rfl⟩;obtain⟨C,b3⟩:∃C,C=w.alloc (.cells #[.slice aO n cO,.slice aP n cP,.slice aC n cC] 28):=⟨_,rfl⟩;have b0:Below w.heap.size w C:=by rw[b3];exact AY.alloc AV _
 have i5:C.heap.size=B0+1:=by rw[b3,<-d8];simp
 have f5:C.heap[B0]?=some (.cells #[.slice aO n cO,.slice aP n cP,.slice aC n cC] 28 (0,0)):=by rw[b3,<-d8];exact Aj _ _
 have q:=AB (λ(W:World) (I:Below C.heap.size C W)=>And.intro (Aa ((I.block B0 (by omega)).trans f5)).1 (And.intro (show B0<W.heap.size by have:=I.size;omega) ((hP.keep (AO b0)).keep (AO (S:=Any) I))));have HB:=AB (λ(W:World) (I:Below C.heap.size C W)=>b0.trans (I.mono b0.size));have X:=AB hn;have HS:=AB hs;have l:=AB hT;have i7:=AB (show Valid (AZ T) by obtain⟨_,_,_,_,h,_⟩:=gT;exact h);have k9:=AB (IP.MG C _ _ _ (AZ T) (q.AA C AY).2.2);have j1:=AB (show w.heap.size<=C.heap.size from b0.size);clear hP b0 i5 f5 hT hs gT;go_enter Tryz.func80,Tryz.ntmps80;go_upto_region 1 with fail;rw[<-b3];obtain⟨⟨p0,z,s⟩,x,-⟩:=q.AA C AY;clear b3 d8 hn;go_upto_region 4 with(go_at_call 93;refine k9.AA.mono ?_;rintro e w1 ⟨r,rfl,hr,e7⟩;obtain rfl:r=true:=hr.2 i7.AA;have j8:=AB e7;obtain⟨⟨p0,z,s⟩,x,-⟩:=q.AA w1 e7;clear hr e7);have f1:=AB (show BL C.heap.size w1 (.slice none 0 0) ((List.range 0).map (Et T)) from BL.nil _ _);go_wp2_with fail;go_loopw [4,18] (λov iv wr=>∃i:Nat,i<=n/\iv= .int .i64 (i:Int)/\Hid (BL C.heap.size wr ov ((List.range i).map (Et T)))/\Hid (Below C.heap.size C wr)) (λ_ iv _=>n-(intOf iv).toNat);case atStart=>exact⟨0,AX _,rfl,f1,j8⟩
 case round=>
  clear p0 z s x f1;obtain⟨i,k7,rfl,O,D⟩:=hrel;rename World=>F;by_cases a0:i<n
  .obtain⟨L,K⟩:∃L,T[i]?=some L:=⟨_,AU (by rw[X.AA];exact a0)⟩;have i8:=HS.AA.2 L (Af K);have i9:=(En l.AA K).2.2.2.2;obtain⟨o,ho⟩:∃o,L.o=o:=⟨_,rfl⟩;rw[ho]at i8 i9;have g1:=NQ T i L K;rw[ho]at g1;obtain⟨⟨p0,z,s⟩,x,d⟩:=q.AA F D.AA;obtain⟨bO,oO,u1,rfl,_,l1,k1,rfl⟩:=Ce d.os g1;obtain⟨bP,oP,u2,rfl,_,l2,k2,p⟩:=Ce d.ps (TM T i L K);obtain⟨aw,cw,rfl,_,_⟩:=Cz p;have a3:(pad (i+1) L.w).length=n:=by rw[BS,<-X.AA];have:=(GG l.AA K).1;omega
   have e3:(ints (pad (i+1) L.w)).length=n:=by simp only[ints,BC];exact a3
   rw[e3]at k2 p;obtain⟨r1,r2,r3⟩:=Nz l.AA HS.AA (GG l.AA K).1 (LB l.AA HS.AA K).1;obtain⟨m,U⟩:∃m,(Bg 0 (pad (i+1) L.w)).length=m:=⟨_,rfl⟩;have d9:m<=36:=by omega
   have d6:=AB (show Et T i=List.replicate o ((i:Int)+1)++CQ (Bg 0 (pad (i+1) L.w)) by rw[Uv K,ho]);have f0:=AB (λV (hk:Keep Any F V)=>ZM n m aw cw (pad (i+1) L.w) a3 c0 (LB l.AA HS.AA K).1 U V (p.keep hk));have k8:=AB (λV (hV:F.heap.size<=V.heap.size) B D=>uU i o (by omega) (by omega) F.heap.size V hV B D);have b2:=AB (Qs (by rw[X.AA];omega) r2);obtain⟨R,b6⟩:∃R,Bg 0 (pad (i+1) L.w)=R:=⟨_,rfl⟩;rw[b6]at f0 d6 b2 U;have b9:=AB (λV a c (d:AP Any V (.slice a m c) R)=>Zy m a c R U (by omega) b2.AA V d);have j2:=AB (show(Et T i).length=o+m by rw[d6.AA,Bc,Bp,NZ,U]);have a5:=AB a0;have m4:(i:Int)<(n:Int):=by omega
   have m1:(0:Int)<=(i:Int):=by omega
   have i3:IntKind.i64.wrap ((i:Int)+1)=(i:Int)+1:=Ac _ (by omega);have Z:=AB D.AA;obtain⟨us,Q,h2,h4⟩:=O.AA;rw[BC,List.length_range]at Q;have HU:=AB (And.intro h2 h4);have H1:=AB Q;have HC:=AB (λ(W:World) (I:Below F.heap.size F W)=>And.intro (q.AA W (Z.AA.trans (I.mono Z.AA.size))).1 (And.intro (q.AA W (Z.AA.trans (I.mono Z.AA.size))).2.1 (And.intro (((AO (S:=Any) I).cell trivial l2).trans k2) (Ah l2 I.size))));clear K ho g1 d p e3 r1 r2 r3 b6 U a3 a0 O D h2 h4 Q;go_upto_region 7 with fail;go_region_law (first|(go_simp;go_at_call 140;refine(k8.AA _ (by simp) _ (by first|exact Aj F _|exact Aj F.drew _)).mono ?_;rintro e wR ⟨gR,cR,rfl,hR,f8⟩;have a4:=AB (show Below F.heap.size F wR from Below.trans (by first|exact AY.alloc AV _|exact(AY.alloc AV _).drew|exact(AY.drew).alloc AV _) (f8.mono (by simp)));have i0:=AB hR;obtain⟨⟨p0,z,s⟩,x,k2,l2⟩:=HC.AA wR a4.AA;clear hR f8)|(go_simp;go_at_call 85;refine(f0.AA _ (by first|exact AO a4.AA|exact(AO a4.AA).drew)).mono ?_;rintro e wN ⟨a1,c1,rfl,hN,b1⟩;have c7:=AB (show Below F.heap.size F wN from by first|exact a4.AA.trans (b1.mono a4.AA.size)|exact a4.AA.drew.trans (b1.mono a4.AA.size));have h3:=AB hN;have f2:=AB (show wN.ownsRow F.heap.size 2 1 (.slice (some ⟨gR,0,none⟩) o cR) o (vals (List.replicate o ((i:Int)+1))) from by first|exact Aw i0.AA (S:=Any) (AO b1) (λ_ _=>trivial)|exact Aw i0.AA.drew (S:=Any) (AO b1) (λ_ _=>trivial));clear hN b1)|(go_simp;go_at_call 141;refine(b9.AA _ a1 c1 (by first|exact h3.AA|exact h3.AA.keep AL.drew)).mono ?_;rintro e wI ⟨a2,c2,rfl,hI,a9⟩;have a6:=AB (show Below F.heap.size F wI from by first|exact c7.AA.trans (a9.mono c7.AA.size)|exact c7.AA.drew.trans (a9.mono c7.AA.size));have g3:=AB hI;have b8:=AB (show wI.ownsRow F.heap.size 2 1 (.slice (some ⟨gR,0,none⟩) o cR) o (vals (List.replicate o ((i:Int)+1))) from by first|exact Aw f2.AA (S:=Any) (AO a9) (λ_ _=>trivial)|exact Aw f2.AA.drew (S:=Any) (AO a9) (λ_ _=>trivial));clear hI a9)|(refine UC (by rfl) _ _ (by rfl) F.heap.size gR o cR m c2 (List.replicate o ((i:Int)+1)) (CQ R) a2 (by rfl) (by first|exact b8.AA|exact b8.AA.drew) (by rfl) (by first|exact g3.AA|exact g3.AA.keep AL.drew) (by omega) (by first|exact a6.AA.size|exact a6.AA.drew.size) ?_;intro g5 c5 Y b5 a7;have J:=AB (show Below F.heap.size F Y from by first|exact a6.AA.grown a7 a6.AA.size (by intro k hk;cases hk;exact(Aq b8.AA gR rfl).1)|exact a6.AA.drew.grown a7 a6.AA.size (by intro k hk;cases hk;exact(Aq b8.AA gR rfl).1));have e2:=AB (show Own C.heap.size Y (.slice (some ⟨g5,0,none⟩) (o+m) c5) (Et T i) by unfold Own;rw[j2.AA,d6.AA];exact KT (by simpa[vals]using b5) Z.AA.size);clear b5 a7)|(refine Ja _ (by rfl) _ _ _ (by rfl) C.heap.size 24 j0 (.slice none 0 0) 1 24 Tryz.underlying25 hj h7 e9 f7 rfl (by decide) _ i us (by rfl) (Aw H1.AA (S:=Any) (by first|exact(AO J.AA).alloc _|exact((AO J.AA).alloc _).drew|exact((AO J.AA).drew).alloc _) (λ_ _=>trivial)) ⟨Y.heap.size,0,none⟩ 1 1 [.slice (some ⟨g5,0,none⟩) (o+m) c5] (by rfl) (by rfl) (Cw (cs:= #[.slice (some ⟨g5,0,none⟩) (o+m) c5]) (t:=24) (fr:=(0,0)) (by first|exact Aj Y _|exact Aj Y.drew _)) (by simp[Value.oneCell']) (by omega) (by unfold maxLen;omega) (by omega) (by have Q:=Z.AA.size;have h2:=J.AA.size;simp;omega) _ rfl ?_;intro g6 c6 w6 f3 b4 _ _;have d3:=AB (show BL C.heap.size w6 (.slice (some ⟨g6,0,none⟩) (i+1) c6) ((List.range (i+1)).map (Et T)) from by rw[FB,IM];exact BL.push (us:=us) (by rw[BC,List.length_range]) (Aw H1.AA (S:=Any) (by first|exact(AO J.AA).alloc _|exact((AO J.AA).alloc _).drew|exact((AO J.AA).drew).alloc _) (λ_ _=>trivial)) HU.AA.1 (λk r u hr hu=>Aw (HU.AA.2 k r u hr hu) (S:=Any) (by first|exact(AO J.AA).alloc _|exact((AO J.AA).alloc _).drew|exact((AO J.AA).drew).alloc _) (λ_ _=>trivial)) (Aw e2.AA (S:=Any) (by first|exact Ab|exact AL|exact AL.drew.alloc _) (λ_ _=>trivial)) f3 b4);have d2:=AB (show Below C.heap.size C w6 from by have hz:C.heap.size<=Y.heap.size:=Ae Z.AA.size J.AA.size;have I:=Z.AA.trans (J.AA.mono Z.AA.size);first|exact(I.alloc hz _).grown b4 (by simp;omega) (λg hg=>(Aq H1.AA g hg).1)|exact((I.alloc hz _).drew).grown b4 (by simp;omega) (λg hg=>(Aq H1.AA g hg).1)|exact(I.drew.alloc hz _).grown b4 (by simp;omega) (λg hg=>(Aq H1.AA g hg).1));clear f3 b4)|fail);all_goals
    go_wp2_with fail;go_roundw;case rel=>exact⟨i+1,a5.AA,by go_num,d3,d2⟩
    case measure=>have:=a5.AA;simp[intOf];omega
  .obtain rfl:i=n:=by omega
   have m3:¬(i:Int)<(i:Int):=by omega
   have f9:=AB (show BL C.heap.size F u4 (DI T 0) from by
    have h:=O.AA;rwa[show(List.range i).map (Et T)=DI T 0 by unfold DI;rw[X.AA];simp]at h)
   obtain⟨⟨p0,z,s⟩,x,-⟩:=q.AA F D.AA;clear O;go_wp2_with fail;go_loopw [4,43] (λov iv wr=>∃j:Nat,j<=i/\iv= .int .i64 (j:Int)/\Hid (BL C.heap.size wr ov (DI T j))/\Hid (Below C.heap.size C wr)) (λ_ iv _=>i-(intOf iv).toNat);case atStart=>exact⟨0,AX _,rfl,f9,D⟩
   case round=>
    clear p0 z s x f9 D k7;obtain⟨j,m0,rfl,O,D⟩:=hrel;by_cases a0:j<i
    .obtain⟨L,K⟩:∃L,T[j]?=some L:=⟨_,AU (by rw[X.AA];exact a0)⟩;have l8:(j:Int)<(i:Int):=by omega
     have l4:(0:Int)<=(j:Int):=by omega
     have a5:=AB a0;have e1:=AB K;have e8:=(GG l.AA K).2.1;obtain⟨mC,c8⟩:∃m,L.c.length=m:=⟨_,rfl⟩;rw[c8,X.AA]at e8;have k6:=AB c8;have e5:=AB e8;obtain⟨⟨p0,z,s⟩,x,-⟩:=q.AA wr D.AA;obtain⟨-, -, d⟩:=q.AA C AY;obtain⟨bC,oC,u1,rfl,_,l1,k1,q1⟩:=Ce d.cs (TN T j L K);obtain⟨aW,cW,rfl,_,_⟩:=Cz q1;rw[BC,c8]at k1 q1;have Z:=AB D.AA;have i4:=AB (λ(W:World) (I:Below C.heap.size C W)=>q1.keep (AO (S:=Any) I));have k1:=((AO (S:=Any) D.AA).cell trivial l1).trans k1;have l1:=Ah l1 D.AA.size;have g9:=AB (show BL C.heap.size wr u4 (DI T j++(List.range 0).map (EG T j)) by simpa using O.AA);clear K c8 e8 a0 O D d q1;go_wp2_with fail;go_loopw [4,52] (λov kv wr=>∃k:Nat,k<=mC/\kv= .int .i64 (k:Int)/\Hid (BL C.heap.size wr ov (DI T j++(List.range k).map (EG T j)))/\Hid (Below C.heap.size C wr)) (λ_ kv _=>mC-(intOf kv).toNat);case atStart=>exact⟨0,AX _,rfl,g9,Z⟩
     case round=>
      clear g9 p0 z s x l1 k1;obtain⟨k,l5,rfl,O,D⟩:=hrel;rename World=>b;by_cases a8:k<mC
      .obtain⟨y,hy⟩:∃y,L.c[k]?=some y:=⟨_,AU (by rw[k6.AA];exact a8)⟩;have h9:=(GG l.AA e1.AA).2.2 y (Af hy);have h6:=(LB l.AA HS.AA e1.AA).2 y (Af hy);obtain⟨bW,oW,uw,rfl,_,l2,k2,p⟩:=Ce (i4.AA b D.AA) (show(L.c.map λy=>ints (pad (j+1) y))[k]?=some (ints (pad (j+1) y)) by rw[Bh,hy];rfl);obtain⟨aw,cw,rfl,_,_⟩:=Cz p;have a3:(pad (j+1) y).length=i:=by rw[BS,<-X.AA];omega
       have e3:(ints (pad (j+1) y)).length=i:=by simp only[ints,BC];exact a3
       rw[e3]at k2 p;obtain⟨r1,r2,r3⟩:=Nz l.AA HS.AA h9 h6;have b2:=AB (Qs (by rw[X.AA];omega) r2);have g2:=AB (show EG T j k=[-(j:Int)-1,(j:Int)+1+(k:Int)+1,(j:Int)+1]++CQ (Bg 0 (pad (j+1) y)) from Uw e1.AA hy);obtain⟨m,U⟩:∃m,(Bg 0 (pad (j+1) y)).length=m:=⟨_,rfl⟩;have d9:m<=36:=by rw[<-U];exact r1
       obtain⟨wl,c9⟩:∃wl,wl=b.alloc (.cells #[.int .i64 (-(j:Int)-1),.int .i64 ((j:Int)+1+(k:Int)+1),.int .i64 ((j:Int)+1)] 2):=⟨_,rfl⟩;have e0:Below b.heap.size b wl:=by rw[c9];exact AY.alloc AV _
       have d7:=AB (ZM i m aw cw (pad (j+1) y) a3 c0 h6 U wl (p.keep (AO e0)));obtain⟨g,hg⟩:∃g,b.heap.size=g:=⟨_,rfl⟩;have j7:=AB (show wl.ownsRow g 2 1 (.slice (some ⟨g,0,none⟩) 3 3) 3 (vals [-(j:Int)-1,(j:Int)+1+(k:Int)+1,(j:Int)+1]) by
        rw[c9,<-hg];exact JD (base:=b.heap.size) (e:=2) (size:=1) b #[.int .i64 (-(j:Int)-1),.int .i64 ((j:Int)+1+(k:Int)+1),.int .i64 ((j:Int)+1)] 3 AV (by unfold maxLen;omega) rfl)
       have g0:=AB e0;have HG:=AB hg;have e4:=AB D.AA;obtain⟨R,b6⟩:∃R,Bg 0 (pad (j+1) y)=R:=⟨_,rfl⟩;rw[b6]at d7 g2 b2 U;have b9:=AB (λV a c (d:AP Any V (.slice a m c) R)=>Zy m a c R U (Ae d9 (by decide)) b2.AA V d);have k3:=AB (show(CQ R).length=m by rw[NZ,U]);have b7:(j:Int)<=6/\(k:Int)<=6:=uT c0 e5.AA a8;obtain⟨i3,l3,l9,l0⟩:=wV b7.1 b7.2;have k5:=AB b7;clear b7;have l7:(0:Int)<=(k:Int):=Int.natCast_nonneg k;have l6:(k:Int)<(mC:Int):=Int.ofNat_lt.2 a8;have d1:=AB a8;clear hy h9 h6 p e3 r1 r2 r3 b6 a3 D a8 e0 U;go_upto_region 16 with fail;obtain⟨us,Q,h2,h4⟩:=O.AA;obtain⟨N,hN⟩:∃N,(DI T j++(List.range k).map (EG T j)).length=N:=⟨_,rfl⟩;rw[hN]at Q;have g8:=AB (show N<=1000 by
        rw[<-hN,Bc,BC,List.length_range,DI,Bc,BC,List.length_range,X.AA,List.length_flatMap];have h5:=Nn T j;rw[X.AA]at h5;exact vV c0 a5.AA d1.AA e5.AA h5)
       have j6:=AB hN;have HU:=AB (And.intro h2 h4);have H1:=AB Q;have j5:=AB (show C.heap.size<=g by rw[<-HG.AA];exact e4.AA.size);have i6:3+m<=1000000:=Ae (Nat.add_le_add_left d9 3) (by decide);clear h2 h4 O hN Q;go_wp2_with fail;rw[<-c9];clear c9 hg l2 k2;go_wp2_with (first|(go_at_call 85;refine d7.AA.mono ?_;rintro e w3 ⟨a1,c1,rfl,f6,d4⟩;have k0:=AB f6;have g7:=AB (g0.AA.trans (d4.mono g0.AA.size));have j4:=AB (Aw j7.AA (S:=Any) (AO d4) (λ_ _=>trivial));clear f6 d4)|(go_at_call 141;refine(b9.AA w3 a1 c1 k0.AA).mono ?_;rintro e w4 ⟨a2,c2,rfl,g4,e6⟩;have k4:=AB g4;have h0:=AB (g7.AA.trans (e6.mono g7.AA.size));have f4:=AB (Aw j4.AA (S:=Any) (AO e6) (λ_ _=>trivial));clear g4 e6)|(at_builtin;refine NS rfl _ _ rfl g g 3 3 m c2 [-(j:Int)-1,(j:Int)+1+(k:Int)+1,(j:Int)+1] (CQ R) a2 rfl f4.AA rfl k4.AA i6 (Ci (Aq f4.AA g rfl).2) ?_));intro g5 c5 Y b5 a7;have J:=AB (show Below b.heap.size b Y from h0.AA.grown a7 h0.AA.size (by intro k hk;cases hk;rw[HG.AA];exact Al _));have e2:=AB (show Own C.heap.size Y (.slice (some ⟨g5,0,none⟩) (3+m) c5) (EG T j k) from by
        rw[g2.AA];have h:Own g Y (.slice (some ⟨g5,0,none⟩) (3+m) c5) ([-(j:Int)-1,(j:Int)+1+(k:Int)+1,(j:Int)+1]++CQ R):=by
         unfold Own;rw[Bc,k3.AA];simpa[vals]using b5
        exact KT h j5.AA)
       have d0:=AB (e4.AA.trans (J.AA.mono e4.AA.size));have Q:=Aw H1.AA (S:=Any) (AO J.AA) (λ_ _=>trivial);have i2:=AB Q;clear b5 a7 d7 b9;go_wp2_with (at_builtin;(refine DR _ rfl _ _ 25 rfl C.heap.size 24 j0 (.slice none 0 0) 1 24 Tryz.underlying25 hj h7 e9 f7 rfl (by decide) _ _ _ rfl (Q.alloc _) ⟨Y.heap.size,0,none⟩ 1 1 [.slice (some ⟨g5,0,none⟩) (3+m) c5] rfl rfl ?c1 ?c2 ?c3 ?c4 ?c5 ?_));case c1=>
        intro j u hj
        match j,hj with
        |0,hj=>simp at hj;subst hj;simp[Addr.add]
       case c2=>intro u hu;simp at hu;subst hu;rfl
       case c3=>exact(Zx g8.AA).1
       case c4=>exact(Zx g8.AA).2
       case c5=>exact Ae d0.AA.size (by simp)
       .intro v' w6 h8 d5 _;have d3:=AB (show BL C.heap.size w6 v' (DI T j++(List.range (k+1)).map (EG T j)) from by
         rw[FB,IM,<-Dy];exact BL.push (w:=Y.alloc _) (us:=us) j6.AA (Q.alloc _) HU.AA.1 (λk r u hr hu=>((HU.AA.2 k r u hr hu).of_below J.AA).alloc _) (e2.AA.alloc _) h8 d5)
        have d2:=AB (show Below C.heap.size C w6 from(d0.AA.alloc d0.AA.size _).grown d5 (Ae d0.AA.size (by simp)) (λg hg=>(Aq i2.AA g hg).1));clear h8 d5 Q;have m2:=wW k5.AA.2;go_wp2_with fail;go_roundw;case rel=>exact⟨k+1,d1.AA,by go_num,d3,d2⟩
        case measure=>simp[intOf];exact meas d1.AA
      .obtain rfl:k=mC:=by omega
       have i1:¬(k:Int)<(k:Int):=by omega
       have j3:=AB (show BL C.heap.size b u4 (DI T (j+1)) from by
        have h:=O.AA;have e:DI T (j+1)=DI T j++(List.range k).map (EG T j):=by
         unfold DI;rw[FB,List.flatMap_append,<-Dy];simp only[IW,List.flatMap_nil,FP];rw[show T.length-(j+1)=k by rw[X.AA];have:=e5.AA;omega]
        rw[e];exact h)
       have j9:=D;clear O D;go_wp2_with fail;go_roundw;case rel=>exact⟨j+1,a5.AA,by go_num,j3,j9⟩
       case measure=>have:=a5.AA;simp[intOf];omega
    .obtain rfl:j=i:=by omega
     have i1:¬(j:Int)<(j:Int):=by omega
     have HF:=AB (show bf (Db T) w (.returned (.tuple #[u4,.int .i64 0])) wr from⟨_,rfl,by have h:=O.AA;rw[show DI T j=Db T by unfold DI Db;rw[X.AA]]at h;exact h.mono j1.AA,HB.AA wr D.AA⟩);clear O D;go_wp2_with fail;exact Au (v:=.tuple #[u4,.int .i64 0]) (by simp[results,Tryz.results80,go_sem]) rfl HF.AA
end Vg
namespace di
open RowKit AJ BN CP BU Dn Lp
open Kl(UZ)
theorem invS (T:Tw)(hT:Wf T)(J:Small T)(hg:AJ.Good T)(W:World)(b o:Nat)(B:Value)(y:List Nat)(N:BH Any W b o (AZ T))(ha:AP Any W B (ints y))(K:DW.NN B)(C:El T y):
  Calls Tryz.prog 143 #[.pointer (some ⟨b,o,none⟩),B] W (CX (ints (Ai T y)) W):=
 (QA.O7 T hT J 0 (AX _) hg W b o B y N ha K C).mono λe w' h=>by
  obtain⟨z,⟨O,D⟩,I⟩:=h;have Q:z=Ai T y:=by
   have G:=BA hT hg;obtain⟨L,F,_⟩:=Br hT hg C;exact G.Js C O L (D.trans F.symm)
  rw[<-Q];exact I
theorem abs_neg (x:Int)(j:Nat)(C: -x=(j:Int)+1)(F:j<=1000)(w:World):Calls Tryz.prog 142 #[.int .i64 x] w λe w'=>e= .returned (.int .i64 ((j:Int)+1))/\w=w':=by
 have D:IntKind.i64.wrap (-x)=(j:Int)+1:=(Ac _ (by omega)).trans C;have B:max x ((j:Int)+1)=(j:Int)+1:=by omega
 have I:(x<(j:Int)+1):=by omega
 go_enter Tryz.func142,Tryz.ntmps142;go_wp2_with fail;go_ret;exact⟨by first|rfl|simp[B],rfl⟩
theorem pI (x:Int)(j:Nat)(B:x=(j:Int)+1)(C:j<=1000)(w:World):Calls Tryz.prog 142 #[.int .i64 x] w λe w'=>e= .returned (.int .i64 ((j:Int)+1))/\w=w':=by
 have h:=UZ (j+1) (by omega) w;rw[show((j+1:Nat):Int)=(j:Int)+1 by omega]at h;rw[B];exact h
theorem jP (T:Tw)(hT:Wf T)(s:Small T)(hg:AJ.Good T)(w:World)(b o:Nat)(p:BH Any w b o (AZ T))(vw vi:Value)(C:List Int)(im:List (List Nat))(hw:AP Any w vw C)(hi:AQ Any w vi (im.map ints))(a3:∀c∈im,El T c)
  (a4:∀l∈C,DZ im.length l) (i:C.length<=1000) (b2:im.length=T.length):
  Calls Tryz.prog 84 #[.pointer (some ⟨b,o,none⟩),vw,vi] w (CX (ints (Bb T im C)) w):=by
 have b3:=s.1;have e8:=Fb T.length b3;obtain⟨_,d8,vO,vP,vC,e9,e6,e4,hV⟩:=id p;obtain⟨aO,cO,aP,cP,aC,cC,rfl,rfl,rfl,d9,e2,f1⟩:=hV.open;obtain⟨aW,cW,rfl,_,_⟩:=Am.form hw;obtain⟨aI,cI,rfl,_,_⟩:=Am.form hi;rw[BC]at hi ⊢;have e7:im.length<=6:=by rw[b2];exact b3
 have b9:=AB (Rt.BH.strong p);have d6:=AB p;have HW:=AB (Am.mono (E':=λ_ u x=>u= .int .i64 x) (AP.bnd hw) (S':=λk=>k<w.heap.size) (λk D=>D.2) (λ_ _ e=>e));have HI:=AB (AQ.mono (AQ.bnd hi) (S':=λk=>k<w.heap.size) (λk D=>D.2));have b4:=AB a3;have c6:=AB a4;have d7:=AB b2;have b5:=AB (DW.Nu T hT s 0 (AX _) hg);have c7:=AB (λW va y h1 h2 h3 h4=>invS T hT s hg W b o va y h1 h2 h3 h4);have f0:=AB hT;have c5:=AB (λx (h:El T x)=>(Br hT hg h).1);have e3:(C.length:Int)<=9223372036854775807:=by omega
 have HO:=AB (Own.made (B:=w.heap.size) w T.length AV (by unfold maxLen;omega));obtain⟨V,Q⟩:∃V:Nat->List Nat,V=λm=>Bb T im (C.take m):=⟨_,rfl⟩;have N:=AB (show∀m,El T (V m) from λm=>by
  rw[Q];exact R5 hT hg a3 _ λl i=>a4 l (La i))
 have c9:=AB (show List.replicate T.length (0:Int)=ints (V 0) by rw[Q];simp[Bb,AJ.one,ints]);have c3:=AB (show∀m l,C[m]?=some l->V (m+1)=mul T (V m) (Da T im l) from λm l h=>by
  rw[Q];show Bb T im (C.take (m+1))=_;rw[EL,h];exact UD T im _ l)
 have c8:=AB (show V C.length=Bb T im C by rw[Q];simp);clear p hw hi a3 a4 hV Q hT s hg b2;go_enter Tryz.func84,Tryz.ntmps84;go_wp2_with fail;go_loopw [19] (λiv wr=>∃m:Nat,m<=C.length/\iv= .int .i64 (m:Int)/\Hid (Own w.heap.size wr (.slice (some ⟨w.heap.size,0,none⟩) T.length T.length) (ints (V m)))/\Hid (Below w.heap.size w wr)) (λiv _=>C.length-(intOf iv).toNat);case atStart=>exact⟨0,AX _,rfl,AB (by rw[<-c9.AA];exact HO.AA),AB (AY.alloc AV _)⟩
 case round=>
  obtain⟨m,hm,rfl,I,K⟩:=hrel;have D:=Keep.lt K.AA;by_cases d2:m<C.length
  .obtain⟨l,Y⟩:∃l,C[m]?=some l:=⟨_,AU d2⟩;obtain⟨bW,oW,uW,e0,d3,d1,a9,rfl⟩:=Am.get HW.AA Y;subst e0;have c0:=(D.cell (b:=bW) (o:=oW+m) d3 d1).trans a9;have U:=c6.AA l (Af Y);have c2:=AB (c3.AA m l Y);by_cases q:0<l
   .obtain⟨j,J⟩:∃j:Nat,l=(j:Int)+1:=⟨(l-1).toNat,by omega⟩;have O:j<im.length:=by rcases U with⟨_,h⟩|⟨h,_⟩<;>omega
    obtain⟨c,F⟩:∃c,im[j]?=some c:=⟨_,AU O⟩;obtain⟨bI,oI,u,e1,a0,a7,L,R⟩:=Am.get HI.AA (k:=j) (x:=ints c) (by rw[Bh,F];rfl);subst e1;have a2:=(D.cell (b:=bI) (o:=oI+j) a0 a7).trans L;have r:=AB (AP.keep R D);have b0:=AB (b9.AA.keep D);have z:=AB (show V (m+1)=mul T (V m) c by rw[c2.AA,YU q J F]);have a8:=AB (b4.AA c (Af F));have a1:=AB (λW=>pI l j J (by omega) W);have d0:¬l<0:=by omega
    have w1:IntKind.i64.wrap ((j:Int)+1-1)=(j:Int):=by rw[Ac _ (by omega)];omega
    have a:IntKind.i64.wrap (j:Int)=(j:Int):=Ac _ (by omega);have w3:(j:Int)<(im.length:Int):=by omega
    have v:(0:Int)<=(j:Int):=by omega
    clear Y a9 F L R J D U q O;go_wp2_with fail;refine(a1.AA _).mono ?_;rintro e w' ⟨rfl,rfl⟩;have b1:=AB (b5.AA (λk=>k<w.heap.size) wr b o w.heap.size w.heap.size T.length u [] (V m) c b0.AA r.AA (by omega) rfl (N.AA m) a8.AA I.AA);go_wp2_with fail;refine b1.AA.mono ?_;rintro e a ⟨rfl,Z,X⟩;have HN:=AB (show Own w.heap.size a (.slice (some ⟨w.heap.size,0,none⟩) T.length T.length) (ints (V (m+1))) from by
     have h:=Z;rw[show([]++mul (T.drop 0) (V m) c)=V (m+1) from z.AA.symm,Ad (N.AA (m+1))]at h;exact h)
    have a5:=AB (K.AA.grown X K.AA.size (λg hg=>by cases hg;exact Al _));clear Z X I c0 a2;go_wp2_with fail;go_roundw;case rel=>exact⟨m+1,by omega,by go_num,HN,a5⟩
    case measure=>simp[intOf];omega
   .obtain⟨j,J⟩:∃j:Nat,-l=(j:Int)+1:=⟨(-l-1).toNat,by rcases U with⟨h,_⟩|⟨h,_⟩<;>omega⟩;have O:j<im.length:=by rcases U with⟨h,_⟩|⟨_,h⟩<;>omega
    obtain⟨c,F⟩:∃c,im[j]?=some c:=⟨_,AU O⟩;obtain⟨bI,oI,u,e1,a0,a7,L,R⟩:=Am.get HI.AA (k:=j) (x:=ints c) (by rw[Bh,F];rfl);subst e1;have a2:=(D.cell (b:=bI) (o:=oI+j) a0 a7).trans L;have d:=b4.AA c (Af F);have r:=AB (AP.mono (S':=Any) (AP.keep R D) λ_ _=>trivial);have b0:=AB (b9.AA.keep D);have z:=AB (show V (m+1)=mul T (V m) (Ai T c) by rw[c2.AA,Xc q J F]);have a8:=AB (c5.AA c d);have d4:=AB (c7.AA wr u c (d6.AA.keep (AO K.AA)) r.AA (DW.Je r.AA (by rw[Ad d,<-d7.AA];omega)) d);have a1:=AB (λW=>abs_neg l j J (by omega) W);have d0:l<0:=by omega
    have w1:IntKind.i64.wrap ((j:Int)+1-1)=(j:Int):=by rw[Ac _ (by omega)];omega
    have a:IntKind.i64.wrap (j:Int)=(j:Int):=Ac _ (by omega);have w3:(j:Int)<(im.length:Int):=by omega
    have v:(0:Int)<=(j:Int):=by omega
    have e5:w.heap.size<wr.heap.size:=(Aq I.AA w.heap.size rfl).2;clear Y a9 F L R J D U q O d;go_wp2_with fail;refine(a1.AA _).mono ?_;rintro e w' ⟨rfl,rfl⟩;go_wp2_with (go_at_call 143;refine d4.AA.mono ?_;rintro e v ⟨g4,c4,rfl,b6,c1⟩;have a6:=AB c1;have d5:=AB b6);have b7:=AO (S:=λk=>k≠w.heap.size) a6.AA;have b1:=AB (b5.AA (λk=>k≠w.heap.size) v b o w.heap.size w.heap.size T.length (.slice (some ⟨g4,0,none⟩) (ints (Ai T c)).length c4) [] (V m) (Ai T c) ((b0.AA.mono λk D=>by omega).keep b7) (d5.AA.sl.mono λk D=>by omega) (by simp) rfl (N.AA m) a8.AA (Aw I.AA (S:=Any) (AO a6.AA) (λ_ _=>trivial)));have b8:=AB (K.AA.trans (a6.AA.mono K.AA.size));clear b7 b6 c1 c0 a2 I;go_wp2_with fail;refine b1.AA.mono ?_;rintro e a ⟨rfl,Z,X⟩;have HN:=AB (show Own w.heap.size a (.slice (some ⟨w.heap.size,0,none⟩) T.length T.length) (ints (V (m+1))) from by
     have h:=Z;rw[show([]++mul (T.drop 0) (V m) (Ai T c))=V (m+1) from z.AA.symm,Ad (N.AA (m+1))]at h;exact h)
    have a5:=AB (b8.AA.grown X b8.AA.size (λg hg=>by cases hg;exact Al _));clear Z X;go_wp2_with fail;go_roundw;case rel=>exact⟨m+1,by omega,by go_num,HN,a5⟩
    case measure=>simp[intOf];omega
  .obtain rfl:m=C.length:=by omega
   have HR:=AB (show CX (ints (Bb T im C)) w (.returned (.slice (some ⟨w.heap.size,0,none⟩) T.length T.length)) wr from by
    have i:=Ad (N.AA C.length);rw[<-c8.AA];unfold CX;rw[BK,i];exact⟨_,_,rfl,I.AA,K.AA⟩)
   clear I D;go_wp2_with fail;go_ret;exact HR.AA
end di
namespace Hz
open RowKit AJ BN BU Dn Lp di
def Ff (p:Prop)(w:World)(e:Ending)(w':World):Prop:=∃r:Bool,e= .returned (.bool r)/\(r=true↔p)/\Below w.heap.size w w'
theorem ko {T:Tw}{x:List Nat}(D:El T x):Kh.Zero (ints x)↔x=AJ.one T:=by
 have F:=Ad D;constructor
 .intro h;refine GN λj=>?_;unfold AJ.one;by_cases B:j<x.length
  .have I:=h ((x[j]:Nat):Int) (BX.2 ⟨x[j],Ho B,rfl⟩);rw[AU B,Gg,BQ (by omega)];congr 1;omega
  .rw[Dq (by omega),Dq (by rw[Bp];omega)]
 .rintro rfl y C;obtain⟨a,ha,rfl⟩:=BX.1 C;rw[List.eq_of_mem_replicate ha];rfl
theorem gL (T:Tw)(hT:Wf T)(x:Small T)(hg:AJ.Good T)(w:World)(b o:Nat)(hP:BH Any w b o (AZ T))(j R:Value)(L:List (List Int))(im:List (List Nat))(J:AQ Any w j L)(hi:AQ Any w R (im.map ints))(U:∀c∈im,El T c)
  (I:∀r∈L,(∀l∈r,DZ im.length l)/\r.length<=1000) (hn:L.length<=1000) (s:im.length=T.length):
  Calls Tryz.prog 81 #[j,.pointer (some ⟨b,o,none⟩),R] w (Ff (∀r∈L,Bb T im r=AJ.one T) w):=by
 obtain⟨aR,cR,rfl,_,_⟩:=Am.form J;obtain⟨n,K⟩:∃n,L.length=n:=⟨_,rfl⟩;rw[K]at J hn ⊢;have HR:=AB J;have p:=AB K;have HE:=AB (λV (g:Keep Any w V) v r (B:r∈L) (hv:AP Any V v r)=>jP T hT x hg V b o (hP.keep g) v R r im hv (hi.keep g) U (I r B).1 (I r B).2 s);have a8:=AB (λr (B:r∈L)=>R5 hT hg U r (I r B).1);clear J K hP hi U I s hT x hg;go_enter Tryz.func81,Tryz.ntmps81;go_wp2_with fail;go_loopw [11] (λW wr=>∃i:Nat,i<=n/\W= .int .i64 (i:Int)/\Hid (∀r∈L.take i,Bb T im r=AJ.one T)/\Hid (Below w.heap.size w wr)) (λW _=>n-(intOf W).toNat);case atStart=>exact⟨0,AX _,rfl,AB (by simp),AB AY⟩
 case round=>
  obtain⟨i,b0,rfl,F,C⟩:=hrel;by_cases O:i<n
  .obtain⟨r,B⟩:∃r,L[i]?=some r:=⟨_,AU (by rw[p.AA];exact O)⟩;have N:=Af B;obtain⟨bR,oR,u,rfl,_,a6,a3,y⟩:=Am.get (AQ.keep HR.AA (AO C.AA)) B;have HC:=AB (HE.AA wr (AO C.AA) u r N y);have a4:=AB (a8.AA r N);have a5:=AB (show∀q∈L.take (i+1),q∈L.take i\/q=r from λq D=>by
    rw[EL,B]at D;simpa using D)
   have b1:(i:Int)<(n:Int):=by omega
   have b2:(0:Int)<=(i:Int):=by omega
   have X:=AB O;have a7:=AB N;clear B N y O;go_wp2_with (first|(go_at_call 84;refine HC.AA.mono ?_;rintro e Y ⟨g3,c3,rfl,Z,a1⟩;have HZ:=AB (Kh.Qe Any _ _ Y (Z.sl.mono λ_ _=>trivial));have d:=AB (C.AA.trans (a1.mono C.AA.size))));obtain⟨z,S,-⟩:∃z:Bool,(z=true↔Bb T im r=AJ.one T)/\True:=by
    by_cases h:Bb T im r=AJ.one T
    .exact⟨true,⟨λ_=>h,λ_=>rfl⟩,trivial⟩
    .exact⟨false,⟨λe=>Bool.noConfusion e,λe=>absurd e h⟩,trivial⟩
   have a0:=AB S;refine HZ.AA.mono ?_;rintro e w4 ⟨a,rfl,a2,rfl⟩;obtain rfl:a=z:=by
    have h:=(a2.trans (ko a4.AA)).trans S.symm;exact Bool.eq_iff_iff.2 h
   clear S a2 Z a1 a3 a6;cases a
   .have Q:=AB (show Ff (∀r∈L,Bb T im r=AJ.one T) w (.returned (.bool false)) Y from⟨false,rfl,⟨λe=>Bool.noConfusion e,λh=>absurd (a0.AA.2 (h r a7.AA)) Bool.false_ne_true⟩,d.AA⟩);go_wp2_with fail;go_ret;exact Q.AA
   .have a9:=AB (show∀q∈L.take (i+1),Bb T im q=AJ.one T from λq D=>by
     rcases a5.AA q D with h|rfl
     .exact F.AA q h
     .exact a0.AA.1 rfl)
    clear F;go_wp2_with fail;go_roundw;case rel=>exact⟨i+1,X.AA,by go_num,a9,d⟩
    case measure=>have:=X.AA;simp[intOf];omega
  .obtain rfl:i=n:=by omega
   have K:¬(i:Int)<(i:Int):=by omega
   have Q:=AB (show Ff (∀r∈L,Bb T im r=AJ.one T) w (.returned (.bool true)) wr from⟨true,rfl,⟨λ_ r B=>F.AA r (by rw[<-p.AA,FO];exact B),λ_=>rfl⟩,C.AA⟩);clear F C;go_wp2_with fail;go_ret;exact Q.AA
end Hz
end Go.Proofs.YtgjadpmbnejaoaaGreat
