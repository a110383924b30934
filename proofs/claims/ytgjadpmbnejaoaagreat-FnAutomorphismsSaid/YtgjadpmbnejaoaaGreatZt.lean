import Derived.Test.YtgjadpmbnejaoaaGreatZs
/-
  Lemmas for the law FnAutomorphisms, in short spelling.
-/
set_option linter.unusedVariables false
set_option linter.unusedSimpArgs false
set_option maxRecDepth 100000
set_option maxHeartbeats 40000000
namespace Go.Proofs.YtgjadpmbnejaoaaGreat
namespace Ml
open RowKit AJ Gen CP IB FN BU FX Hf EN Jf Mo Iy aM Ea
theorem TF {B a l:Nat}(h:B=a+(l+1)):a+l<B:=by omega
theorem dO {B a n l c:Nat}(h:B=(a+1)*(n+3)+(l+1))(C:c<=n):a*(n+3)+(l+2+c)<B:=by rw[h,Nat.succ_mul];omega
def emp:List (List Nat)->Nat
 |[]=>0
 |r::tl=>(if r=[]then 1 else 0)+emp tl
theorem Uo:∀{tl:List (List Nat)} {d:Nat} {y:List Nat},tl[d]?=some []->y≠[]->emp (tl.set d y)+1=emp tl
 |[],d,y,h,_=>by simp at h
 |r::tl,0,y,h,hy=>by
  simp at h;subst h;simp[emp,hy];omega
 |r::tl,d+1,y,h,hy=>by
  have:=Uo (tl:=tl) (d:=d) (by simpa using h) hy;simp only[CB,emp];omega
theorem Zk:∀tl:List (List Nat),emp tl<=tl.length
 |[]=>Al _
 |r::tl=>by have:=Zk tl;simp only[emp,DX];split<;>omega
noncomputable def cm (T:Tw)(tl:List (List Nat))(d:Nat)(y:List Nat):Nat->List (List Nat)
 |0=>[]
 |e+1=>cm T tl d y e++(if e=d then []else match Ao tl e with
  |none=>[]
  |some z=>[com (mul T) (Ai T) y z])
theorem XO (T:Tw)(tl:List (List Nat))(d:Nat)(y:List Nat):∀e,(cm T tl d y e).length<=e
 |0=>Al _
 |e+1=>by
  have:=XO T tl d y e;rw[cm,Bc];split
  .simp;omega
  .split
   .simp;omega
   .simp;omega
theorem Zl {T:Tw}{tl:List (List Nat)}{d:Nat}{y:List Nat}:∀{e j:Nat} {z:List Nat},j<e->j≠d->Ao tl j=some z->com (mul T) (Ai T) y z∈cm T tl d y e
 |0,j,z,h,_,_=>absurd h (CS _)
 |e+1,j,z,h,hd,hz=>by
  rw[cm];rcases DF.1 h with B|B
  .exact OJ _ (Zl B hd hz)
  .subst B;rw[BF hd,hz];exact LZ _ CJ
theorem Zm {T:Tw}{tl:List (List Nat)}{d:Nat}{y w:List Nat}:∀{e:Nat},w∈cm T tl d y e->∃j z,j≠d/\Ao tl j=some z/\w=com (mul T) (Ai T) y z
 |0,h=>by simp[cm]at h
 |e+1,h=>by
  rw[cm]at h;rcases DY.1 h with B|B
  .exact Zm B
  .by_cases C:e=d
   .rw[BQ C]at B;simp at B
   .rw[BF C]at B;cases D:Ao tl e with
    |none=>rw[D]at B;simp at B
    |some z=>
     rw[D]at B;simp only[ES]at B;exact⟨e,z,C,D,B⟩
def Lj (B:Nat)(w:World)(u:Value)(r:List Nat):Prop:=(r=[]/\u= .slice none 0 0)\/CZ 2 B w u r
theorem Lj.sl {B:Nat}{w:World}{u:Value}{r:List Nat}(h:Lj B w u r):AP Any w u (ints r):=by
 rcases h with⟨rfl,rfl⟩|h
 .exact RN _ _
 .exact h.sl.mono (λ_ _=>trivial)
theorem Lj.keep {B:Nat}{w w':World}{u:Value}{r:List Nat}(h:Lj B w u r)(C:Keep (λk=>B<=k) w w'):Lj B w' u r:=by
 rcases h with h|h
 .exact .inl h
 .exact .inr (h.keep C (λ_ h=>h))
structure St (w W0 wr:World)(wv:Value)(tl rows:List (List Nat)):Prop where
 wk:Own2 24 2 (w.heap.size+2) wr wv rows
 tb:Cx (Lj (w.heap.size+2)) wr (w.heap.size+1) tl
 bl:Below (w.heap.size+1) W0 wr
 sz:w.heap.size+2<=wr.heap.size
theorem St.below {w C wr w':World}{D:Value}{tl rows:List (List Nat)}(h:St w C wr D tl rows)(B:Below wr.heap.size wr w'):St w C w' D tl rows:=
 ⟨h.wk.of_below B,h.tb.keep (S:=Any) (AO B) trivial (λ_ _ F=>F.keep (AO B)),h.bl.trans (B.mono (by have:=h.sz;omega)),Ae h.sz B.size⟩
theorem St.grow {w L C w':World}{F K u:Value}{tl rows:List (List Nat)}{r:List Nat}{us:List Value}(h:St w L C F tl rows)
  (I:C.ownsRow (w.heap.size+2) 24 1 F rows.length us) (O:us.length=rows.length) (S:∀(i:Nat) (r:List Nat) (u:Value),rows[i]?=some r->us[i]?=some u->CZ 2 (w.heap.size+2) C u r)
  (Q:CZ 2 (w.heap.size+2) C u r) (R:w'.ownsRow (w.heap.size+2) 24 1 K (rows.length+1) (us++[u])) (hg:C.grownBy w' F.ownBlock):St w L w' K tl (rows++[r]):=by
 have J:∀k,F.ownBlock=some k->w.heap.size+2<=k:=λk D=>(Aq I k D).1;have D:Keep (λk=>k<w.heap.size+2) C w':=Keep.grown hg (λk D e=>by have:=J k e.symm;omega);have N:Below (w.heap.size+2) C w':=AY.grown hg h.sz J;refine⟨Own2.push (by decide) rfl I O S Q R hg,h.tb.keep D (by omega) (λv r B=>?_),h.bl.trans (N.mono (by omega)),Ae h.sz N.size⟩;rcases B with B|B
 .exact .inl B
 .exact .inr ⟨B.1,JB B.2 hg (Gq B.2 I (by decide))⟩
theorem St.put {w D wr:World}{C u:Value}{tl rows:List (List Nat)}{y:List Nat}(h:St w D wr C tl rows)(d:Nat)(F:CZ 2 (w.heap.size+2) wr u y):St w D (wr.setCell ⟨w.heap.size+1,d,none⟩ u) C (tl.set d y) rows:=by
 have B:Keep (λk=>w.heap.size+2<=k) wr (wr.setCell ⟨w.heap.size+1,d,none⟩ u):=AL.setCell (by simp) _;exact⟨h.wk.keep B (λ_ h=>h),h.tb.set d (λ_ _ _ _=>trivial) (λv r I=>I.keep B) (.inr F),h.bl.setCell (p:=⟨w.heap.size+1,d,none⟩) AV _,by simpa using h.sz⟩
theorem St.pop {w B wr:World}{g c:Nat}{tl rows:List (List Nat)}{x:List Nat}(h:St w B wr (.slice (some ⟨g,0,none⟩) (rows++[x]).length c) tl (rows++[x])):St w B wr (.slice (some ⟨g,0,none⟩) rows.length c) tl rows:=
 ⟨Own2.pop h.wk,h.tb,h.bl,h.sz⟩
theorem UR {B B' n:Nat}{w w':World}{u v:Value}{r:List Nat}{us:List Value}(h:CZ 2 B w u r)(C:w.ownsRow B' 24 1 v n us)(hg:w.grownBy w' v.ownBlock):CZ 2 B w' u r:=
 ⟨h.1,JB h.2 hg (Gq h.2 C (by decide))⟩
theorem PV {B:Nat}{w:World}{v:Value}{y:List Nat}(h:Own B w v (ints y))(D:0<y.length):CZ 2 B w v y:=by
 obtain⟨g,c,C⟩:=h.form (by rw[BK];exact D);rw[BK]at C;unfold Own at h;rw[BK]at h;exact⟨⟨g,c,C⟩,h⟩
abbrev INV (T:Tw)(im tl rows:List (List Nat)):Prop:=Inv (El T) (mul T) (AJ.one T) T.length (oF T) fF (Ai T) im (Ao tl) rows
def Rq (T:Tw)(im:List (List Nat))(w:World)(e:Ending)(w':World):Prop:=
 ∃v tl B,e= .returned v/\Fv T im tl/\B.length=T.length/\FD T tl B 0/\AQ Any w' v ((BV (Ao B) T.length 0).map ints)/\Below w.heap.size w w'
theorem Wx (T:Tw)(hT:Wf T)(J:Small T)(hg:AJ.Good T)(hp:Pr T)(g:0<T.length)(w:World)(vO vP vC vi:Value)(im:List (List Nat))(V:Av Any w vO vP vC (AZ T))(n9:AQ Any w vi (im.map ints))(h8:∀x∈im,El T x)(hl:im.length<=6):
  Calls Tryz.prog 76 #[.agg #[vO,vP,vC],vi] w (Rq T im w):=by
 obtain⟨i0,hi,i7,i8,f8⟩:=Bd GJ;obtain⟨aO,cO,aP,cP,aC,cC,rfl,rfl,rfl,t3,s8,u8⟩:=V.open;have HP:=AB V;have f5:=AB h8;have k4:=AB n9;have HG:=AB (BA hT hg);have q0:=AB J;have q6:=AB hp;have HF:=AB (Ct hT hg);have k9:=AB (λW vt vx tl x V ht l hx hE N=>kI T hT J hg W (.slice aO T.length cO) (.slice aP T.length cP) (.slice aC T.length cC) vt vx tl x V ht l hx hE N);have l4:=AB (λW va a K hK V ha hA=>TP T hT J hg W (.slice aO T.length cO) (.slice aP T.length cP) (.slice aC T.length cC) va a K hK V ha hA);have p0:=AB (λW va vb a b V ha hb hA hB=>mX T hT J hg W (.slice aO T.length cO) (.slice aP T.length cP) (.slice aC T.length cC) va vb a b V ha hb hA hB);have q3:=AB (λW vt tl V ht l hc=>nE T hT J hg g W (.slice aO T.length cO) (.slice aP T.length cP) (.slice aC T.length cC) vt tl im V ht l hc);have o3:=AB (λW hv=>PU W vi im hv (by omega) (λr N=>by rw[Ad (h8 r N)];have:=J.1;omega));have o2:=J.1;have r8:=SX T.length o2;obtain⟨C,f4⟩:∃C,C=w.alloc (.cells #[.slice aO T.length cO,.slice aP T.length cP,.slice aC T.length cC] 28):=⟨_,rfl⟩;have p8:C.heap.size=w.heap.size+1:=by rw[f4];simp
 have c8:=AB (show Below (w.heap.size+1) (w.alloc (.cells #[.slice aO T.length cO,.slice aP T.length cP,.slice aC T.length cC] 28)) C by rw[f4];exact BB _ _);have k5:=AB (show Cx (Lj (w.heap.size+2)) (C.alloc (.cells (madeCells #[.slice none 0 0] T.length) 24)) (w.heap.size+1) (List.replicate T.length []) by
  have:=Cx.made (R:=Lj (w.heap.size+2)) C T.length (by unfold maxLen;omega) (.inl ⟨rfl,rfl⟩);rw[p8]at this;exact this)
 clear V n9 h8 hT J hg hp;go_enter Tryz.func76,Tryz.ntmps76;go_upto_region 2 with fail;rw[<-f4];clear f4;obtain⟨e0,_,_⟩:=CY c8.AA;go_wp2_with fail;refine(o3.AA _ (k4.AA.keep (Keep.trans (Cq c8.AA Any) (AL.alloc _)))).mono ?_;rintro e w1 ⟨v1,rfl,i9,b4⟩;have p2:=AB (show St w C w1 v1 (List.replicate T.length []) im from by
  have hz:(C.alloc (.cells (madeCells #[.slice none 0 0] T.length) 24)).heap.size=w.heap.size+2:=by simp;omega
  rw[hz]at i9 b4;exact⟨i9,k5.AA.keep (S:=Any) (AO (by rw[hz];exact b4)) trivial (λ_ _ N=>N.keep (AO (by rw[hz];exact b4))),(AY.alloc (by omega) _).trans (b4.mono (by omega)),by have:=b4.size;omega⟩)
 clear i9 b4 k5 o3 k4 r8 e0;go_wp2_with fail;go_loopg [7] (T.length*(T.length+3)+im.length) (λgk wv wr=>∃tl rows:List (List Nat),tl.length=T.length/\gk<=100/\gk=emp tl*(T.length+3)+rows.length/\Hid (INV T im tl rows)/\Hid (St w C wr wv tl rows));case atStart=>
  refine⟨List.replicate T.length [],im,by simp,by have:=Nat.mul_le_mul o2 (show T.length+3<=9 by omega);omega,?_,AB (by unfold INV;rw[ME];exact Inv.start HF.AA f5.AA),p2⟩;have:∀n,emp (List.replicate n [])=n:=λn=>by
   induction n with
   |zero=>rfl
   |succ n ih=>rw[List.replicate_succ,emp,ih,BQ rfl];omega
  rw[this]
 case round=>
  obtain⟨tl,rows,l,l8,g5,a0,e7⟩:=hrel;have b0:=AB e7.AA;have b5:=c8.AA.trans e7.AA.bl;have j7:=Cq b5 Any;obtain⟨e0,e1,e2⟩:=CY b5;have t0:rows.length<=100:=by omega
  have f7:=AB (HP.AA.keep j7);have t9:w.heap.size<wr.heap.size:=by have:=b0.AA.sz;omega
  have j4:=AB (show AQ Any wr (.slice (some ⟨w.heap.size+1,0,none⟩) T.length T.length) (tl.map ints) by
   have:=Cx.sl2 b0.AA.tb (λ_ _ h=>h.sl);rwa[l]at this)
  by_cases j3:rows=[]
  .subst j3;obtain⟨aW,cW,a6,_,_⟩:=b0.AA.wk.form;simp only[List.length_nil]at a6;subst a6;have p9:decide (((0:Nat):Int)>0)=false:=by simp
   have m5:=AB (a0.AA.Oo HF.AA f5.AA);have l1:=AB (Cy b5);clear b5 j7 e7 g5;go_wp2_with fail;refine(q3.AA _ _ tl f7.AA j4.AA l m5.AA).mono ?_;rintro e Q ⟨v2,dn,rfl,I,h2,h3,h4⟩;have HR:=AB (show Rq T im w (.returned v2) Q from⟨v2,tl,dn,rfl,m5.AA,I,h2,h3,l1.AA.trans (h4.mono l1.AA.size)⟩);clear I h2 h3 h4;go_wp2_with fail;go_ret;exact HR.AA
  .obtain⟨rs,x,rfl⟩:∃rs x,rows=rs++[x]:=⟨_,_,(List.dropLast_concat_getLast j3).symm⟩;obtain⟨gw,cw,u,a6,u0,u7,k0,l2⟩:=b0.AA.wk.at (i:=rs.length) (r:=x) (by simp);obtain⟨B,f3⟩:∃B,rs.length=B:=⟨_,rfl⟩;obtain⟨m,hm⟩:∃m,(rs++[x]).length=m:=⟨_,rfl⟩;have g1:m=B+1:=by rw[<-hm,<-f3];simp
   have t6:m<=cw:=by
    obtain⟨a',c',I,h2,_⟩:=b0.AA.wk.form;rw[a6]at I;simp only[Du]at I;omega
   have j0:=AB (show St w C wr (.slice (some ⟨gw,0,none⟩) rs.length cw) tl rs from by
    have h:=b0.AA;rw[a6]at h;exact h.pop)
   rw[hm]at a6;rw[f3]at k0 j0;subst a6;have n0:El T x:=(Gen.sub HG.AA f5.AA).le (a0.AA.wg x (LZ _ CJ));have k3:=AB n0;have n3:=AB (l2.sl.mono (S':=Any) (λ_ _=>trivial));obtain⟨⟨gu,cu,rfl⟩,_⟩:=l2;have q9:=AB (show∀r∈tl,r≠[]->El T r from λr N q7=>by
    obtain⟨j,Z⟩:=Eb N;exact(a0.AA.tb j r (GU Z q7)).2.1.1)
   have p9:decide ((m:Int)>0)=true:=by simp;omega
   have t8:(0:Int)<(m:Int):=by omega
   have u6:IntKind.i64.wrap ((m:Int)-1)=(B:Int):=by rw[Ac _ (by omega)];omega
   have u2:(B:Int)<(m:Int):=by omega
   have v4:(0:Int)<=(B:Int):=by omega
   have s4:(B:Int)<=(cw:Int):=by omega
   have u5:0<m:=by omega
   have t1:B<=100:=by omega
   have g0:=AB (show gk=emp tl*(T.length+3)+(B+1) by rw[g5,hm,g1]);have s7:=AB g1;have a5:=AB f3;have m3:=AB b5;have v3:wrap64 ((m:Int)-1)=(B:Int):=(Ca.wrap_i64 (by omega) (by omega)).trans (by omega);obtain⟨d,rest,J⟩:∃d rest,Fj T tl T.length 0 x=(d,rest):=⟨_,_,rfl⟩;have p3:=AB (show Calls Tryz.prog 135 #[.agg #[.slice aO T.length cO,.slice aP T.length cP,.slice aC T.length cC],.slice (some ⟨w.heap.size+1,0,none⟩) T.length T.length,.slice (some ⟨gu,0,none⟩) x.length cu] wr λe w'=>∃v,e= .returned (.tuple #[.int .i64 (d:Int),v])/\Own wr.heap.size w' v (ints rest)/\El T rest/\Below wr.heap.size wr w' from by
    have h:=k9.AA wr _ _ tl x f7.AA j4.AA l n3.AA k3.AA q9.AA;unfold Rp at h;rw[J]at h;exact h)
   have v0:d<=T.length:=by
    have:=(UO (m:=mul T) (e:=AJ.one T) (f:=fF) (inv:=Ai T) (Ao tl) T.length 0 x).2;rw[show strip (mul T) (AJ.one T) fF (Ai T) (Ao tl) T.length 0 x=(d,rest) from J]at this;simpa using this
   have j1:=AB J;clear j3 n0 b5 j7 e7 g1 f3 hm g5 J f7 j4 n3 k9;go_wp2_with fail;refine p3.AA.mono ?_;rintro e Q ⟨v2,rfl,a7,a1,b9⟩;have d6:=AB (j0.AA.below b9);have i2:=AB (m3.AA.trans (b9.mono (by omega)));have t2:=b9.size;by_cases m1:d=T.length
   .have hq:((d:Int)==(T.length:Int))=true:=by simp;omega
    have g6:=AB (a0.AA.member (by rw[show strip (mul T) (AJ.one T) fF (Ai T) (Ao tl) T.length 0 x=(d,rest) from j1.AA];exact m1));clear a7 a1 b9;go_wp2_with fail;go_roundg (emp tl*(T.length+3)+B);case measure=>exact TF g0.AA
    case rel=>exact⟨tl,rs,l,Ae (Ci (TF g0.AA)) l8,by rw[a5.AA],g6,d6⟩
   .have hq:((d:Int)==(T.length:Int))=false:=by simp;omega
    have c7:d<T.length:=by omega
    obtain⟨L,hL⟩:∃L,T[d]?=some L:=⟨_,AU c7⟩;have d8:=HF.AA.Pm a0.AA.tb T.length 0 x (by omega) ⟨k3.AA,λj Z=>absurd Z (CS _)⟩;rw[show strip (mul T) (AJ.one T) fF (Ai T) (Ao tl) T.length 0 x=(d,rest) from j1.AA]at d8;have hA:=d8.1;obtain⟨h5,b3⟩:=d8.2 c7;simp only at hA h5 b3;obtain⟨a,ha⟩:∃a,rest[d]?=some a:=⟨_,AU (by rw[Ad a1];exact c7)⟩;have i6:fF d rest=a:=by unfold fF;rw[BG,ha];rfl
    have r0:a≠0:=λh=>h5 (i6.trans h);have o9:a<L.o:=by
     obtain⟨L',e4,b7⟩:=Gb a1 ha;rw[hL]at e4;injection e4 with e4;rw[e4];exact b7
    have l0:=q6.AA L (Af hL);have n7:oF T d=L.o:=He hL;obtain⟨bO,oO,rfl,_,m4,h6⟩:=HP.AA.ord hL;obtain⟨g2,c2,o4⟩:=a7.form (by rw[BK,Ad a1];exact g);rw[BK,Ad a1]at o4;subst o4;obtain⟨s2,_⟩:=a7.cell (j:=d) (a:=(a:Int)) (by rw[Dt,ha];rfl);have i4:=Cq i2.AA Any;obtain⟨f0,f1,f2⟩:=CY i2.AA;have r1:=(i4.cell (b:=bO) (o:=oO+d) trivial m4).trans h6;have s3:w.heap.size+2<=Q.heap.size:=d6.AA.sz;have t7:w.heap.size<Q.heap.size:=by omega
    have u4:bO<Q.heap.size:=by omega
    have u3:=a7.lt.2;have s6:(d:Int)<(T.length:Int):=by omega
    have s5:(0:Int)<=(d:Int):=by omega
    have l7:=AB (HP.AA.keep i4);have j8:=AB (a7.sl.mono (S':=Any) (λ_ _=>trivial));have m9:=AB (PV (a7.mono (B':=w.heap.size+2) (by have:=b0.AA.sz;exact this)) (by rw[Ad a1];exact g));have HA:=AB (And.intro hA (And.intro b3 (And.intro i6 n7)));have q8:=AB l0;have m0:=AB a1;have u1:L.o<=7:=q0.AA.2 L (Af hL);have m7:=AB h6;clear d8 hA b3 h5 i6 n7 ha a7 i4 l0 hL a1 m1 h6 e0 e1 e2 k0;go_wp2_with fail;go_region_held3 (λw'=>(∀b o,b<Q.heap.size->w'.cell? ⟨b,o,none⟩=Q.cell? ⟨b,o,none⟩)/\Keep (λ_=>True) Q w')
     (first|exact Ap (by repeat(first|exact Ab|exact AL|refine AR ?_ ‹_›)))
     (first|(go_at_call 137;refine(qw a L.o q8.AA o9 r0 _).mono ?_;rintro e w5 ⟨⟨c,rfl,v7,o5⟩,rfl⟩)|(go_at_call 136;refine(l4.AA _ (.slice (some ⟨g2,0,none⟩) T.length c2) rest c (by omega) (l7.AA.keep (by repeat(first|exact Ab|exact AL|refine AR ?_ ‹_›))) (j8.AA.keep (by repeat(first|exact Ab|exact AL|refine AR ?_ ‹_›))) m0.AA).mono ?_;rintro e w6 ⟨v6,rfl,f6,r9⟩))
    have g4:Below Q.heap.size Q w6:=(by repeat(first|exact BB _ _|exact AY.drew|refine Below.step ?_ AV ‹_›));obtain⟨y,hy⟩:∃y,y=npow (mul T) (AJ.one T) rest c:=⟨_,rfl⟩;rw[<-hy]at f6;have d1:El T y:=by rw[hy];exact HG.AA.npow m0.AA c
    have l5:fF d y=1:=by
     rw[hy,HF.AA.GY c7 HA.AA.1,HA.AA.2.2.1,HA.AA.2.2.2,JC];exact o5
    have s:=AB (And.intro hy (And.intro d1 l5));obtain⟨U,X,n5⟩:=f6.form (by rw[BK,Ad d1];exact g);rw[BK,Ad d1]at n5;subst n5;have f9:=AB (PV (f6.mono (B':=w.heap.size+2) (by have I:=(show Keep (λ_=>True) Q Q.drew from AL.drew).size;omega)) (by rw[Ad d1];exact g));have j5:=AB (d6.AA.below g4);have g8:tl[d]?=some []:=by
     cases b3:tl[d]? with
     |none=>have:=List.getElem?_eq_none_iff.1 b3;omega
     |some r=>cases r with
      |nil=>rfl
      |cons q r=>have h:=GU b3 (by simp);rw[HA.AA.2.1]at h;simp at h
    obtain⟨ut,p6,p4,_⟩:=j5.AA.tb.at g8;have p1:=AB g8;obtain⟨w7,d2⟩:∃w7,w7=w6.setCell ⟨w.heap.size+1,d,none⟩ (.slice (some ⟨U,0,none⟩) T.length X):=⟨_,rfl⟩;have e6:=AB (show St w C w7 _ (tl.set d y) rs by rw[d2];exact j5.AA.put d f9.AA);have m2:=AB (show CZ 2 (w.heap.size+2) w7 (.slice (some ⟨g2,0,none⟩) T.length c2) rest by rw[d2];exact CZ.keep (CZ.keep m9.AA (S:=Any) (AO g4) (λ_ _=>trivial)) (S:=λk=>w.heap.size+2<=k) (AL.setCell (p:=⟨w.heap.size+1,d,none⟩) (by simp) (.slice (some ⟨U,0,none⟩) T.length X)) (λ_ h=>h));have l3:=AB (show CZ 2 (w.heap.size+2) w7 (.slice (some ⟨U,0,none⟩) T.length X) y by rw[d2];exact CZ.keep f9.AA (S:=λk=>w.heap.size+2<=k) (AL.setCell (p:=⟨w.heap.size+1,d,none⟩) (by simp) (.slice (some ⟨U,0,none⟩) T.length X)) (λ_ h=>h));clear hy d1 l5 f6 r9 g4 g8 r1 s2 f0 f1 f2 b9;obtain⟨us,I,h2,h4⟩:=e6.AA.wk;rw[a5.AA]at I;have j2:=AB (And.intro h2 h4);have s9:=e6.AA.sz;clear h2 h4;go_upto_region 11 with fail;rw[<-d2];clear d2 p6 p4;go_wp2_with (at_builtin;(refine DR _ rfl _ _ 25 rfl (w.heap.size+2) 24 i0 (.slice none 0 0) 1 24 Tryz.underlying25 hi i7 i8 f8 rfl (by decide) _ _ _ rfl (Aw I (S:=Any) (AL.alloc _) (λ_ _=>trivial)) ⟨w7.heap.size,0,none⟩ 1 1 [.slice (some ⟨g2,0,none⟩) T.length c2] rfl rfl ?c1 ?c2 ?c3 ?c4 ?c5 ?_));case c1=>
     intro j u Z
     match j,Z with
     |0,Z=>simp at Z;subst Z;simp[Addr.add]
    case c2=>intro u hu;simp at hu;subst hu;rfl
    case c3=>unfold maxLen;omega
    case c4=>omega
    case c5=>simp;omega
    .intro v8 F n1 h7 _;have d3:=AB (show St w C F v8 (tl.set d y) (rs++[rest]) from
      St.grow (e6.AA.below (AY.alloc AV _)) (us:=us) (by rw[a5.AA];exact Aw I (S:=Any) (AL.alloc _) (λ_ _=>trivial)) j2.AA.1 (λi r u N hu=>(j2.AA.2 i r u N hu).keep (S:=Any) (AL.alloc _) (λ_ _=>trivial)) (m2.AA.keep (S:=Any) (AL.alloc _) (λ_ _=>trivial)) (by rw[a5.AA];exact n1) h7)
     have i1:=AB (show CZ 2 (w.heap.size+2) F (.slice (some ⟨U,0,none⟩) T.length X) y from
      UR (l3.AA.keep (S:=Any) (AL.alloc _) (λ_ _=>trivial)) (Aw I (S:=Any) (AL.alloc _) (λ_ _=>trivial)) h7)
     have g7:=c8.AA.trans d3.AA.bl;have g3:=Cq g7 Any;obtain⟨f0,f1,f2⟩:=CY g7;have r7:=(g3.cell (b:=bO) (o:=oO+d) trivial m4).trans m7.AA;have l9:=d3.AA.sz;have q5:w.heap.size<F.heap.size:=by omega
     have r6:bO<F.heap.size:=by omega
     have k7:=AB (HP.AA.keep g3);have k6:=AB (i1.AA.sl.mono (S':=Any) (λ_ _=>trivial));have i3:=AB (HG.AA.npow s.AA.2.1 L.o);obtain⟨d0,q1,q2,q4⟩:=d3.AA.wk;rw[show(rs++[rest]).length=B+1 by simp[a5.AA]]at q1;have Y:=AB (And.intro q1 (And.intro q2 q4));have k8:=AB (show(rs++[rest]).length=B+1 by simp[a5.AA]);clear n1 h7 I j2 g7 g3 q1 q2 q4 e6 m2 l3 m7;go_upto_region 12 with fail;go_cut [7] (λwv W=>Hid (St w C W wv (tl.set d y) (rs++[rest]++[npow (mul T) (AJ.one T) y L.o]))/\Hid (CZ 2 (w.heap.size+2) W (.slice (some ⟨U,0,none⟩) T.length X) y));case first=>
      go_region_law
       (first|(go_simp;go_at_call 136;refine(l4.AA _ (.slice (some ⟨U,0,none⟩) T.length X) y L.o (by omega) (k7.AA.keep (by repeat(first|exact Ab|exact AL|refine AR ?_ ‹_›))) (k6.AA.keep (by repeat(first|exact Ab|exact AL|refine AR ?_ ‹_›))) s.AA.2.1).mono ?_;rintro e O ⟨v9,rfl,b1,e5⟩;obtain⟨g9,c9,c6⟩:=b1.form (by rw[BK,Ad i3.AA];exact g);rw[BK,Ad i3.AA]at c6;subst c6;have n4:=e5.size;have n6:F.heap.size<=O.heap.size:=(show Keep (λ_=>True) F O from(by repeat(first|exact Ab|exact AL|refine AR ?_ ‹_›))).size)|(refine Ja _ (by rfl) _ _ _ (by rfl) (w.heap.size+2) 24 i0 (.slice none 0 0) 1 24 Tryz.underlying25 hi i7 i8 f8 rfl (by omega) v8 (B+1) d0 (by rfl) ((Aw Y.AA.1 (S:=Any) (by repeat(first|exact Ab|exact AL|refine AR ?_ ‹_›)) (λ_ _=>trivial)).alloc _) ⟨O.heap.size,0,none⟩ 1 1 [.slice (some ⟨g9,0,none⟩) T.length c9] (by rfl) (by rfl) (Cw (cs:= #[.slice (some ⟨g9,0,none⟩) T.length c9]) (t:=24) (fr:=(0,0)) (Aj O _)) (by simp[Value.oneCell']) (by omega) (by unfold maxLen;omega) (by omega) (by simp;omega) _ rfl ?_;intro gg cap d4 d7 b2 l6 m8))
      all_goals (go_wp2_with fail;go_meet)
      all_goals
       have a3:Below F.heap.size F O:=(by repeat(first|exact BB _ _|exact AY.drew|refine Below.step ?_ AV ‹_›));have a4:Keep (λ_=>True) F O:=AO a3;have b6:=Aw Y.AA.1 (S:=Any) (Keep.alloc a4 (.cells #[.slice (some ⟨g9,0,none⟩) T.length c9] 24)) (λ_ _=>trivial);have o7:St w C d4 (.slice (some ⟨gg,0,none⟩) (B+1+1) cap) (tl.set d y) (rs++[rest]++[npow (mul T) (AJ.one T) y L.o]):=
        St.grow (d3.AA.below (a3.alloc a3.size _)) (us:=d0) (by rw[k8.AA];exact b6) Y.AA.2.1 (λi r u N hu=>(Y.AA.2.2 i r u N hu).keep (S:=Any) (Keep.alloc a4 _) (λ_ _=>trivial)) ((PV (b1.mono (B':=w.heap.size+2) l9) (by rw[Ad i3.AA];exact g)).keep (S:=Any) (Keep.alloc AL _) (λ_ _=>trivial)) (by rw[k8.AA];exact d7) b2
       have r4:CZ 2 (w.heap.size+2) d4 (.slice (some ⟨U,0,none⟩) T.length X) y:=UR (i1.AA.keep (S:=Any) (Keep.alloc a4 _) (λ_ _=>trivial)) b6 b2;exact⟨AB o7,AB r4⟩
     case rest=>
      obtain⟨m6,o0⟩:=hcut;clear d3 i1 k7 k6 Y r7 f0 f1 f2 l9 q5 r6 j5 f9 m9 d6 j0 i2 l7 j8 m3;go_wp2_with fail;go_loopw [7,12] (λwv ev wr=>∃(e:Nat) (D:List (List Nat)),e<=T.length/\ev= .int .i64 (e:Int)/\D.length<=B+2+e/\Hid (D=rs++[rest]++[npow (mul T) (AJ.one T) y L.o]++cm T tl d y e)/\Hid (St w C wr wv (tl.set d y) D)/\Hid (CZ 2 (w.heap.size+2) wr (.slice (some ⟨U,0,none⟩) T.length X) y)) (λ_ ev _=>T.length-(intOf ev).toNat);case atStart=>exact⟨0,_,AX _,rfl,by simp[a5.AA],AB (by simp[cm]),m6,o0⟩
      case round=>
       obtain⟨e,D,he,rfl,v5,d5,a2,e9⟩:=hrel;have b8:=c8.AA.trans a2.AA.bl;have e3:=Cq b8 Any;obtain⟨f0,f1,f2⟩:=CY b8;have s0:=a2.AA.sz;have t4:w.heap.size<wr.heap.size:=by omega
       clear m6 o0;by_cases b7:e<T.length
       .by_cases a8:e=d
        .have hq:((e:Int) !=(d:Int))=false:=by simp[a8]
         have c0:=AB (show D=rs++[rest]++[npow (mul T) (AJ.one T) y L.o]++cm T tl d y (e+1) by rw[cm,BQ a8,FP];exact d5.AA);subst a8;clear b8 e3 b7;go_wp2_with fail;go_roundw;case rel=>exact⟨e+1,D,by omega,by go_num,by omega,c0,a2,e9⟩
         case measure=>simp[intOf]<;>omega
        .have hq:((e:Int) !=(d:Int))=true:=by simp;omega
         have u9:(e:Int)<(T.length:Int):=by omega
         have t5:(0:Int)<=(e:Int):=by omega
         obtain⟨q,i5⟩:∃q,tl[e]?=some q:=⟨_,AU (by omega)⟩;obtain⟨uq,r5,_,k2⟩:=a2.AA.tb.at (i:=e) (r:=q) (by rw[KA (λh=>a8 h.symm)];exact i5);have d9:=k2.sl;obtain⟨aQ,cQ,rfl,_⟩:=AP.open d9;obtain⟨lq,e8⟩:∃lq,q.length=lq:=⟨_,rfl⟩;rw[e8]at r5 d9;have o6:=AB d9;have h9:=AB i5;have n2:=AB a8;have r3:=AB (HP.AA.keep e3);have p5:=AB (e9.AA.sl.mono (S':=Any) (λ_ _=>trivial));clear k2 d9 i5 b8 e3;by_cases a9:q=[]
         .obtain rfl:0=lq:=by rw[<-e8,a9];rfl
          have o8:decide (((0:Nat):Int)>0)=false:=by simp
          have c0:=AB (show D=rs++[rest]++[npow (mul T) (AJ.one T) y L.o]++cm T tl d y (e+1) by rw[cm,BF n2.AA,KS (by rw[h9.AA,a9]),FP];exact d5.AA);clear e8 a9 b7 a8;go_wp2_with fail;go_roundw;case rel=>exact⟨e+1,D,by omega,by go_num,by omega,c0,a2,e9⟩
          case measure=>simp[intOf]<;>omega
         .have s1:0<lq:=by
           have:q.length≠0:=λh=>a9 (Di h);omega
          have o8:decide ((lq:Int)>0)=true:=by simp;omega
          have h0:=AB (a0.AA.tb e q (GU h9.AA a9)).2.1.1;have j6:=AB (show El T (com (mul T) (Ai T) y q) from(by
           have I:=HG.AA.cl h0.AA s.AA.2.1;have h2:=HG.AA.cl s.AA.2.1 h0.AA;exact HG.AA.cl (HF.AA.iM I) h2))
          have c0:=AB (show D++[com (mul T) (Ai T) y q]=rs++[rest]++[npow (mul T) (AJ.one T) y L.o]++cm T tl d y (e+1) by rw[cm,BF n2.AA,GU h9.AA a9,d5.AA,Dy]);obtain⟨d0,q1,q2,q4⟩:=a2.AA.wk;have Y:=AB (And.intro q1 (And.intro q2 q4));clear e8 a9 b7 a8 q1 q2 q4;go_upto_region 17 with fail;rename World=>F;go_region_law
           (first|(go_simp;go_at_call 138;refine(p0.AA _ (.slice (some ⟨U,0,none⟩) T.length X) (.slice aQ lq cQ) y q (r3.AA.keep (by repeat(first|exact Ab|exact AL|refine AR ?_ ‹_›))) (p5.AA.keep (by repeat(first|exact Ab|exact AL|refine AR ?_ ‹_›))) (o6.AA.keep (by repeat(first|exact Ab|exact AL|refine AR ?_ ‹_›))) s.AA.2.1 h0.AA).mono ?_;rintro e' O ⟨v9,rfl,b1,e5⟩;obtain⟨g9,c9,c6⟩:=b1.form (by rw[BK,Ad j6.AA];exact g);rw[BK,Ad j6.AA]at c6;subst c6;have n4:=e5.size;have n6:F.heap.size<=O.heap.size:=(show Keep (λ_=>True) F O from(by repeat(first|exact Ab|exact AL|refine AR ?_ ‹_›))).size)|(refine Ja _ (by rfl) _ _ _ (by rfl) (w.heap.size+2) 24 i0 (.slice none 0 0) 1 24 Tryz.underlying25 hi i7 i8 f8 rfl (by omega) _ D.length d0 (by rfl) ((Aw Y.AA.1 (S:=Any) (by repeat(first|exact Ab|exact AL|refine AR ?_ ‹_›)) (λ_ _=>trivial)).alloc _) ⟨O.heap.size,0,none⟩ 1 1 [.slice (some ⟨g9,0,none⟩) T.length c9] (by rfl) (by rfl) (Cw (cs:= #[.slice (some ⟨g9,0,none⟩) T.length c9]) (t:=24) (fr:=(0,0)) (Aj O _)) (by simp[Value.oneCell']) (by omega) (by unfold maxLen;omega) (by omega) (by simp;omega) _ rfl ?_;intro gg cap d4 d7 b2 l6 m8))
          all_goals
           have a3:Below F.heap.size F O:=(by repeat(first|exact BB _ _|exact AY.drew|refine Below.step ?_ AV ‹_›));have a4:Keep (λ_=>True) F O:=AO a3;have b6:=Aw Y.AA.1 (S:=Any) (Keep.alloc a4 (.cells #[.slice (some ⟨g9,0,none⟩) T.length c9] 24)) (λ_ _=>trivial);have r2:=AB (show St w C d4 (.slice (some ⟨gg,0,none⟩) (D.length+1) cap) (tl.set d y) (D++[com (mul T) (Ai T) y q]) from
            St.grow (a2.AA.below (a3.alloc a3.size _)) (us:=d0) b6 Y.AA.2.1 (λi r u N hu=>(Y.AA.2.2 i r u N hu).keep (S:=Any) (Keep.alloc a4 _) (λ_ _=>trivial)) ((PV (b1.mono (B':=w.heap.size+2) s0) (by rw[Ad j6.AA];exact g)).keep (S:=Any) (Keep.alloc AL _) (λ_ _=>trivial)) d7 b2)
           have p7:=AB (show CZ 2 (w.heap.size+2) d4 (.slice (some ⟨U,0,none⟩) T.length X) y from UR (e9.AA.keep (S:=Any) (Keep.alloc a4 _) (λ_ _=>trivial)) b6 b2);clear a3 a4 b6 d7 b2 l6 m8 b1 e5 n4 n6;go_wp2_with fail;go_roundw;case rel=>exact⟨e+1,_,by omega,by go_num,by simp;omega,c0,r2,p7⟩
           case measure=>simp[intOf]<;>omega
       .obtain rfl:e=T.length:=by omega
        have j9:=Uo p1.AA (y:=y) (λh=>by have:=Ad s.AA.2.1;rw[h]at this;simp only[List.length_nil]at this;omega);have n8:=AB (show emp (tl.set d y)*(T.length+3)+(B+2+(cm T tl d y T.length).length)<gk from dO (by rw[j9];exact g0.AA) (XO T tl d y T.length));have k1:=AB (show D.length=B+2+(cm T tl d y T.length).length by rw[d5.AA];simp[a5.AA];omega);have g6:=AB (show INV T im (tl.set d y) D from by
         unfold INV;rw[Q4 (by omega) (λh=>by have:=Ad s.AA.2.1;rw[h]at this;simp only[List.length_nil]at this;omega),d5.AA];refine a0.AA.enter HF.AA f5.AA j1.AA c7 s.AA.1 s.AA.2.2 (λw hw=>by simp[hw]) (by simp) (by rw[HA.AA.2.2.2];simp) (λj z Z hz=>?_) (λw hw=>?_)
         .exact LZ _ (Zl (a0.AA.tb j z hz).1 Z hz)
         .rcases DY.1 hw with h|h
          .rcases DY.1 h with h|h
           .rcases DY.1 h with h|h
            .exact .inl h
            .exact .inr (.inl (ES.1 h))
           .exact .inr (.inr (.inl (by rw[HA.AA.2.2.2];exact ES.1 h)))
          .exact .inr (.inr (.inr (Zm h))))
        clear j9 b8 e3 b7;go_wp2_with fail;go_roundg (emp (tl.set d y)*(T.length+3)+D.length);case measure=>rw[k1.AA];exact n8.AA
        case rel=>exact⟨tl.set d y,D,by simp[l],Ae (Ci (by rw[k1.AA];exact n8.AA)) l8,rfl,g6,a2⟩
end Ml
end Go.Proofs.YtgjadpmbnejaoaaGreat
