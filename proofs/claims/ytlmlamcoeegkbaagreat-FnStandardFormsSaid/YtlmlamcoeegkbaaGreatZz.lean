import Derived.Test.YtlmlamcoeegkbaaGreatZ0
import Derived.Test.YtlmlamcoeegkbaaGreatZy
import Derived.Deep.AppendLies
/-
  Lemmas for the law FnStandardForms, in short spelling.
-/
open Go.Lib (hid)
set_option linter.unusedVariables false
set_option linter.unusedSimpArgs false
set_option maxRecDepth 100000
set_option maxHeartbeats 40000000
namespace Go.Proofs.YtlmlamcoeegkbaaGreat.SfM
open Go Go.Maps Go.RowKit Go.Proofs.YtlmlamcoeegkbaaGreat AJ CV Gen Dq F9 PU IM JD OL VV vk VW Yy jH jK sW SfN
open Go.Proofs.YtlmlamcoeegkbaaGreat.DL (Any)
open Go.Proofs.YtlmlamcoeegkbaaGreat.Bv (AO BL FI ZC)
theorem AAT {B n:Nat}{e:TypeId}{w:World}{v:Value}{xs:List Value}(h:w.ownsRow B e 1 v n xs)(hn:0<n):∃g c cur,v= .slice (some ⟨g,0,none⟩) n c∧B≤g∧w.heap[g]?=some (.cells cur e (0,0))∧n≤c∧c≤maxLen∧cur.size=c:=by
 rcases h.2 with⟨_,h0⟩|⟨g,cap,cur,e,h1,h2,h3,h4,h5,h6⟩
 ·omega
 ·exact⟨g,cap,cur,e,h1,h2,h3,h4,by simpa using h5⟩
def BV (B:Nat)(W:World)(v:Value)(best:Option (List Nat)):Prop:=(best=none∧v= .slice none 0 0)∨∃K g c,best=some K∧v= .slice (some ⟨g,0,none⟩) K.length c∧W.ownsRow B 2 1 v K.length (vals (ints K))∧0<K.length
def Dn (T:Tw)(tl:List (List Nat))(a x:Nat)(t:List Nat)(x':Nat):Prop:=(∃j,j<a∧tl[j]?=some t∧x'<sz T)∨(tl[a]?=some t∧x'<x)
theorem Zf {T:Tw}{tl:List (List Nat)}{a x:Nat}{t:List Nat}(ht:tl[a]?=some t)(t':List Nat)(x':Nat):More (Dn T tl a x) t x t' x'↔Dn T tl a (x+1) t' x':=by
 constructor
 ·rintro((⟨j,hj,h1,h2⟩|⟨h1,h2⟩)|⟨rfl,rfl⟩)
  ·exact .inl ⟨j,hj,h1,h2⟩
  ·exact .inr ⟨h1,by omega⟩
  ·exact .inr ⟨ht,Nat.lt_succ_self _⟩
 ·rintro(⟨j,hj,h1,h2⟩|⟨h1,h2⟩)
  ·exact .inl (.inl ⟨j,hj,h1,h2⟩)
  ·by_cases e:x'=x
   ·rw[ht]at h1;exact .inr ⟨by simpa using h1.symm,e⟩
   ·exact .inl (.inr ⟨h1,by omega⟩)
structure BN (T:Tw)(q n k B:Nat)(W:World)(tl:List (List Nat))(a x:Nat)(bv nv:Value)(best:Option (List Nat))(next:List (List Nat)):Prop where
 v:BV B W bv best
 o:Own2 111 3 B W nv next
 b:Ia T q n k (Dn T tl a x) best next
 l:next.length≤a*27+x
theorem BN.below {T:Tw}{q n k B:Nat}{W W':World}{tl:List (List Nat)}{a x:Nat}{bv nv:Value}{best:Option (List Nat)}{next:List (List Nat)}(h:BN T q n k B W tl a x bv nv best next)(hb:Below W.heap.size W W'):BN T q n k B W' tl a x bv nv best next:=
 ⟨h.v.imp id fun⟨K,g,c,h1,h2,h3,h4⟩=>⟨K,g,c,h1,h2,BM h3 (AA.of_below (S:=Any) hb) fun _ _=>trivial,h4⟩,h.o.of_below hb,h.b,h.l⟩
theorem BV.step {B:Nat}{w w2 w9:World}{v nv:Value}{best:Option (List Nat)}{ln:Nat}{us:List Value}(h:BV B w v best)(hb:Below w.heap.size w w2)(hn:w2.ownsRow B 111 1 nv ln us)(hg:w2.grownBy w9 nv.ownBlock):BV B w9 v best:=
 h.imp id fun⟨K,g,c,h1,h2,h3,h4⟩=>by
  have h5:=BM h3 (AA.of_below (S:=Any) hb) fun _ _=>trivial;exact⟨K,g,c,h1,h2,h5.kept hg (JY h5 hn (by decide)),h4⟩
theorem AEC {α:Type}{E:World→Value→α→Prop}{S:Nat→Prop}{w:World}{b o n c:Nat}{l:List α}(h:Bl E S w (.slice (some ⟨b,o,none⟩) n c) l){k:Nat}(hk:k≤l.length):
  Bl E S w (.slice (some ⟨b,o+k,none⟩) (n-k) (c-k)) (l.drop k)∧(c=k→∀o',Bl E S w (.slice (some ⟨b,o',none⟩) (n-k) (c-k)) (l.drop k)):=by
 obtain⟨ao,c',e,h1,h2,h3,h4⟩:=h;simp only[C8]at e;obtain⟨rfl,rfl,rfl⟩:=e;refine⟨⟨_,_,by rw[Ct],by rw[Ct];omega,by omega,by simp,fun i x hx=>?_⟩,fun hc o'=>⟨_,_,by rw[Ct],by rw[Ct];omega,by omega,by simp,fun i x hx=>?_⟩⟩
 ·rw[Gj]at hx;obtain⟨b',o2,e1,e2,e3,u,e4,e5⟩:=h4 _ x hx;simp only[EN,IU,and_true]at e1;obtain⟨rfl,rfl⟩:=e1;exact⟨b,o+k,rfl,e2,e3,u,by rw[Nat.add_assoc];exact e4,e5⟩
 ·have hi:=(Ak.1 hx).1;rw[Ct]at hi;omega
def AIO (K0:List Nat):Option (List Nat)→Int
 |none=> -1
 |some K=>Bb K0 K
theorem inw {T:Tw}{ts:List Nat}{Z:List Nat→Prop}{B:Nat}{W W':World}{b:Nat}(h:MapOf T ts Z B W b)(hB:B≤b)(hk:AA (fun k=>B≤k∧k<W.heap.size) W W'):MapOf T ts Z 0 W' b:=by
 obtain⟨D,h1,h2,h4,h5⟩:=h;refine⟨D,Zb h1 (hk.block b ⟨hB,h1.lt⟩ h1.lt),h2,h4,fun kl hkl=>?_⟩;obtain⟨z,g,c,a1,a2,a3,ao,c',q1,q2,q3,q0,q4⟩:=h5 kl hkl;have h6:AL (fun k=>(B≤k∧k≠b)∧k<W.heap.size) W (.slice (some ⟨g,0,none⟩) z.length c) (ints z):=⟨ao,c',q1,q2,q3,q0,fun i x hx=>by obtain⟨b,o,p1,p2,p3,p4⟩:=q4 i x hx;exact⟨b,o,p1,⟨p2,p3⟩,p3,p4⟩⟩;exact⟨z,g,c,a1,a2,a3,(h6.keep (hk.mono fun k hk=>⟨hk.1.1,hk.2⟩)).mono fun k hk=>⟨AU _,hk.1.2⟩⟩
theorem ABY {T:Tw}{q:Nat}(h:∀L∈T,L.o=q):T.map (·.o)=List.replicate T.length q:=List.eq_replicate_iff.2 ⟨by simp,fun b hb=>by obtain⟨L,hL,rfl⟩:=CX.1 hb;exact h L hL⟩
theorem AED {S:Nat→Prop}{w:World}{bg:Nat}{T:Tw}(h:Cv S w bg T):Cv (fun k=>S k∧k<w.heap.size) w bg T:=by
 obtain⟨h1,h2,v,hc,hs⟩:=h;exact⟨⟨h1,h2⟩,h2,v,hc,aK.AV.Vy hs⟩
theorem ADx (T:Tw)(hT:Wf T)(D8:Small T)(De:AJ.Good T)(q:Nat)(hq:q=2∨q=3∨q=5∨q=7)(ho:∀L∈T,L.o=q)(hz:sz T≤27)(w:World)(b o:Nat)(hP:Cn Any w b o (AX T)):
  Calls Tryz.prog 36 #[.pointer (some ⟨b,o,none⟩)] w (qD T q w):=by
 obtain⟨k0,ki,kz0,kz1,kz2⟩:=CO AHn;obtain⟨n,hn⟩:∃n,T.length=n:=⟨_,rfl⟩;have M5:n≤6:=by rw[←hn];exact D8.1
 have HN:=hid hn;obtain⟨w0,hw0⟩:∃w0,w0=w.alloc (.cells #[.slice none 0 0,.slice none 0 0,.slice none 0 0] 28):=⟨_,rfl⟩;obtain⟨g0,hg0⟩:∃g0,w.heap.size=g0:=⟨_,rfl⟩;have hk0:AA Any w w0:=by rw[hw0];exact AB.alloc _
 have HB0:=hid (show Below w.heap.size w w0 by rw[hw0];exact AR.alloc AQ _);have HZ0:=hid (show w0.heap[g0]?=some (.cells #[.slice none 0 0,.slice none 0 0,.slice none 0 0] 28 (0,0)) by rw[hw0,←hg0];exact Av _ _);have Gv:=hid (show w0.heap.size=g0+1 by rw[hw0,←hg0];simp);have Cy:=hid (fun(W:World) (hb:Below w0.heap.size w0 W)=>(hP.keep hk0).keep (AA.of_below (S:=Any) hb));have Jn:=hid hg0;obtain⟨_,hbl,vO,vP,vC,p0,p1,p2,hv⟩:=Cy.out w0 AR;have hos:=hv.os;have AKh:(AX T).os.length=n:=by simp[AX,hn]
 obtain⟨aO,cO,e0,Bc,_⟩:=id hos;rw[AKh]at e0 Bc;subst e0;have X9:(AX T).os=ints (T.map (·.o)):=by simp[AX,ints]
 rw[X9]at hos;have Gw:=hid hos;clear hk0 hP hos hv hn;by_cases hn0:n=0
 ·subst hn0;obtain rfl:T=[]:=EY HN.out;have SQ:=hid (BL (x:=.slice none 0 0) (y:=.slice none 0 0) (z:=.slice none 0 0) HZ0.out);have DZ:=hid (show qD [] q w (.returned (.agg #[.slice none 0 0,.slice none 0 0,.slice none 0 0])) (((w0.setCell ⟨g0,0,none⟩ (.slice none 0 0)).setCell ⟨g0,1,none⟩ (.slice none 0 0)).setCell ⟨g0,2,none⟩ (.slice none 0 0)) from
   ⟨[],_,_,_,trivial,rfl,rfl,⟨⟨none,0,rfl,Ap _,AU _,fun _=>rfl,fun i x hx=>by simp[AX]at hx⟩,⟨none,0,rfl,Ap _,AU _,fun _=>rfl,fun i x hx=>by simp[AX,Hu]at hx⟩,⟨none,0,rfl,Ap _,AU _,fun _=>rfl,fun i x hx=>by simp[AX,Hw]at hx⟩⟩,
    ((HB0.out.setCell (p:=⟨g0,0,none⟩) (Nat.le_of_eq hg0) _).setCell (p:=⟨g0,1,none⟩) (Nat.le_of_eq hg0) _).setCell (p:=⟨g0,2,none⟩) (Nat.le_of_eq hg0) _⟩)
  obtain⟨⟨e0,e1,e2⟩,f0,f1,f2⟩:=AO HZ0.out;have nO:=(BX.1 HZ0.out).1;go_enter Tryz.func36,Tryz.ntmps36;go_upto_region 1 with fail;rw[←hw0];clear hw0;go_wp2_with fail;obtain⟨⟨z0,z1,z2⟩,-⟩:=AO SQ.out;exact Am (v:=.agg #[.slice none 0 0,.slice none 0 0,.slice none 0 0]) (by simp[results,Tryz.results36,go_sem,z0,z1,z2]) rfl DZ.out
 ·have hpos:0<n:=by omega
  obtain⟨L0,hL0⟩:∃L0,T[0]?=some L0:=⟨_,AP (by have:=HN.out;omega)⟩;have hLq:L0.o=q:=ho L0 (Ar hL0);obtain⟨bO,oO,rfl,-, Ch,hcx⟩:=AL.at Gw.out (j:=0) (q:=q) (by simp[hL0,hLq]);rw[P5]at hcx;have HTA:=hid (fun(W:World) (hb:Below w0.heap.size w0 W)=>yM T hT D8 De (by omega) W b o (Cy.out W hb));have hni:((n:Int)==0)=false:=JG.2 (by omega);go_enter Tryz.func36,Tryz.ntmps36;go_upto_region 1 with fail;rw[←hw0];clear hw0;go_upto_region 5 with(go_at_call 65;refine(HTA.out _ AR).mono ?_;rintro e w1 ⟨v1,rfl,ho1,hb1⟩;obtain⟨a1,c1,rfl,_,_⟩:=ho1.form;rw[ZA]at ho1 ⊢);obtain⟨bg,hbg⟩:∃bg,w1.heap.size=bg:=⟨_,rfl⟩;obtain⟨w2,hw2⟩:∃w2,w2=w1.alloc (.cells #[.slice a1 (sz T) c1] 103):=⟨_,rfl⟩;rw[←hw2];have hb2:Below w0.heap.size w0 w2:=by rw[hw2];exact G9 hb1 _
  have HG2:=hid (show Cv (fun k=>w0.heap.size≤k) w2 bg T from by
   have h1:w2.heap[bg]?=some (.cells #[.slice a1 (sz T) c1] 103 (0,0)):=by rw[hw2,←hbg];exact Av _ _
   refine⟨by rw[←hbg];exact hb1.size,(BX.1 h1).1,_,by rw[Aq _ _ _ _ _ (0,0) h1];rfl,?_⟩;rw[hw2];exact ho1.sl.keep (AB.alloc _))
  have HB2:=hid hb2;have p3:=Rs p0 hb2;have ACX:=Rs hcx hb2;have Mi:=Ad hbl hb2.size;clear ho1 hb1 hw2 hb2 p0 hcx p1 p2 hbl;rw[hbg];have Ip:=hid (fun(W:World) (hb:Below w0.heap.size w0 W)=>SfJ.TZ (T.map (·.o)) (.slice (some ⟨bO,oO,none⟩) n cO) W (Gw.out.keep (AA.of_below hb)) (by rw[Ce,HN.out];exact M5));have HW3:=hid (G9 HB2.out (.cells #[.slice none 0 0] 111));obtain⟨w3,hw3⟩:∃w3,w3=w2.alloc (.cells #[.slice none 0 0] 111):=⟨_,rfl⟩;obtain⟨g3,hg3⟩:∃g3,w2.heap.size=g3:=⟨_,rfl⟩;have HG3:=hid hg3;go_upto_region 7 with fail;rw[←hw3];have O8:Below w2.heap.size w2 w3:=by rw[hw3];exact G9 AR _
  have h3:w3.heap[g3]?=some (.cells #[.slice none 0 0] 111 (0,0)):=by rw[hw3,←hg3];exact Av _ _
  have hs3:w3.heap.size=g3+1:=by rw[hw3,←hg3];simp
  have p4:=Rs p3 O8;have AKi:=Ad Mi O8.size;rw[←hw3]at HW3;clear hw3 p3 Mi ACX;go_upto_region 8 with(go_at_call 69;refine(Ip.out w3 HW3.out).mono ?_;rintro e w4 ⟨aR,cR,Y4,Y5,us,us',rfl,OO,wP,GJ,hb4⟩;rw[Ce,HN.out]at wP GJ OO ⊢; obtain⟨gP,cP,Fh,rfl,I1,wQ,hnP,OQ,hsP⟩:=AAT wP hpos;obtain⟨gC,cC,Fj,rfl,wM,wR,hnC,OT,hsC⟩:=AAT GJ hpos);obtain⟨gb,hgb⟩:∃gb,w4.heap.size=gb:=⟨_,rfl⟩;obtain⟨w5,Ci⟩:∃w5,w5=w4.alloc (.cells #[.slice aR n cR,.slice (some ⟨gP,0,none⟩) n cP,.slice (some ⟨gC,0,none⟩) n cC] 28):=⟨_,rfl⟩;rw[←Ci,hgb];have Rx:Below w4.heap.size w4 w5:=by rw[Ci];exact G9 AR _
  have qF:=(BX.1 wQ).1;have qG:=(BX.1 wR).1;have Cb:=hid (show w5.heap[gb]?=some (.cells #[.slice aR n cR,.slice (some ⟨gP,0,none⟩) n cP,.slice (some ⟨gC,0,none⟩) n cC] 28 (0,0)) by rw[Ci,←hgb];exact Av _ _);have C9:=hid ((Rx.block gP qF).trans wQ);have Mq:=hid ((Rx.block gC qG).trans wR);have wV:¬gP=gC:=fun e=>by
   have h1:=C9.out;rw[e]at h1;have:=h1.symm.trans Mq.out;simp at this
  have EK:¬gb=gP:=by omega
  have JW:=hid (show w0.heap.size≤gP∧w0.heap.size≤gC by have h1:=HW3.out.size;omega);have hb0:¬gb=g0:=by have h1:=HW3.out.size;have h2:=hb4.size;have h3:=Gv.out;omega
  have ADa:g0<gb:=by have h1:=HW3.out.size;have h2:=hb4.size;have h3:=Gv.out;omega
  have QO:¬gP=g0:=by have h1:=HW3.out.size;have h3:=Gv.out;omega
  have hC0:¬gC=g0:=by have h1:=HW3.out.size;have h3:=Gv.out;omega
  have hbC:¬gb=gC:=by omega
  have OA:=hid (And.intro hnP (And.intro OQ (And.intro hsP (And.intro hnC (And.intro OT hsC)))));have AZ:=hid (show Below w0.heap.size w0 w5 from FC (FC HW3.out hb4) Rx);have ADb:Below w2.heap.size w2 w5:=FC (FC O8 hb4) Rx;have QW:=hid (fun(W:World) (hk:AA (fun k=>k≠gP∧k≠gC∧g0<k) w5 W)=>show Cv Any W bg T from
   Ox.Cv.mono ((AED HG2.out).keep ((AA.of_below ADb).trans (hk.mono fun k hk=>⟨by have:=hk.2;omega,by have:=hk.2;omega,by have:=hk.1;have:=Gv.out;omega⟩))) fun _ _=>trivial)
  have OP:=hid (show AL (fun k=>k≠gP∧k≠gC∧g0<k) w5 (.slice aR n cR) (ints (T.map (·.o))) from(OO.mono fun k hk=>⟨fun e=>hk.2.1 (by rw[e];rfl),fun e=>hk.2.2 (by rw[e];rfl),by have h1:=hk.1;have h2:=HW3.out.size;have h3:=Gv.out;omega⟩).keep (AA.of_below Rx));have H9:=hid (show AV (fun k=>k≠gP∧k≠gC∧g0<k) w5 (.slice (some ⟨g3,0,none⟩) 1 1) (([[]]:List (List Nat)).map ints) from by
   have h5:=((FC hb4 Rx).block g3 (by omega)).trans h3;refine⟨_,_,rfl,Ap _,by unfold maxLen;decide,by simp,fun i x hx=>?_⟩;have hi:i=0:=by have:=(Ak.1 hx).1;simp at this;exact this
   subst hi;obtain rfl:_=x:=by simpa using hx
   refine⟨g3,0,rfl,⟨by omega,by omega,by have h1:=HB2.out.size;have h2:=Gv.out;omega⟩,(BX.1 h5).1,.slice none 0 0,by rw[Aq _ _ _ _ _ (0,0) h5];rfl,?_⟩;exact⟨none,0,rfl,Ap _,AU _,fun _=>rfl,fun i x hx=>by simp[ints]at hx⟩)
  clear Ci Rx wQ wR I1 wM hnP OQ hsP hnC OT hsC wP GJ OO hb4 O8 h3 p4 AKi qF qG ADb hg3 hgb hbg;have AMZ:IntKind.i64.wrap ((n:Int)-1)=(n:Int)-1:=AY _ (by omega);have hpn:decide (0<n)=true:=by simp;omega
  go_wp2_with fail;go_loopw [6,8] (fun tv iv W=>∃(S:Tw) (tl:List (List Nat)) (l r:Nat) (at_':Option Addr) (ct:Nat),tv= .slice at_' l ct∧iv= .int .i64 ((r:Int)-1)∧r≤n∧Hid (r+S.length=n)∧Hid (tl.length=l∧l≤27^S.length)∧Hid (Std T q S)∧Hid (az T S tl)∧Hid (AV (fun k=>k≠gP∧k≠gC∧g0<k) W (.slice at_' l ct) (tl.map ints))∧
    Hid (∃Fh Fj,W.heap[gP]?=some (.cells Fh 24 (0,0))∧W.heap[gC]?=some (.cells Fj 25 (0,0))∧n≤cP∧cP≤maxLen∧Fh.size=cP∧n≤cC∧cC≤maxLen∧Fj.size=cC∧LZ (fun k=>k≠gP∧k≠gC∧g0<k) W Fh n S∧La (fun k=>k≠gP∧k≠gC∧g0<k) W Fj n S)∧Hid (AA (fun k=>k≠gP∧k≠gC∧g0<k) w5 W)∧Hid (Below w0.heap.size w0 W)) (fun _ iv _=>((intOf iv)+1).toNat)
  case atStart=>exact⟨[],[[]],1,n,_,_,rfl,rfl,Ap _,hid rfl,hid ⟨rfl,by simp⟩,hid trivial,hid AFK,H9,hid ⟨Fh,Fj,C9.out,Mq.out,OA.out.1,OA.out.2.1,OA.out.2.2.1,OA.out.2.2.2.1,OA.out.2.2.2.2.1,OA.out.2.2.2.2.2,fun j L hj=>by simp at hj,fun j L hj=>by simp at hj⟩,hid AB,AZ⟩
  case round=>
   obtain⟨S,tl,l,r,at',ct,rfl,rfl,hr,hrs,hll,hSt,wW,NJ,hOut,hK,hB⟩:=hrel;clear H9 C9 Mq AZ;by_cases hr0:r=0
   ·subst hr0;have hkn:S.length=n:=by have:=hrs.out;omega
    obtain⟨Fh,Fj,o1,o2,o3,o4,o5,o6,o7,o8,o9,Pm⟩:=hOut.out;have hz:=(hB.out.block g0 (by have:=Gv.out;omega)).trans HZ0.out;have AKj:=(BX.1 Cb.out).1;have hbx:=(hK.out.block gb ⟨EK,hbC,ADa⟩ AKj).trans Cb.out;have DZ:=hid (show qD T q w (.returned (.agg #[.slice aR n cR,.slice (some ⟨gP,0,none⟩) n cP,.slice (some ⟨gC,0,none⟩) n cC])) (((wr.setCell ⟨g0,0,none⟩ (.slice aR n cR)).setCell ⟨g0,1,none⟩ (.slice (some ⟨gP,0,none⟩) n cP)).setCell ⟨g0,2,none⟩ (.slice (some ⟨gC,0,none⟩) n cC)) from by
     have kW:AA (fun k=>k≠g0) wr (((wr.setCell ⟨g0,0,none⟩ (.slice aR n cR)).setCell ⟨g0,1,none⟩ (.slice (some ⟨gP,0,none⟩) n cP)).setCell ⟨g0,2,none⟩ (.slice (some ⟨gC,0,none⟩) n cC)):=(((AA.refl _ wr).setCell (by simp) _).setCell (by simp) _).setCell (by simp) _;have kE:=kW.mono (S':=fun k=>k≠gP∧k≠gC∧g0<k) fun k hk=>Nat.ne_of_gt hk.2.2;have hmap:S.map (·.o)=T.map (·.o):=by rw[ABY (hSt.out.good).2.2.1,ABY ho,hkn,HN.out]
     refine⟨S,_,_,_,hSt.out,by rw[hkn,HN.out],rfl,AHI hkn (fun k hk=>EG (by have h1:=Jn.out;have h2:=hk.2.2;omega)) (Ab HB0.out.size JW.out.1) (Ab HB0.out.size JW.out.2) ?_ ((kW.block gP QO (BX.1 o1).1).trans o1) ((kW.block gC hC0 (BX.1 o2).1).trans o2) o3 o6 o4 o7 (o9.keep kE) (Pm.keep kE),?_⟩
     ·rw[hmap];exact(OP.out.keep (hK.out.trans kE)).mono fun k hk=>EG (by have h1:=Jn.out;have h2:=hk.2.2;omega)
     ·have h1:=Jn.out;exact(((HB0.out.trans (hB.out.mono HB0.out.size)).setCell (p:=⟨g0,0,none⟩) (Nat.le_of_eq h1) _).setCell (p:=⟨g0,1,none⟩) (Nat.le_of_eq h1) _).setCell (p:=⟨g0,2,none⟩) (Nat.le_of_eq h1) _)
    obtain⟨⟨d0,d1,d2⟩,-⟩:=AO hbx;obtain⟨⟨e0,e1,e2⟩,f0,f1,f2⟩:=AO hz;have nO:=(BX.1 hz).1;have AIP:=(BX.1 hbx).1;have hm1:(((0:Nat):Int)-1)= -1:=by omega
    rw[hm1];obtain⟨⟨z0,z1,z2⟩,-⟩:=AO (BL (x:=.slice aR n cR) (y:=.slice (some ⟨gP,0,none⟩) n cP) (z:=.slice (some ⟨gC,0,none⟩) n cC) hz);clear hOut NJ wW hSt hll o1 o2 o3 o4 o5 o6 o7 o8 o9 Pm hz hbx;go_wp2_with fail;exact Am (v:=.agg #[.slice aR n cR,.slice (some ⟨gP,0,none⟩) n cP,.slice (some ⟨gC,0,none⟩) n cC]) (by simp[results,Tryz.results36,go_sem,z0,z1,z2]) rfl DZ.out
   ·obtain⟨r',rfl⟩:∃r',r=r'+1:=⟨r-1,by omega⟩;have Qe:(((r'+1:Nat):Int)-1)=(r':Int):=by omega
    rw[Qe];obtain⟨k,hk⟩:∃k,S.length=k:=⟨_,rfl⟩;have hkr:r'+1+k=n:=by rw[←hk];exact hrs.out
    have HK:=hid hk;have PN:=hid hSt.out.good;have ADc:l≤27^6:=Ab hll.out.2 (Tv (by omega) (by omega));have hl63:(l:Int)≤9223372036854775806:=by have:(27:Nat)^6=387420489:=(by decide);omega
    have AKk:=hid ADc;clear ADc hk;have hnil:decide ((r':Int)≥0)=true:=by simp
    go_wp2_with fail;go_loopw [9,10,51] (fun bv nv iv W=>∃(a:Nat) (best:Option (List Nat)) (next:List (List Nat)) (lb ln:Nat) (ab an:Option Addr) (cb cn:Nat),bv= .slice ab lb cb∧nv= .slice an ln cn∧iv= .int .i64 (a:Int)∧a≤l∧Hid (BN T q n k wr.heap.size W tl a 0 (.slice ab lb cb) (.slice an ln cn) best next)∧Hid (Below wr.heap.size wr W)) (fun _ _ iv _=>l-(intOf iv).toNat);case atStart=>exact⟨0,none,[],0,0,none,none,0,0,rfl,rfl,rfl,AU _,hid ⟨.inl ⟨rfl,rfl⟩,Own2.nil _ _ _ _,⟨rfl,fun t x f es hd=>by rcases hd with⟨j,hj,_⟩|⟨_,hx⟩<;>omega⟩,Ap _⟩,hid AR⟩
    case round=>
     obtain⟨a,best,next,lb,ln,ab,an,cb,cn,rfl,rfl,rfl,hal,hBN,hBW⟩:=hrel;rename World=>wa;by_cases hla:a<l
     ·have hd:decide ((a:Int)<(l:Int))=true:=by simp;omega
      have hd2:decide (a<l)=true:=by simp;omega
      obtain⟨t,ht⟩:∃t,tl[a]?=some t:=⟨_,AP (by rw[hll.out.1];exact hla)⟩;have jM:=hid ht;have jN:=(wW.out t).1 (Ar ht);have Qv:=hid jN;have htk:t.length=k:=by have:=jN.2.len;rw[Ce]at this;rw[this];exact HK.out
      obtain⟨bU,oU,u,e1,_,Lc,qH,MG⟩:=DC.Ej (AV.mono (S':=Any) NJ.out fun _ _=>trivial) (k:=a) (x:=ints t) (by rw[Em,ht];rfl);obtain rfl:at'=some ⟨bU,oU,none⟩:=by simpa using e1
      obtain⟨aT,cT,rfl,Yz⟩:=MG.open;rw[htk]at MG qH Yz;have hcc:=Rs qH hBW.out;have Ga:=hid htk;have VL:=hid (fun(W:World) (hb:Below wr.heap.size wr W)=>MG.keep (AA.of_below (S:=Any) hb));have Gd:=hid (fun(W:World) (hb:Below wr.heap.size wr W)=>hK.out.trans (AA.of_below (S:=fun k=>k≠gP∧k≠gC∧g0<k) hb));have HXP:=hid (show Calls Tryz.prog 70 #[.pointer (some ⟨bg,0,none⟩),.slice aT k cT,.int .i64 (q:Int)] wa (wC T t q wa) from ADv T hT De (by omega) wa bg (QW.out wa (Gd.out wa hBW.out)) t _ (VL.out wa hBW.out) jN.1 (by omega) q (by omega));clear ht jN MG htk e1 qH;go_upto_region 17 with(go_at_call 70;refine HXP.out.mono ?_;rintro e wy ⟨bx,rfl,hbx,hmx,hby⟩);have Uc:=hmx.lt;have HMX:=hid (fun(W:World) (hk:AA (fun k=>wa.heap.size≤k∧k<wy.heap.size) wy W)=>by have h:=inw hmx hbx hk;rwa[Ga.out]at h);have Yr:=hid (FC hBW.out hby);have HAY:=hid hby;have ADd:=hid (hBN.out.below hby);have ADe:=hid (show∀k,(Value.slice an ln cn).ownBlock=some k→k<wa.heap.size∨wy.heap.size≤k from fun k hk=>by
       obtain⟨us,h1,_⟩:=hBN.out.o;have e1:next.length=ln:=by have:=(hBN.out.o.form);obtain⟨_,_,e,_⟩:=this;simp at e;exact e.2.1.symm
       exact .inl (BH h1 k hk).2)
      obtain⟨gt,ot,ct3,AMa,AMb,hc3,-⟩:=(QW.out wy (Gd.out wy Yr.out)).open (F8 hT);have AK5:(sz T:Int)≤27:=by omega
      clear hmx hby hBN hbx hcc;go_wp2_with fail;go_loopw [9,10,64] (fun bv nv xv W=>∃(x:Nat) (best:Option (List Nat)) (next:List (List Nat)) (lb ln:Nat) (ab an:Option Addr) (cb cn:Nat),bv= .slice ab lb cb∧nv= .slice an ln cn∧xv= .int .i64 (x:Int)∧x≤sz T∧Hid (BN T q n k wr.heap.size W tl a x (.slice ab lb cb) (.slice an ln cn) best next)∧Hid (Below wr.heap.size wr W)∧Hid (AA (fun k=>wa.heap.size≤k∧k<wy.heap.size) wy W)∧Hid (∀k,(Value.slice an ln cn).ownBlock=some k→k<wa.heap.size∨wy.heap.size≤k)) (fun _ _ xv _=>sz T-(intOf xv).toNat);case atStart=>exact⟨0,best,next,lb,ln,ab,an,cb,cn,rfl,rfl,rfl,AU _,ADd,Yr,hid AB,ADe⟩
      case round=>
       clear ADd ADe;obtain⟨x,best,next,lb,ln,ab,an,cb,cn,rfl,rfl,rfl,hxl,hBN,hBx,hKx,Y7⟩:=hrel;rename World=>wb;by_cases hxs:x<sz T
       ·have hdx:decide ((x:Int)<(sz T:Int))=true:=by simp;omega
        have AMc:decide (x<sz T)=true:=by simp;omega
        have HSG:=hid (show Calls Tryz.prog 71 #[.pointer (some ⟨bg,0,none⟩),.slice aT k cT,.map (some bx),.int .i64 (x:Int),.int .i64 (q:Int),.int .i64 (n:Int)] wb (Ru T t q x n wb) from
         AEB T hT De (by omega) wb bg (QW.out wb (Gd.out wb hBx.out)) t _ (VL.out wb hBx.out) Qv.out.1 q (by omega) bx (by rw[Ga.out];exact HMX.out wb hKx.out) x n hxs M5 (by rw[Ga.out];omega))
        go_upto_region 21 with(go_at_call 71;refine HSG.out.mono ?_;rintro e w6 hseg;obtain⟨a6,l6,c6,ok,rfl,hb6,wX,qI⟩:=AGD hseg);have AKl:=FC hBx.out hb6;have Ao:=hid AKl;have Qt:=hid (hKx.out.trans (AA.of_below (S:=fun k=>wa.heap.size≤k∧k<wy.heap.size) hb6));have Ib:=hid (hBN.out.below hb6);have NB:(x:Int)≤27:=by omega
        cases ok with
        |false=>
         have E9:=hid (show BN T q n k wr.heap.size w6 tl a (x+1) (.slice ab lb cb) (.slice an ln cn) best next from⟨Ib.out.v,Ib.out.o,(Ib.out.b.skip (t0:=t) (x0:=x) (qI rfl)).same fun t' x' f es hs=>Zf jM.out t' x',by have:=Ib.out.l;omega⟩);clear hBN hBx hKx wX qI hb6 hseg;go_wp2_with fail;go_roundw;case rel=>exact⟨x+1,best,next,lb,ln,ab,an,cb,cn,rfl,rfl,by go_num,by omega,E9,Ao,Qt,Y7⟩
         case measure=>simp[intOf];omega
        |true=>
         obtain⟨g6,f,es,rfl,hsp,Al⟩:=wX rfl;obtain⟨K0,Pg⟩:∃K0,kk n k f es=K0:=⟨_,rfl⟩;have htk:=Ga.out;rw[htk]at Al;have dx:Own wb.heap.size w6 (.slice (some ⟨g6,0,none⟩) l6 c6) (ints K0):=by rw[←Pg];exact Al
         have Es:l6=K0.length:=by
          obtain⟨_,_,e,_⟩:=dx.sl;simp only[C8,A7]at e;exact e.2.1
         subst Es;have Fx:0<K0.length:=by
          rw[←Pg];show 0<((f::es).flatMap (pad (n-k))).length;rw[KS,Cm,BZ];omega
         have Ac:=hid (dx.sl.mono (S':=Any) fun _ _=>trivial);have HU:=hid (fun f' es' (h:E8 T t q x f' es')=>show kk n k f' es'=kk n k f es by obtain⟨rfl,rfl⟩:=AHH hT De PN.out.2.2.1 Qv.out.2 hxs h hsp;rfl);have Gt:=hid hsp;have HKK:=hid Pg;have QY:=hid (show BV wr.heap.size w6 (.slice (some ⟨g6,0,none⟩) K0.length c6) (some K0) from .inr ⟨K0,g6,c6,rfl,rfl,by have h:=EX (B':=wr.heap.size) dx hBx.out.size;simpa[A7]using h,Fx⟩);obtain⟨ord,ADf⟩:∃ord:Int,ord=AIO K0 best:=⟨_,rfl⟩;have J4:=hid ADf;have hneq:=fun(W:World) (a:Option Addr) (n c n' c':Nat)=>run_neq_slice_nil_any (P:=Tryz.prog) W 24 2 a n c n' c' Tryz.underlying24;clear hBN hBx hKx wX qI hb6 hseg Al dx hsp Pg ADf htk;go_upto_if 80 with fail;go_cut [17] (fun v W=>v= .int .i64 ord∧W=w6);case first=>
          rcases Ib.out.v with⟨rfl,e⟩|⟨K,gB,cB,rfl,e,ADg,hKp⟩
          ·obtain⟨rfl,rfl,rfl⟩:ab=none∧lb=0∧cb=0:=by simpa using e
           go_wp2_with fail;go_meet;exact⟨by rw[J4.out];rfl,rfl⟩
          ·obtain⟨rfl,rfl,rfl⟩:ab=some ⟨gB,0,none⟩∧lb=K.length∧cb=cB:=by simpa using e
           have VH:=hid (show AL Any w6 (.slice (some ⟨gB,0,none⟩) K.length cb) (ints K) from(Own.sl (B:=wr.heap.size) (by unfold Own;rw[A7];exact ADg)).mono fun _ _=>trivial);have ho1:Bb K0 K=ord:=J4.out.symm;clear ADg e;go_wp2_with (go_at_call 72;refine(ADy w6 _ _ K0 K Ac.out VH.out).mono ?_;rintro e w7 ⟨rfl,rfl⟩;rw[ho1]);go_meet;exact⟨rfl,rfl⟩
         case rest=>
          obtain⟨rfl,rfl⟩:=hcut;rename World=>w6;have ADh:next.length=ln:=by obtain⟨_,_,e,_⟩:=Ib.out.o.form;simp only[C8]at e;exact e.2.1.symm
          have Cj:=hid ADh;have AKm:=hid (show ln≤10460353203 by
           have h1:=Ib.out.l;have h2:=AKk.out;have h3:(27:Nat)^6=387420489:=by decide
           omega)
          clear ADh;have hval:ord= -1∨ord=0∨ord=1:=by
           rw[J4.out];cases best with
           |none=>exact .inl rfl
           |some K=>exact zf K0 K
          rcases hval with ho1|ho1|ho1
          ·have Pf:=hid (Ib.out.b.fresh Gt.out HU.out (fun K hK=>by
            have h1:=J4.out;rw[hK]at h1;have h2:ord=Bb K0 K:=h1;rw[HKK.out,←h2,ho1];decide))
           rw[HKK.out]at Pf;subst ho1;have S9:=hid (show(0:Nat)≤10460353203 from AU _);have ADi:=hid (show∀j,(Value.slice none 0 0).ownBlock=some j→j<wa.heap.size∨wy.heap.size≤j from fun j hj=>by simp[Value.ownBlock]at hj);obtain⟨us,n1,n2,n4⟩:=Own2.nil 111 3 wr.heap.size w6;have hnl:(([]:List (List Nat))).length=0:=by first|rfl|exact Cj.out
           rw[hnl]at n1;have hl1:(w6.alloc (.cells #[.int .i64 (x:Int)] 3)).ownsRow wr.heap.size 3 1 (.slice (some ⟨w6.heap.size,0,none⟩) 1 1) 1 [.int .i64 (x:Int)]:=KT (base:=wr.heap.size) (e:=3) (size:=1) w6 #[.int .i64 (x:Int)] 1 Ao.out.size (by unfold maxLen;omega) rfl;obtain⟨g8,c8,w8,Wj,Cx,Jo⟩:=yV (w6.alloc (.cells #[.int .i64 (x:Int)] 3)) wr.heap.size w6.heap.size k cT x aT t hl1 (VL.out _ (G9 Ao.out _)) Ga.out (by omega) (by have:=Ao.out.size;simp;omega);have Ry:Below w6.heap.size w6 w8:=Qu (G9 AR _) Jo (fun j hj=>by injection hj with hj;omega);have Rz:Below w6.heap.size w6 (w8.alloc (.cells #[.slice (some ⟨g8,0,none⟩) (k+1) c8] 111)):=G9 Ry _;have a1:=BM n1 (S:=Any) (AA.of_below Rz) (fun _ _=>trivial);have HA1:=hid a1;have Ji:=hid Rz;have XZ:=hid (show CL 3 wr.heap.size (w8.alloc (.cells #[.slice (some ⟨g8,0,none⟩) (k+1) c8] 111)) (.slice (some ⟨g8,0,none⟩) (k+1) c8) (x::t) from⟨⟨g8,c8,by rw[Eb,Ga.out]⟩,by rw[Eb,Ga.out];exact Cx.alloc _⟩);have Gz:=hid (And.intro n2 n4);have qJ:wr.heap.size≤w8.heap.size:=Ab Ao.out.size Ry.size;have Xa:0≤10460353203:=S9.out;have TK:=hid Xa;clear n1 n2 n4 hl1 Cx Jo Ry Rz Xa;go_wp2_with (first|(at_builtin;refine Lib.wpList_append_run _ rfl _ _ _ _ rfl _ _ rfl rfl _ _ (Wj _) ?_)|(at_builtin;(refine Hg _ rfl _ _ 109 rfl wr.heap.size 111 k0 (.slice none 0 0) 1 24 Tryz.underlying109 ki kz0 kz1 kz2 rfl (by decide) _ _ _ rfl a1 ⟨w8.heap.size,0,none⟩ 1 1 [.slice (some ⟨g8,0,none⟩) (k+1) c8] rfl rfl (Ea (cs:= #[.slice (some ⟨g8,0,none⟩) (k+1) c8]) (t:=111) (fr:=(0,0)) (Av w8 _)) (by simp[Value.oneCell']) (by decide) (by have:=TK.out;unfold maxLen;omega) (by have:=TK.out;omega) (by simp;omega) _ rfl ?_)));intro g9 c9 w9 MH Gx Xb qK;have MB:=hid (show Below wr.heap.size wr w9 from(FC Ao.out Ji.out).grown Gx (FC Ao.out Ji.out).size (fun j hj=>(BH HA1.out j hj).1));have Yi:=hid ((Qt.out.trans (AA.of_below (S:=fun k=>wa.heap.size≤k∧k<wy.heap.size) Ji.out)).trans (AA.grown (S:=fun k=>wa.heap.size≤k∧k<wy.heap.size) Gx fun j hj e=>by have:=ADi.out j e.symm;omega));have qL:=hid (show∀j,(Value.slice (some ⟨g9,0,none⟩) (0+1) c9).ownBlock=some j→j<wa.heap.size∨wy.heap.size≤j from fun j hj=>by
            obtain rfl:g9=j:=by simpa[Value.ownBlock]using hj
            rcases Xb with h|h
            ·exact ADi.out _ h
            ·exact .inr (by rw[h];exact Ab Qt.out.size (Ab Ji.out.size (by simp))))
           have qM:=hid (show BN T q n k wr.heap.size w9 tl a (x+1) (.slice (some ⟨g6,0,none⟩) K0.length c6) (.slice (some ⟨g9,0,none⟩) (0+1) c9) (some K0) (([]:List (List Nat))++[x::t]) from⟨BV.step QY.out Ji.out HA1.out Gx,Own2.push (by decide) hnl HA1.out Gz.out.1 (fun i r u h1 h2=>(Gz.out.2 i r u h1 h2).keep (AA.of_below (S:=Any) Ji.out) fun _ _=>trivial) XZ.out MH Gx,Pf.out.same fun t' x' f es hs=>Zf jM.out t' x',by have:=Ib.out.l;simp;omega⟩);clear MH Gx Xb qK a1 HA1 Ji XZ Gz qJ TK Wj;go_wp2_with fail;go_roundw;case rel=>exact⟨x+1,(some K0),([]:List (List Nat))++[x::t],_,_,_,_,_,_,rfl,rfl,by go_num,by omega,qM,MB,Yi,qL⟩
           case measure=>simp[intOf];omega
          ·cases best with
           |none=>exact absurd (J4.out.symm.trans ho1) (by show¬(-1:Int)=0;decide)
           |some K=>
            have hKe:kk n k f es=K:=by
             have h1:ord=Bb K0 K:=J4.out;rw[HKK.out];exact AFF (by rw[←h1,ho1])
            have Pf:=hid (Ib.out.b.again Gt.out HU.out hKe);subst ho1;have S9:=AKm;clear hKe;obtain⟨us,n1,n2,n4⟩:=Ib.out.o;have hnl:(next).length=ln:=by first|rfl|exact Cj.out
            rw[hnl]at n1;have hl1:(w6.alloc (.cells #[.int .i64 (x:Int)] 3)).ownsRow wr.heap.size 3 1 (.slice (some ⟨w6.heap.size,0,none⟩) 1 1) 1 [.int .i64 (x:Int)]:=KT (base:=wr.heap.size) (e:=3) (size:=1) w6 #[.int .i64 (x:Int)] 1 Ao.out.size (by unfold maxLen;omega) rfl;obtain⟨g8,c8,w8,Wj,Cx,Jo⟩:=yV (w6.alloc (.cells #[.int .i64 (x:Int)] 3)) wr.heap.size w6.heap.size k cT x aT t hl1 (VL.out _ (G9 Ao.out _)) Ga.out (by omega) (by have:=Ao.out.size;simp;omega);have Ry:Below w6.heap.size w6 w8:=Qu (G9 AR _) Jo (fun j hj=>by injection hj with hj;omega);have Rz:Below w6.heap.size w6 (w8.alloc (.cells #[.slice (some ⟨g8,0,none⟩) (k+1) c8] 111)):=G9 Ry _;have a1:=BM n1 (S:=Any) (AA.of_below Rz) (fun _ _=>trivial);have HA1:=hid a1;have Ji:=hid Rz;have XZ:=hid (show CL 3 wr.heap.size (w8.alloc (.cells #[.slice (some ⟨g8,0,none⟩) (k+1) c8] 111)) (.slice (some ⟨g8,0,none⟩) (k+1) c8) (x::t) from⟨⟨g8,c8,by rw[Eb,Ga.out]⟩,by rw[Eb,Ga.out];exact Cx.alloc _⟩);have Gz:=hid (And.intro n2 n4);have qJ:wr.heap.size≤w8.heap.size:=Ab Ao.out.size Ry.size;have Xa:ln≤10460353203:=S9.out;have TK:=hid Xa;clear n1 n2 n4 hl1 Cx Jo Ry Rz Xa;go_wp2_with (first|(at_builtin;refine Lib.wpList_append_run _ rfl _ _ _ _ rfl _ _ rfl rfl _ _ (Wj _) ?_)|(at_builtin;(refine Hg _ rfl _ _ 109 rfl wr.heap.size 111 k0 (.slice none 0 0) 1 24 Tryz.underlying109 ki kz0 kz1 kz2 rfl (by decide) _ _ _ rfl a1 ⟨w8.heap.size,0,none⟩ 1 1 [.slice (some ⟨g8,0,none⟩) (k+1) c8] rfl rfl (Ea (cs:= #[.slice (some ⟨g8,0,none⟩) (k+1) c8]) (t:=111) (fr:=(0,0)) (Av w8 _)) (by simp[Value.oneCell']) (by decide) (by have:=TK.out;unfold maxLen;omega) (by have:=TK.out;omega) (by simp;omega) _ rfl ?_)));intro g9 c9 w9 MH Gx Xb qK;have MB:=hid (show Below wr.heap.size wr w9 from(FC Ao.out Ji.out).grown Gx (FC Ao.out Ji.out).size (fun j hj=>(BH HA1.out j hj).1));have Yi:=hid ((Qt.out.trans (AA.of_below (S:=fun k=>wa.heap.size≤k∧k<wy.heap.size) Ji.out)).trans (AA.grown (S:=fun k=>wa.heap.size≤k∧k<wy.heap.size) Gx fun j hj e=>by have:=Y7.out j e.symm;omega));have qL:=hid (show∀j,(Value.slice (some ⟨g9,0,none⟩) (ln+1) c9).ownBlock=some j→j<wa.heap.size∨wy.heap.size≤j from fun j hj=>by
             obtain rfl:g9=j:=by simpa[Value.ownBlock]using hj
             rcases Xb with h|h
             ·exact Y7.out _ h
             ·exact .inr (by rw[h];exact Ab Qt.out.size (Ab Ji.out.size (by simp))))
            have qM:=hid (show BN T q n k wr.heap.size w9 tl a (x+1) (.slice ab lb cb) (.slice (some ⟨g9,0,none⟩) (ln+1) c9) (some K) (next++[x::t]) from⟨BV.step Ib.out.v Ji.out HA1.out Gx,Own2.push (by decide) hnl HA1.out Gz.out.1 (fun i r u h1 h2=>(Gz.out.2 i r u h1 h2).keep (AA.of_below (S:=Any) Ji.out) fun _ _=>trivial) XZ.out MH Gx,Pf.out.same fun t' x' f es hs=>Zf jM.out t' x',by have:=Ib.out.l;simp;omega⟩);clear MH Gx Xb qK a1 HA1 Ji XZ Gz qJ TK Wj;go_wp2_with fail;go_roundw;case rel=>exact⟨x+1,(some K),next++[x::t],_,_,_,_,_,_,rfl,rfl,by go_num,by omega,qM,MB,Yi,qL⟩
            case measure=>simp[intOf];omega
          ·cases best with
           |none=>exact absurd (J4.out.symm.trans ho1) (by show¬(-1:Int)=1;decide)
           |some K=>
            have Pf:=hid (Ib.out.b.AIK Gt.out HU.out (by
             have h1:ord=Bb K0 K:=J4.out;rw[HKK.out,←h1,ho1];decide))
            subst ho1;have E9:=hid (show BN T q n k wr.heap.size w6 tl a (x+1) (.slice ab lb cb) (.slice an ln cn) (some K) next from⟨Ib.out.v,Ib.out.o,Pf.out.same fun t' x' f es hs=>Zf jM.out t' x',by have:=Ib.out.l;omega⟩);go_wp2_with fail;go_roundw;case rel=>exact⟨x+1,some K,next,lb,ln,ab,an,cb,cn,rfl,rfl,by go_num,by omega,E9,Ao,Qt,Y7⟩
            case measure=>simp[intOf];omega
       ·obtain rfl:x=sz T:=by omega
        have hdx:decide ((sz T:Int)<(sz T:Int))=false:=by simp
        have E9:=hid (show BN T q n k wr.heap.size wb tl (a+1) 0 (.slice ab lb cb) (.slice an ln cn) best next from⟨hBN.out.v,hBN.out.o,hBN.out.b.same fun t' x' f es hs=>⟨fun hd=>by
         rcases hd with⟨j,hj,h1,h2⟩|⟨h1,h2⟩
         ·exact .inl ⟨j,by omega,h1,h2⟩
         ·exact .inl ⟨a,by omega,h1,h2⟩,fun hd=>by
         rcases hd with⟨j,hj,h1,h2⟩|⟨h1,h2⟩
         ·by_cases e:j=a
          ·subst e;exact .inr ⟨h1,h2⟩
          ·exact .inl ⟨j,by omega,h1,h2⟩
         ·omega⟩,by have:=hBN.out.l;omega⟩)
        clear hBN hKx Y7;go_wp2_with fail;go_roundw;case rel=>exact⟨a+1,best,next,lb,ln,ab,an,cb,cn,rfl,rfl,by go_num,by omega,E9,hBx⟩
        case measure=>simp[intOf];omega
     ·obtain rfl:a=l:=by omega
      have hd:decide ((a:Int)<(a:Int))=false:=by simp
      have mR:=hBN.out.b.same (D':=fun t' x'=>t'∈tl∧x'<sz T) (fun t' x' f es hs=>⟨fun hd=>by
       rcases hd with⟨j,hj,h1,h2⟩|⟨h1,h2⟩
       ·exact⟨Ar h1,h2⟩
       ·omega,fun hd=>by
       obtain⟨j,hj⟩:=IP hd.1;exact .inl ⟨j,by have:=(Ak.1 hj).1;have:=hll.out.1;omega,hj,hd.2⟩⟩)
      have Ky:=HK.out;rw[←Ky]at mR;obtain⟨L,rfl,qN,ADj⟩:=stage hT De hq ho HN.out hSt.out (by omega) wW.out mR;obtain⟨K,gB,cB,e1,e2,hoB,hKp⟩:∃K g c,some (kk n S.length L.w L.c)=some K∧Value.slice ab lb cb= .slice (some ⟨g,0,none⟩) K.length c∧wa.ownsRow wr.heap.size 2 1 (.slice ab lb cb) K.length (vals (ints K))∧0<K.length:=by
       rcases hBN.out.v with⟨h,_⟩|h
       ·simp at h
       ·exact h
      obtain⟨rfl,rfl,rfl⟩:ab=some ⟨gB,0,none⟩∧lb=K.length∧cb=cB:=by simpa using e2
      have hwf:Wf (L::S):=qN.2.2.1;have dz:=hid qN;have ADk:=hid ADj;have hrl:∀r∈(L.w::L.c).map (pad (n-k)),r.length=n:=fun r hr=>by
       obtain⟨z,hz,rfl⟩:=CX.1 hr;rw[BZ,ZR hwf z hz,Ky];omega
      have ABZ:K=((L.w::L.c).map (pad (n-k))).flatten:=by
       have h1:kk n S.length L.w L.c=K:=by simpa using e1
       rw[←h1,Ky];rfl
      have hrm:((L.w::L.c).map (pad (n-k))).length=k+1:=by rw[Ce,Eb,hwf.2.2.1,Ky]
      have AKn:=hid (jq wa gB 0 K.length cb n (k+1) ((L.w::L.c).map (pad (n-k))) (by rw[←ABZ];exact(Own.sl (B:=wr.heap.size) (by unfold Own;rw[A7];exact hoB)).mono fun _ _=>trivial) hrl hrm hpos (by omega) (by omega));have hnl:next.length=ln:=by obtain⟨_,_,e,_⟩:=hBN.out.o.form;simp only[C8]at e;exact e.2.1.symm
      have eB:=hid (show next.length=ln∧ln≤27^(k+1) from⟨hnl,by
       have h1:=hBN.out.l;have h2:=hll.out.2;rw[Ky]at h2;rw[LC];omega⟩)
      have HOWN:=hid hBN.out.o;have hkn:S.length+1≤n:=by omega
      clear mR e1 e2 hoB hKp hwf qN ADj hrl ABZ hnl hBN;go_upto_region 33 with(go_at_call 73;refine AKn.out.mono ?_;rintro e ws ⟨vs,rfl,hos,hbs⟩);have AIQ:((L.w::L.c).map (pad (n-k)))[0]?=some (pad (n-k) L.w):=rfl;obtain⟨gs,cs,u0,he,hgs,AMd,AKo,hr0⟩:=hos.at AIQ;rw[hrm]at he;subst he;have G5:=hid hr0;obtain⟨⟨JX,c00,rfl⟩,-⟩:=hr0;have qQ:(pad (n-k) L.w).length=n:=by rw[BZ,ZR dz.out.2.2.1 _ CE,Ky];omega
      rw[qQ]at AKo;have hcs1:k+1≤cs:=by obtain⟨_,_,e,h1,_⟩:=hos.sl;simp only[C8,Ce]at e;obtain⟨_,_,rfl⟩:=e;simp only[Ce,Eb]at h1;have:=Ky;have h5:=(dz.out.2.2.1).2.2.1;omega
      have hB3:Below wr.heap.size wr ws:=FC hBW.out hbs;have kE:AA (fun k=>k≠gP∧k≠gC∧g0<k) wr ws:=AA.of_below hB3;obtain⟨Fh,Fj,o1,o2,o3,o4,o5,o6,o7,o8,o9,Pm⟩:=hOut.out;have q1:=(hB3.block gP (BX.1 o1).1).trans o1;have q2:=(hB3.block gC (BX.1 o2).1).trans o2;have hbx:=((hK.out.trans kE).block gb ⟨EK,hbC,ADa⟩ (BX.1 Cb.out).1).trans Cb.out;obtain⟨⟨d0,d1,d2⟩,-⟩:=AO hbx;have AIP:=(BX.1 hbx).1;have qF:=(BX.1 q1).1;have qG:=(BX.1 q2).1;have fP:=BP ws gP r' Fh _ q1;have fC:=BP ws gC r' Fj _ q2;obtain⟨uP,EA⟩:∃uP,Fh[r']?=some uP:=⟨_,Array.getElem?_eq_getElem (by omega)⟩;obtain⟨uC,U8⟩:∃uC,Fj[r']?=some uC:=⟨_,Array.getElem?_eq_getElem (by omega)⟩;have cP1:ws.cell? ⟨gP,r',none⟩=some uP:=by rw[Aq _ _ _ _ _ (0,0) q1];simpa using EA
      have cC1:ws.cell? ⟨gC,r',none⟩=some uC:=by rw[Aq _ _ _ _ _ (0,0) q2];simpa using U8
      have AMe:¬gs=gP:=fun e=>by have h1:=(BX.1 o1).1;have h2:=hBW.out.size;omega
      have AMf:¬gs=gC:=fun e=>by have h1:=(BX.1 o2).1;have h2:=hBW.out.size;omega
      have ADl:¬gC=gP:=fun e=>wV e.symm;have AMg:(r':Int)<(n:Int):=by omega
      have AMh:(0:Int)<((k+1:Nat):Int):=by omega
      have AKp:=hid hos;have AKq:=hid hbs;have jO:=hid (show gP<wr.heap.size∧gC<wr.heap.size from⟨(BX.1 o1).1,(BX.1 o2).1⟩);have HB3:=hid hB3;have PK:=hid kE;have HQ:=hid (And.intro q1 q2);have HO:=hid (And.intro o3 (And.intro o4 (And.intro o5 (And.intro o6 (And.intro o7 (And.intro o8 (And.intro o9 Pm)))))));clear hos hB3 kE q1 q2 hbx o1 o2 o3 o4 o5 o6 o7 o8 o9 Pm EA U8 hbs;have HAS:=hid AKq.out;have hRd:(((L.w::L.c).map (pad (n-k))).map ints).drop 1=(L.c.map (pad (n-k))).map ints:=rfl;have HDR:=hid (AEC AKp.out.sl (k:=1) (by simp));rw[hRd]at HDR;go_region_law (fail);all_goals
       go_upto_region 34 with fail;by_cases hc1:cs=1
       ·subst hc1;have hk0:k=0:=by omega
        go_region_law (fail);all_goals
         have Kz:=hid (show AA (fun k=>k≠gP∧k≠gC∧g0<k) ws ((ws.setCell ⟨gP,r',none⟩ (.slice (some ⟨JX,0,none⟩) n c00)).setCell ⟨gC,r',none⟩ (.slice (some ⟨gs,0,none⟩) 0 0)).drew.drew from((((AA.refl _ ws).setCell (p:=⟨gP,r',none⟩) (by simp) _).setCell (p:=⟨gC,r',none⟩) (by simp) _).drew).drew);have FU:=hid (fun(j:Nat) (hj:wa.heap.size≤j)=>show j≠gP∧j≠gC∧g0<j from by
          have h1:=hBW.out.size;have h2:=hK.out.size;have h3:=jO.out;have h4:=JW.out;have h5:=Gv.out;exact⟨by omega,by omega,by omega⟩)
         have Ay:=hid (show AV (fun k=>k≠gP∧k≠gC∧g0<k) ((ws.setCell ⟨gP,r',none⟩ (.slice (some ⟨JX,0,none⟩) n c00)).setCell ⟨gC,r',none⟩ (.slice (some ⟨gs,0,none⟩) 0 0)).drew.drew (.slice an ln cn) (next.map ints) from
          AV.keep (AV.mono (AV.keep HOWN.out.sl ((AA.of_below HAS.out))) fun j hj=>by
           have h2:=hK.out.size;have h3:=jO.out;have h4:=JW.out;have h5:=Gv.out;have h6:wr.heap.size≤j:=hj;exact⟨by omega,by omega,by omega⟩) Kz.out)
         have qR:=hid (show∃Fh Fj,((ws.setCell ⟨gP,r',none⟩ (.slice (some ⟨JX,0,none⟩) n c00)).setCell ⟨gC,r',none⟩ (.slice (some ⟨gs,0,none⟩) 0 0)).drew.drew.heap[gP]?=some (.cells Fh 24 (0,0))∧((ws.setCell ⟨gP,r',none⟩ (.slice (some ⟨JX,0,none⟩) n c00)).setCell ⟨gC,r',none⟩ (.slice (some ⟨gs,0,none⟩) 0 0)).drew.drew.heap[gC]?=some (.cells Fj 25 (0,0))∧n≤cP∧cP≤maxLen∧Fh.size=cP∧n≤cC∧cC≤maxLen∧Fj.size=cC∧LZ (fun k=>k≠gP∧k≠gC∧g0<k) ((ws.setCell ⟨gP,r',none⟩ (.slice (some ⟨JX,0,none⟩) n c00)).setCell ⟨gC,r',none⟩ (.slice (some ⟨gs,0,none⟩) 0 0)).drew.drew Fh n (L::S)∧La (fun k=>k≠gP∧k≠gC∧g0<k) ((ws.setCell ⟨gP,r',none⟩ (.slice (some ⟨JX,0,none⟩) n c00)).setCell ⟨gC,r',none⟩ (.slice (some ⟨gs,0,none⟩) 0 0)).drew.drew Fj n (L::S) from by
          obtain⟨o3,o4,o5,o6,o7,o8,o9,Pm⟩:=HO.out;refine⟨Fh.setIfInBounds r' (.slice (some ⟨JX,0,none⟩) n c00),Fj.setIfInBounds r' (.slice (some ⟨gs,0,none⟩) 0 0),?_,?_,o3,o4,by simpa using o5,o6,o7,by simpa using o8,?_,?_⟩
          ·exact(DT _ ⟨gC,r',none⟩ _ _ (by exact wV)).trans (Ho ws gP r' _ _ _ HQ.out.1)
          ·exact Ho _ gC r' _ _ _ ((DT _ ⟨gP,r',none⟩ _ _ (by exact ADl)).trans HQ.out.2)
          ·refine LZ.put (o9.keep (PK.out.trans Kz.out)) (by omega) (by omega) ?_;have h:=(G5.out.sl.mono fun j hj=>FU.out j hj).keep Kz.out;rw[qQ]at h;rw[Ky];exact h
          ·refine La.put (Pm.keep (PK.out.trans Kz.out)) (by omega) (by omega) ?_;rw[Ky];exact AV.keep (AV.mono (by have h:=HDR.out.2 rfl 0;rwa[show k+1-1=0 by omega]at h) fun j hj=>FU.out j hj) Kz.out)
         have E9:=hid (show Below w0.heap.size w0 ((ws.setCell ⟨gP,r',none⟩ (.slice (some ⟨JX,0,none⟩) n c00)).setCell ⟨gC,r',none⟩ (.slice (some ⟨gs,0,none⟩) 0 0)).drew.drew from((((hB.out.trans (HB3.out.mono hB.out.size)).setCell (p:=⟨gP,r',none⟩) JW.out.1 _).setCell (p:=⟨gC,r',none⟩) JW.out.2 _).drew).drew);have wY:=hid ((hK.out.trans PK.out).trans Kz.out);have hwi:IntKind.i64.wrap ((r':Int)-1)=(r':Int)-1:=AY _ (by omega);go_wp2_with fail;go_roundw;case rel=>exact⟨L::S,next,ln,r',an,cn,rfl,rfl,by omega,hid (by rw[Eb];omega),hid ⟨eB.out.1,by rw[Eb,Ky];exact eB.out.2⟩,dz,ADk,Ay,qR,wY,E9⟩
         case measure=>simp[intOf]
       ·have hcs2:1<cs:=by omega
        have AMi:(1:Int)≤(k:Int)+1:=by omega
        go_region_law (fail);all_goals
         have Kz:=hid (show AA (fun k=>k≠gP∧k≠gC∧g0<k) ws ((ws.setCell ⟨gP,r',none⟩ (.slice (some ⟨JX,0,none⟩) n c00)).setCell ⟨gC,r',none⟩ (.slice (some ⟨gs,1,none⟩) k (cs-1))).drew.drew from((((AA.refl _ ws).setCell (p:=⟨gP,r',none⟩) (by simp) _).setCell (p:=⟨gC,r',none⟩) (by simp) _).drew).drew);have FU:=hid (fun(j:Nat) (hj:wa.heap.size≤j)=>show j≠gP∧j≠gC∧g0<j from by
          have h1:=hBW.out.size;have h2:=hK.out.size;have h3:=jO.out;have h4:=JW.out;have h5:=Gv.out;exact⟨by omega,by omega,by omega⟩)
         have Ay:=hid (show AV (fun k=>k≠gP∧k≠gC∧g0<k) ((ws.setCell ⟨gP,r',none⟩ (.slice (some ⟨JX,0,none⟩) n c00)).setCell ⟨gC,r',none⟩ (.slice (some ⟨gs,1,none⟩) k (cs-1))).drew.drew (.slice an ln cn) (next.map ints) from
          AV.keep (AV.mono (AV.keep HOWN.out.sl ((AA.of_below HAS.out))) fun j hj=>by
           have h2:=hK.out.size;have h3:=jO.out;have h4:=JW.out;have h5:=Gv.out;have h6:wr.heap.size≤j:=hj;exact⟨by omega,by omega,by omega⟩) Kz.out)
         have qR:=hid (show∃Fh Fj,((ws.setCell ⟨gP,r',none⟩ (.slice (some ⟨JX,0,none⟩) n c00)).setCell ⟨gC,r',none⟩ (.slice (some ⟨gs,1,none⟩) k (cs-1))).drew.drew.heap[gP]?=some (.cells Fh 24 (0,0))∧((ws.setCell ⟨gP,r',none⟩ (.slice (some ⟨JX,0,none⟩) n c00)).setCell ⟨gC,r',none⟩ (.slice (some ⟨gs,1,none⟩) k (cs-1))).drew.drew.heap[gC]?=some (.cells Fj 25 (0,0))∧n≤cP∧cP≤maxLen∧Fh.size=cP∧n≤cC∧cC≤maxLen∧Fj.size=cC∧LZ (fun k=>k≠gP∧k≠gC∧g0<k) ((ws.setCell ⟨gP,r',none⟩ (.slice (some ⟨JX,0,none⟩) n c00)).setCell ⟨gC,r',none⟩ (.slice (some ⟨gs,1,none⟩) k (cs-1))).drew.drew Fh n (L::S)∧La (fun k=>k≠gP∧k≠gC∧g0<k) ((ws.setCell ⟨gP,r',none⟩ (.slice (some ⟨JX,0,none⟩) n c00)).setCell ⟨gC,r',none⟩ (.slice (some ⟨gs,1,none⟩) k (cs-1))).drew.drew Fj n (L::S) from by
          obtain⟨o3,o4,o5,o6,o7,o8,o9,Pm⟩:=HO.out;refine⟨Fh.setIfInBounds r' (.slice (some ⟨JX,0,none⟩) n c00),Fj.setIfInBounds r' (.slice (some ⟨gs,1,none⟩) k (cs-1)),?_,?_,o3,o4,by simpa using o5,o6,o7,by simpa using o8,?_,?_⟩
          ·exact(DT _ ⟨gC,r',none⟩ _ _ (by exact wV)).trans (Ho ws gP r' _ _ _ HQ.out.1)
          ·exact Ho _ gC r' _ _ _ ((DT _ ⟨gP,r',none⟩ _ _ (by exact ADl)).trans HQ.out.2)
          ·refine LZ.put (o9.keep (PK.out.trans Kz.out)) (by omega) (by omega) ?_;have h:=(G5.out.sl.mono fun j hj=>FU.out j hj).keep Kz.out;rw[qQ]at h;rw[Ky];exact h
          ·refine La.put (Pm.keep (PK.out.trans Kz.out)) (by omega) (by omega) ?_;rw[Ky];exact AV.keep (AV.mono (by have h:=HDR.out.1;rwa[D5,Nat.add_sub_cancel]at h) fun j hj=>FU.out j hj) Kz.out)
         have E9:=hid (show Below w0.heap.size w0 ((ws.setCell ⟨gP,r',none⟩ (.slice (some ⟨JX,0,none⟩) n c00)).setCell ⟨gC,r',none⟩ (.slice (some ⟨gs,1,none⟩) k (cs-1))).drew.drew from((((hB.out.trans (HB3.out.mono hB.out.size)).setCell (p:=⟨gP,r',none⟩) JW.out.1 _).setCell (p:=⟨gC,r',none⟩) JW.out.2 _).drew).drew);have wY:=hid ((hK.out.trans PK.out).trans Kz.out);have hwi:IntKind.i64.wrap ((r':Int)-1)=(r':Int)-1:=AY _ (by omega);go_wp2_with fail;go_roundw;case rel=>exact⟨L::S,next,ln,r',an,cn,rfl,rfl,by omega,hid (by rw[Eb];omega),hid ⟨eB.out.1,by rw[Eb,Ky];exact eB.out.2⟩,dz,ADk,Ay,qR,wY,E9⟩
         case measure=>simp[intOf]
end Go.Proofs.YtlmlamcoeegkbaaGreat.SfM
