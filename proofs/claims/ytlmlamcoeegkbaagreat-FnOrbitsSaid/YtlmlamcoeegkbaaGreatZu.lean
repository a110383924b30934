import Derived.Test.YtlmlamcoeegkbaaGreatZ0
import Derived.Test.YtlmlamcoeegkbaaGreatZt
import Derived.Laws.AppendOwnNone
import Derived.Deep.RegionHeld3
import Derived.Deep.AppendLies
import Derived.Deep.RegionLaw
import Derived.Ground.SlsfProg
import Derived.Shelf.SlSortCmp.Insertion
import Derived.Test.YtlmlamcoeegkbaaGreatProg
import Derived.Shelf.SlSortCmp.NoneTotal
/-
  Lemmas for the law FnOrbits, in short spelling.
-/
open Go.Lib (hid)
set_option linter.unusedVariables false
set_option linter.unusedSimpArgs false
set_option maxRecDepth 100000
set_option maxHeartbeats 40000000
namespace Go.Proofs.YtlmlamcoeegkbaaGreat.CcA
open Go.Proofs.YtlmlamcoeegkbaaGreat Tow Gen GenC NumT GenD
structure Emb (Q T:Tw)(cs:List (List Nat)):Prop where
 el:∀c∈cs,El Q c
 rel:Rel (mul Q) (Tow.one Q) T cs
 inj:∀x y,El T x→El T y→ev (mul Q) (Tow.one Q) cs x=ev (mul Q) (Tow.one Q) cs y→x=y
def Prm (T:Tw):Prop:=∀L∈T,L.o=2∨L.o=3∨L.o=5∨L.o=7
theorem inv_small {o d:Nat}(ho:o=2∨o=3∨o=5∨o=7)(h0:0<d)(hd:d<o):∃m n,d*m=1+o*n:=by
 have h:∀o∈[2,3,5,7],∀d,d<o→0<d→∃m,m<8∧∃n,n<8∧d*m=1+o*n:=by decide
 obtain⟨m,_,n,_,e⟩:=h o (by rcases ho with rfl|rfl|rfl|rfl<;>simp) d hd h0;exact⟨m,n,e⟩
theorem ev_one {Q:Tw}(hQ:Wf Q)(hg:Tow.Good Q):∀(cs:List (List Nat)) (n:Nat),ev (mul Q) (Tow.one Q) cs (List.replicate n 0)=Tow.one Q
 |[],n=>by cases n<;>rfl
 |d::ds,0=>rfl
 |d::ds,n+1=>(zq38 (mul Q _) (ev_one hQ hg ds n)).trans (by have G:=grp hQ hg;rw[npow_zero,G.eL G.me])
theorem ev_zero {Q:Tw}(hQ:Wf Q)(hg:Tow.Good Q){x:List Nat}{im:List (List Nat)}(hi:∀c∈im,El Q c)(z:List Nat):ev (mul Q) (Tow.one Q) (x::im) (0::z)=ev (mul Q) (Tow.one Q) im z:=by
 have G:=grp hQ hg;show mul Q (npow (mul Q) (Tow.one Q) x 0) _=_;rw[npow_zero,G.eL (G.ev hi z)]
def Im (Q T:Tw)(cs:List (List Nat))(c:List Nat):Prop:=∃z,El T z∧ev (mul Q) (Tow.one Q) cs z=c
theorem im_div {Q T:Tw}(hQ:Wf Q)(hg:Tow.Good Q)(hT:Wf T)(hgT:Tow.Good T){im:List (List Nat)}(hi:∀c∈im,El Q c)(hR:Rel (mul Q) (Tow.one Q) T im){c v:List Nat}(hc:El Q c)(h:Im Q T im (mul Q c v))(hv:Im Q T im v):Im Q T im c:=by
 have G:=grp hQ hg;have GT:=grp hT hgT;obtain⟨z,hz,e⟩:=h;obtain⟨y,hy,rfl⟩:=hv;obtain⟨y',hy',h1,h2⟩:=GT.iv hy;refine⟨mul T z y',GT.cl hz hy',?_⟩;refine G.cancelR (G.ev hi y) (G.ev hi _) hc ?_;rw[←e,←G.hom hT hi hR (GT.cl hz hy') hy,GT.asc hz hy' hy,h2,GT.eR hz]
theorem im_mul {Q T:Tw}(hQ:Wf Q)(hg:Tow.Good Q)(hT:Wf T){im:List (List Nat)}(hi:∀c∈im,El Q c)(hR:Rel (mul Q) (Tow.one Q) T im){c v:List Nat}(h:Im Q T im c)(hv:Im Q T im v):Im Q T im (mul Q c v):=by
 have G:=grp hQ hg;obtain⟨z,hz,rfl⟩:=h;obtain⟨y,hy,rfl⟩:=hv;exact⟨mul T z y,El_mul hT hz hy,G.hom hT hi hR hz hy⟩
theorem im_one {Q T:Tw}(hQ:Wf Q)(hg:Tow.Good Q)(hT:Wf T){im:List (List Nat)}:Im Q T im (Tow.one Q):=⟨Tow.one T,El_one hT,ev_one hQ hg im _⟩
theorem im_pow {Q T:Tw}(hQ:Wf Q)(hg:Tow.Good Q)(hT:Wf T){im:List (List Nat)}(hi:∀c∈im,El Q c)(hR:Rel (mul Q) (Tow.one Q) T im){c:List Nat}(h:Im Q T im c):∀k,Im Q T im (npow (mul Q) (Tow.one Q) c k)
 |0=>im_one hQ hg hT
 |k+1=>by rw[npow_succ];exact im_mul hQ hg hT hi hR (im_pow hQ hg hT hi hR h k) h
theorem gen_im {Q T:Tw}(hQ:Wf Q)(hg:Tow.Good Q)(hT:Wf T){im:List (List Nat)}(hi:∀c∈im,El Q c)(hR:Rel (mul Q) (Tow.one Q) T im)(c:List Nat):Gen (mul Q) (Tow.one Q) im c↔Im Q T im c:=gen_ev hQ hg hT hi hR c
theorem emb_lt {Q T:Tw}{L:Lv}(hQ:Wf Q)(hg:Tow.Good Q)(hT:Wf (L::T))(hgT:Tow.Good T)(hp:L.o=2∨L.o=3∨L.o=5∨L.o=7){im:List (List Nat)}{x:List Nat}(hi:∀c∈im,El Q c)(hR:Rel (mul Q) (Tow.one Q) T im)(hx:El Q x)(hF:FitsV Q L im x)(hn:¬Gen (mul Q) (Tow.one Q) im x)
  {a b:Nat} {z y:List Nat} (hz:El T z) (hy:El T y) (hab:a<b) (hb:b<L.o) (e:mul Q (npow (mul Q) (Tow.one Q) x a) (ev (mul Q) (Tow.one Q) im z)=mul Q (npow (mul Q) (Tow.one Q) x b) (ev (mul Q) (Tow.one Q) im y)):False:=by
 have G:=grp hQ hg;have hT':=hT.2.2.2.2;obtain⟨m,n,hmn⟩:=inv_small hp (show 0<b-a by omega) (show b-a<L.o by omega);have ha:=G.npow hx a;have hd:=G.npow hx (b-a);rw[show b=a+(b-a) by omega,G.npow_add hx,G.asc ha hd (G.ev hi y)]at e;have e1:=G.cancelL ha (G.ev hi z) (G.cl hd (G.ev hi y)) e;have h1:Im Q T im (npow (mul Q) (Tow.one Q) x (b-a)):=im_div hQ hg hT' hgT hi hR hd ⟨z,hz,e1⟩ ⟨y,hy,rfl⟩;have h2:Im Q T im (npow (mul Q) (Tow.one Q) x (1+L.o*n)):=by
  have:=im_pow hQ hg hT' hi hR h1 m;rw[npow_mul G hx,hmn]at this;exact this
 have h3:Im Q T im (npow (mul Q) (Tow.one Q) x (L.o*n)):=by
  rw[←npow_mul G hx,hF.1];exact im_pow hQ hg hT' hi hR ⟨L.w,hT.2.1,rfl⟩ n
 rw[G.npow_add hx,G.npow_one hx]at h2;exact hn ((gen_im hQ hg hT' hi hR x).2 (im_div hQ hg hT' hgT hi hR hx h2 h3))
theorem emb_cons {Q T:Tw}{L:Lv}(hQ:Wf Q)(hg:Tow.Good Q)(hT:Wf (L::T))(hgT:Tow.Good T)(hp:L.o=2∨L.o=3∨L.o=5∨L.o=7){im:List (List Nat)}{x:List Nat}:
  Emb Q (L::T) (x::im)↔Emb Q T im∧El Q x∧FitsV Q L im x∧¬Gen (mul Q) (Tow.one Q) im x:=by
 have G:=grp hQ hg;have hT':=hT.2.2.2.2;have ho:=hT.1;constructor
 ·rintro⟨hel,⟨r1,r2,r3⟩,hinj⟩;have hi:∀c∈im,El Q c:=fun c hc=>hel c (zq23 _ hc);have hx:=hel x zq24;have hl:=Rel_length r3;have hE:Emb Q T im:=⟨hi,r3,fun z y hz hy e=>by
   have:=hinj (0::z) (0::y) ⟨by omega,hz⟩ ⟨by omega,hy⟩ (by rw[ev_zero hQ hg hi,ev_zero hQ hg hi,e]);simpa using this⟩
  refine⟨hE,hx,⟨r1,fun k y hk=>?_⟩,fun h=>?_⟩
  ·have hkl:=(zq2.1 hk).1;have hkm:k<im.length:=by rw[hl,←hT.2.2.1];exact hkl
   have:=r2 k hkm hkl;rw[zq9,zq0 hkm];rw[(zq2.1 hk).2]at this;exact this
  ·obtain⟨z,hz,e⟩:=(gen_im hQ hg hT' hi r3 x).1 h;have:=hinj (1::Tow.one T) (0::z) ⟨by omega,El_one hT'⟩ ⟨by omega,hz⟩ (by
    rw[ev_zero hQ hg hi,e];show mul Q (npow (mul Q) (Tow.one Q) x 1) (ev (mul Q) (Tow.one Q) im (List.replicate T.length 0))=x;rw[ev_one hQ hg,G.npow_one hx,G.eR hx])
   simp at this
 ·rintro⟨hE,hx,hF,hn⟩;refine⟨fun c hc=>?_,rel_cons hT.2.2.1 hE.rel hF,fun u v hu hv e=>?_⟩
  ·rcases zq70.1 hc with rfl|hc
   ·exact hx
   ·exact hE.el c hc
  ·cases u with
   |nil=>exact hu.elim
   |cons a z=>cases v with
    |nil=>exact hv.elim
    |cons b y=>
     have e':mul Q (npow (mul Q) (Tow.one Q) x a) (ev (mul Q) (Tow.one Q) im z)=mul Q (npow (mul Q) (Tow.one Q) x b) (ev (mul Q) (Tow.one Q) im y):=e;rcases zq123 a b with h|h|h
     ·exact(emb_lt hQ hg hT hgT hp hE.el hE.rel hx hF hn hu.2 hv.2 h hv.1 e').elim
     ·subst h;have:=hE.inj z y hu.2 hv.2 (G.cancelL (G.npow hx a) (G.ev hE.el z) (G.ev hE.el y) e');rw[this]
     ·exact(emb_lt hQ hg hT hgT hp hE.el hE.rel hx hF hn hv.2 hu.2 h hu.1 e'.symm).elim
theorem emb_nil {Q:Tw}:Emb Q [] []:=⟨by simp,trivial,fun x y hx hy _=>by
 cases x with
 |nil=>cases y with
  |nil=>rfl
  |cons b y=>exact hy.elim
 |cons a x=>exact hx.elim⟩
theorem Emb.len {Q T:Tw}{cs:List (List Nat)}(h:Emb Q T cs):cs.length=T.length:=Rel_length h.rel
theorem emb_drop {Q T:Tw}(hQ:Wf Q)(hg:Tow.Good Q)(hT:Wf T)(hgT:Tow.Good T)(hp:Prm T){cs:List (List Nat)}(h:Emb Q T cs):∀k,k≤T.length→Emb Q (T.drop k) (cs.drop k)
 |0,_=>h
 |k+1,hk=>by
  have ih:=emb_drop hQ hg hT hgT hp h k (by omega);obtain⟨L,hL⟩:∃L,T[k]?=some L:=⟨_,zq0 (by omega)⟩;have hkc:k<cs.length:=by rw[h.len];omega
  have hw:=Wf_drop hT k;have hgd:=Good_drop hgT (k+1);rw[drop_cons' hL]at ih hw;rw[zq32 hkc]at ih;exact((emb_cons hQ hg hw hgd (hp L (zq5 hL))).1 ih).1
theorem growV_drop {Q T:Tw}:∀(k:Nat) (im cs:List (List Nat)),cs∈growV Q T k im→cs.drop k=im
 |0,im,cs,h=>by simpa[growV]using h
 |k+1,im,cs,h=>by
  rw[growV,List.mem_flatMap]at h;obtain⟨t,_,h⟩:=h;split at h
  ·have:=growV_drop k _ _ h;rw[←zq66,this];rfl
  ·simp at h
theorem mem_growV {Q T:Tw}(hQ:Wf Q)(hg:Tow.Good Q)(hT:Wf T)(hgT:Tow.Good T)(hp:Prm T):∀k,k≤T.length→∀im,Emb Q (T.drop k) im→∀cs,cs∈growV Q T k im↔Emb Q T cs∧cs.drop k=im
 |0,_,im,h,cs=>by
  rw[growV,zq54,List.drop_zero];constructor
  ·rintro rfl;exact⟨h,rfl⟩
  ·exact fun h=>h.2
 |k+1,hk,im,h,cs=>by
  obtain⟨L,hL⟩:∃L,T[k]?=some L:=⟨_,zq0 (by omega)⟩;have hLd:T.getD k ⟨0,[],[]⟩=L:=by rw[zq9,hL];rfl
  have hw:=Wf_drop hT k;have hgd:=Good_drop hgT (k+1);rw[drop_cons' hL]at hw;have hpk:=hp L (zq5 hL);rw[growV,List.mem_flatMap,hLd];constructor
  ·rintro⟨t,ht,hm⟩;split at hm
   ·next hc=>
    have hE:Emb Q (T.drop k) (at_ Q t::im):=by
     rw[drop_cons' hL];exact(emb_cons hQ hg hw hgd hpk).2 ⟨h,at_El hQ t,hc.2,hc.1⟩
    have:=(mem_growV hQ hg hT hgT hp k (by omega) _ hE cs).1 hm;exact⟨this.1,by rw[←zq66,this.2];rfl⟩
   ·simp at hm
  ·rintro⟨hE,hd⟩;have hkc:k<cs.length:=by rw[hE.len];omega
   have hEk:=emb_drop hQ hg hT hgT hp hE k (by omega);rw[drop_cons' hL,zq32 hkc,hd]at hEk;have hc:=(emb_cons hQ hg hw hgd hpk).1 hEk;have hat:=at_num hQ hc.2.1;refine⟨num Q cs[k],zq62.2 (num_lt hc.2.1 hQ),?_⟩;rw[hat,zq57 ⟨hc.2.2.2,hc.2.2.1⟩];refine(mem_growV hQ hg hT hgT hp k (by omega) _ (by rw[drop_cons' hL];exact hEk) cs).2 ⟨hE,?_⟩;rw[zq32 hkc,hd]
theorem growV_nodup {Q T:Tw}:∀(k:Nat) (im:List (List Nat)),(growV Q T k im).Nodup
 |0,im=>by simp[growV]
 |k+1,im=>by
  rw[growV];refine List.pairwise_flatMap.2 ⟨fun t _=>?_,?_⟩
  ·split
   ·exact growV_nodup k _
   ·exact List.Pairwise.nil
  ·refine List.pairwise_iff_getElem.2 fun i j hi hj hij x hx y hy=>?_;simp only[List.length_range]at hi hj;simp only[List.getElem_range]at hx hy;split at hx
   ·split at hy
    ·intro e;have h1:=growV_drop k _ _ hx;have h2:=growV_drop k _ _ hy;rw[e,h2]at h1;have:=at_inj hj hi (List.cons.inj h1).1;omega
    ·simp at hy
   ·simp at hx
end Go.Proofs.YtlmlamcoeegkbaaGreat.CcA
namespace Go.Proofs.YtlmlamcoeegkbaaGreat.CcB
open Go.Proofs.YtlmlamcoeegkbaaGreat Tow Gen GenC NumT GenD CcA
section
variable {α β:Type} {M:α→Prop} {m:α→α→α} {e:α} {m':β→β→β} {e':β}
theorem npow_map (G:IsG M m e)(f:α→β)(he:f e=e')(hf:∀a b,M a→M b→f (m a b)=m' (f a) (f b)){c:α}(hc:M c):∀k,f (npow m e c k)=npow m' e' (f c) k
 |0=>he
 |k+1=>by rw[npow_succ,hf _ _ (G.npow hc k) hc,npow_map G f he hf hc k,npow_succ]
theorem rel_map (G:IsG M m e)(f:α→β)(he:f e=e')(hf:∀a b,M a→M b→f (m a b)=m' (f a) (f b))(hi:∀a b,M a→M b→f a=f b→a=b):∀(T:Tw) (cs:List α),(∀c∈cs,M c)→(Rel m' e' T (cs.map f)↔Rel m e T cs)
 |[],[],_=>Iff.rfl
 |[],_::_,_=>Iff.rfl
 |_::_,[],_=>Iff.rfl
 |L::T,c::cs,hc=>by
  have h1:=hc c zq24;have h2:∀d∈cs,M d:=fun d hd=>hc d (zq23 _ hd);have hev:∀x,ev m' e' (cs.map f) x=f (ev m e cs x):=fun x=>(ev_map G f he hf h2 x).symm;rw[zq81];show(_∧_∧_)↔(_∧_∧_);refine and_congr ?_ (and_congr ?_ (rel_map G f he hf hi T cs h2))
  ·rw[hev,←npow_map G f he hf h1];exact⟨fun h=>hi _ _ (G.npow h1 _) (G.ev h2 _) h,fun h=>by rw[h]⟩
  ·constructor
   ·intro h j hj hj';have:=h j (by simpa using hj) hj';rw[zq107,hev,←hf _ _ (h2 _ (zq76 hj)) h1,←hf _ _ h1 (G.ev h2 _)]at this;exact hi _ _ (G.cl (h2 _ (zq76 hj)) h1) (G.cl h1 (G.ev h2 _)) this
   ·intro h j hj hj';have hj2:j<cs.length:=by simpa using hj
    have:=h j hj2 hj';rw[zq107,hev,←hf _ _ (h2 _ (zq76 hj2)) h1,←hf _ _ h1 (G.ev h2 _),this]
end
theorem ev_unit {Q:Tw}(hQ:Wf Q)(hg:Tow.Good Q):∀(cs:List (List Nat)) (T:Tw),(∀c∈cs,El Q c)→cs.length=T.length→∀j c,cs[j]?=some c→ev (mul Q) (Tow.one Q) cs (unit T j)=c
 |[],T,_,_,j,c,hj=>by simp at hj
 |d::ds,[],_,hl,j,c,hj=>by simp at hl
 |d::ds,L::T,hd,hl,j,c,hj=>by
  have G:=grp hQ hg;have hd1:=hd d zq24;cases j with
  |zero=>
   simp only[zq16,zq42]at hj;subst hj;rw[unit_zero];show mul Q (npow (mul Q) (Tow.one Q) d 1) (ev (mul Q) (Tow.one Q) ds (List.replicate T.length 0))=d;rw[G.npow_one hd1,ev_one hQ hg,G.eR hd1]
  |succ j=>
   rw[unit_succ,ev_zero hQ hg (fun c hc=>hd c (zq23 _ hc))];exact ev_unit hQ hg ds T (fun x hx=>hd x (zq23 _ hx)) (by simpa using hl) j c (by simpa using hj)
theorem prodL_zeros {α:Type}(m:α→α→α):∀(cs:List α) (u:α) (n:Nat),prodL m u cs (List.replicate n 0)=u
 |[],u,n=>by cases n<;>rfl
 |c::cs,u,0=>rfl
 |c::cs,u,n+1=>prodL_zeros m cs u n
theorem mul_00 {L:Lv}{T:Tw}(h:2≤L.o)(y z:List Nat):mul (L::T) (0::y) (0::z)=0::mul T y z:=by
 rw[mul_cons,zq37 (by omega)];rfl
theorem npow_first {L:Lv}{T:Tw}(h:Wf (L::T))(hg:Tow.Good T):∀k,k<L.o→npow (mul (L::T)) (Tow.one (L::T)) (unit (L::T) 0) k=k::Tow.one T
 |0,_=>rfl
 |k+1,hk=>by
  have hE:El (L::T) (k::Tow.one T):=⟨by omega,El_one h.2.2.2.2⟩;rw[npow_succ,npow_first h hg k (by omega),←tg_mul h hg hE,tg,zq37 (by omega),zq37 (by omega)];exact zq38 _ (prodL_zeros _ _ _ _)
theorem npow_last {L:Lv}{T:Tw}(h:Wf (L::T))(hg:Tow.Good T):npow (mul (L::T)) (Tow.one (L::T)) (unit (L::T) 0) L.o=0::L.w:=by
 obtain⟨k,hk⟩:∃k,L.o=k+1:=⟨L.o-1,by have:=h.1;omega⟩;have hE:El (L::T) (k::Tow.one T):=⟨by omega,El_one h.2.2.2.2⟩;rw[hk,npow_succ,npow_first h hg k (by omega),←tg_mul h hg hE,tg,zq57 (by omega),zq57 (by omega)];exact zq38 _ (prodL_zeros _ _ _ _)
theorem rel_gens:∀{T:Tw},Wf T→Tow.Good T→Rel (mul T) (Tow.one T) T (gens T)
 |[],_,_=>trivial
 |L::T,h,hg=>by
  have h5:=h.2.2.2.2;have h4:=h.2.2.2.1;have g0:=hg.1;have G:=grp h5 g0;have hm0:=mul_00 (L:=L) (T:=T) h.1;have hge:=gens_El h5;have hev:∀x,El T x→ev (mul (L::T)) (Tow.one (L::T)) ((gens T).map (0:: ·)) x=0::x:=fun x hx=>by
   rw[←ev_map (f:=(0:: ·)) (m':=mul (L::T)) (e':=Tow.one (L::T)) G rfl (fun a b _ _=>(hm0 a b).symm) hge x,ev_gens h5 g0 hx]
  rw[gens_cons];refine⟨?_,fun j hj hj'=>?_,?_⟩
  ·rw[npow_last h g0,hev _ h.2.1]
  ·have hjT:j<T.length:=by simpa[gens]using hj
   have hcE:=h4 _ (zq76 hj');have hgj:(gens T)[j]'(by simpa[gens]using hjT)=unit T j:=by simp[gens]
   have htg:=tg_mul (x:=0::unit T j) h g0 ⟨by have:=h.1;omega,El_unit h5 j⟩;rw[zq107,hgj,hev _ hcE,←htg,tg,zq37 (by have:=h.1;omega),zq37 (by have:=h.1;omega),unit_zero,mul_cons,zq37 (by have:=h.1;omega)];show 1::prodL (mul T) (Tow.one T) L.c (unit T j)=1::mul T (Tow.one T) L.c[j];rw[G.prodL_e h4,G.eL hcE,ev_unit h5 g0 L.c T h4 h.2.2.1 j L.c[j] (zq0 hj')]
  ·refine(rel_map G (0:: ·) rfl (fun a b _ _=>(hm0 a b).symm) (fun a b _ _ hab=>by simpa using hab) T (gens T) hge).2 (rel_gens h5 g0)
theorem emb_id {T:Tw}(h:Wf T)(hg:Tow.Good T):Emb T T (gens T):=⟨gens_El h,rel_gens h hg,fun x y hx hy e=>by rwa[ev_gens h hg hx,ev_gens h hg hy]at e⟩
abbrev phi (Q:Tw)(u:List (List Nat))(z:List Nat):List Nat:=ev (mul Q) (Tow.one Q) u z
theorem comp {Q S T:Tw}(hQ:Wf Q)(hg:Tow.Good Q)(hS:Wf S)(hgS:Tow.Good S){u cs:List (List Nat)}(hu:Emb Q S u)(hc:Emb S T cs):Emb Q T (cs.map (phi Q u)):=by
 have G:=grp hQ hg;have GS:=grp hS hgS;have he:phi Q u (Tow.one S)=Tow.one Q:=ev_one hQ hg u _;have hf:∀a b,El S a→El S b→phi Q u (mul S a b)=mul Q (phi Q u a) (phi Q u b):=fun a b ha hb=>G.hom hS hu.el hu.rel ha hb;refine⟨fun c h=>?_,(rel_map GS (phi Q u) he hf (fun a b ha hb h=>hu.inj a b ha hb h) T cs hc.el).2 hc.rel,fun x y hx hy e=>?_⟩
 ·obtain⟨d,_,rfl⟩:=zq35.1 h;exact G.ev hu.el d
 ·rw[←ev_map GS (phi Q u) he hf hc.el,←ev_map GS (phi Q u) he hf hc.el]at e;exact hc.inj x y hx hy (hu.inj _ _ (GS.ev hc.el x) (GS.ev hc.el y) e)
theorem factor {Q S T:Tw}(hQ:Wf Q)(hg:Tow.Good Q)(hS:Wf S)(hgS:Tow.Good S){u es:List (List Nat)}(hu:Emb Q S u)(hE:Emb Q T es)(hin:∀c∈es,Im Q S u c):∃cs,Emb S T cs∧es=cs.map (phi Q u):=by
 classical
 have G:=grp hQ hg;have GS:=grp hS hgS;have he:phi Q u (Tow.one S)=Tow.one Q:=ev_one hQ hg u _;have hf:∀a b,El S a→El S b→phi Q u (mul S a b)=mul Q (phi Q u a) (phi Q u b):=fun a b ha hb=>G.hom hS hu.el hu.rel ha hb
 let F:List Nat→List Nat:=fun c=>if h:∃z,El S z∧phi Q u z=c then Classical.choose h else []
 have hF:∀c∈es,El S (F c)∧phi Q u (F c)=c:=fun c hc=>by
  have h:∃z,El S z∧phi Q u z=c:=hin c hc;have e:F c=Classical.choose h:=dif_pos h;rw[e];exact zq86 h
 have hel:∀d∈es.map F,El S d:=fun d hd=>by
  obtain⟨c,hc,rfl⟩:=zq35.1 hd;exact(hF c hc).1
 have hes:es=(es.map F).map (phi Q u):=by
  rw[List.map_map]
  conv=>lhs;rw[←List.map_id es]
  exact zq126 fun c hc=>((hF c hc).2).symm
 refine⟨es.map F,⟨hel,?_,fun x y hx hy e=>?_⟩,hes⟩
 ·refine(rel_map GS (phi Q u) he hf (fun a b ha hb h=>hu.inj a b ha hb h) T _ hel).1 ?_;rw[←hes];exact hE.rel
 ·refine hE.inj x y hx hy ?_;rw[hes,←ev_map GS (phi Q u) he hf hel,←ev_map GS (phi Q u) he hf hel,e]
theorem growV_iff {Q T:Tw}(hQ:Wf Q)(hg:Tow.Good Q)(hT:Wf T)(hgT:Tow.Good T)(hp:Prm T)(cs:List (List Nat)):cs∈growV Q T T.length []↔Emb Q T cs:=by
 rw[mem_growV hQ hg hT hgT hp T.length zqN [] (by rw[zq104];exact emb_nil)];exact⟨fun h=>h.1,fun h=>⟨h,zq114 (by rw[h.len];exact zq1 _)⟩⟩
theorem map_inj {α β:Type}{P:α→Prop}{f:α→β}(hf:∀a b,P a→P b→f a=f b→a=b):∀(x y:List α),(∀a∈x,P a)→(∀a∈y,P a)→x.map f=y.map f→x=y
 |[],[],_,_,_=>rfl
 |[],b::y,_,_,h=>by simp at h
 |a::x,[],_,_,h=>by simp at h
 |a::x,b::y,hx,hy,h=>by
  rw[zq81,zq81]at h;obtain⟨h1,h2⟩:=List.cons.inj h;rw[hf a b (hx a zq24) (hy b zq24) h1,map_inj hf x y (fun a ha=>hx a (zq23 _ ha)) (fun a ha=>hy a (zq23 _ ha)) h2]
theorem nodup_map {α β:Type}{P:α→Prop}{f:α→β}(hf:∀a b,P a→P b→f a=f b→a=b){l:List α}(hl:∀a∈l,P a)(hn:l.Nodup):(l.map f).Nodup:=by
 refine List.pairwise_map.2 (zq139 ?_ hn);intro a b ha hb hne e;exact hne (hf a b (hl a ha) (hl b hb) e)
theorem emb_nums {Q T:Tw}(hQ:Wf Q)(hg:Tow.Good Q)(hT:Wf T){cs:List (List Nat)}(h:Emb Q T cs):((List.range (sz T)).map fun t=>num Q (phi Q cs (at_ T t))).Nodup:=by
 have G:=grp hQ hg;refine nodup_map (P:=fun t=>t<sz T) (fun a b ha hb e=>?_) (fun a ha=>zq62.1 ha) List.nodup_range;have e1:=zq38 (at_ Q) e;rw[at_num hQ (G.ev h.el _),at_num hQ (G.ev h.el _)]at e1;exact at_inj ha hb (h.inj _ _ (at_El hT a) (at_El hT b) e1)
theorem emb_onto {Q T:Tw}(hQ:Wf Q)(hg:Tow.Good Q)(hT:Wf T){cs:List (List Nat)}(h:Emb Q T cs)(hs:sz Q≤sz T){c:List Nat}(hc:El Q c):Im Q T cs c:=by
 have G:=grp hQ hg;by_cases hm:num Q c∈(List.range (sz T)).map fun t=>num Q (phi Q cs (at_ T t))
 ·obtain⟨t,_,e⟩:=zq35.1 hm;have e1:=zq38 (at_ Q) e;rw[at_num hQ (G.ev h.el _),at_num hQ hc]at e1;exact⟨at_ T t,at_El hT t,e1⟩
 ·have hn:(num Q c::(List.range (sz T)).map fun t=>num Q (phi Q cs (at_ T t))).Nodup:=List.nodup_cons.2 ⟨hm,emb_nums hQ hg hT h⟩;have:=zq120 (l₂:=List.range (sz Q)) hn (fun x hx=>by
   rcases zq70.1 hx with rfl|hx
   ·exact zq62.2 (num_lt hc hQ)
   ·obtain⟨t,_,rfl⟩:=zq35.1 hx;exact zq62.2 (num_lt (G.ev h.el _) hQ))
  simp at this;omega
end Go.Proofs.YtlmlamcoeegkbaaGreat.CcB
namespace Go.Proofs.YtlmlamcoeegkbaaGreat.CcC
open Go.Proofs.YtlmlamcoeegkbaaGreat Tow Gen GenC NumT GenD CcA CcB
theorem flat_len {α β:Type}{f:α→List β}{n:Nat}:∀l:List α,(∀u∈l,(f u).length=n)→(l.flatMap f).length=l.length*n
 |[],_=>by simp
 |u::l,h=>by
  rw[zq92,zq31,h u zq24,flat_len l (fun v hv=>h v (zq23 _ hv)),zq58,Nat.add_mul,Nat.one_mul,zq89]
end Go.Proofs.YtlmlamcoeegkbaaGreat.CcC
namespace Go.Proofs.YtlmlamcoeegkbaaGreat.SfB
open Go.Proofs.YtlmlamcoeegkbaaGreat Tow Gen GenC NumT GenD CcA CcB SfA
noncomputable def cnj (T:Tw)(y u:List Nat):List Nat:=mul T (vinv T u) (mul T y u)
theorem cnj_hom {T:Tw}(hT:Wf T)(hg:Tow.Good T){u:List Nat}(hu:El T u){a b:List Nat}(ha:El T a)(hb:El T b):cnj T (mul T a b) u=mul T (cnj T a u) (cnj T b u):=by
 have G:=grp hT hg;obtain⟨hi,h1,h2⟩:=vinv_spec hT hg hu;unfold cnj;rw[G.asc hi (G.cl ha hu) (G.cl hi (G.cl hb hu)),G.asc ha hu (G.cl hi (G.cl hb hu)),←G.asc hu hi (G.cl hb hu),h1,G.eL (G.cl hb hu),G.asc ha hb hu]
theorem cnj_El {T:Tw}(hT:Wf T)(hg:Tow.Good T){u a:List Nat}(hu:El T u)(ha:El T a):El T (cnj T a u):=El_mul hT (vinv_spec hT hg hu).1 (El_mul hT ha hu)
theorem cnj_one {T:Tw}(hT:Wf T)(hg:Tow.Good T){u:List Nat}(hu:El T u):cnj T (Tow.one T) u=Tow.one T:=by
 have G:=grp hT hg;unfold cnj;rw[G.eL hu,(vinv_spec hT hg hu).2.2]
theorem mul_cnj {T:Tw}(hT:Wf T)(hg:Tow.Good T){u a:List Nat}(hu:El T u)(ha:El T a):mul T u (cnj T a u)=mul T a u:=by
 have G:=grp hT hg;obtain⟨hi,h1,h2⟩:=vinv_spec hT hg hu;unfold cnj;rw[←G.asc hu hi (G.cl ha hu),h1,G.eL (G.cl ha hu)]
theorem cnj_inj {T:Tw}(hT:Wf T)(hg:Tow.Good T){u a b:List Nat}(hu:El T u)(ha:El T a)(hb:El T b)(h:cnj T a u=cnj T b u):a=b:=by
 have G:=grp hT hg;have:=mul_cnj hT hg hu ha;rw[h,mul_cnj hT hg hu hb]at this;exact(G.cancelR hu hb ha this).symm
structure GT where
 Q:Tw
 hQ:Wf Q
 hg:Tow.Good Q
structure GT.E (B:GT) where
 val:List Nat
 property:El B.Q val
theorem GT.ext {B:GT}{a b:B.E}(h:a.val=b.val):a=b:=by
 cases a;cases b;simp only at h;subst h;rfl
instance (B:GT):Mul B.E:=⟨fun a b=>⟨mul B.Q a.1 b.1,El_mul B.hQ a.2 b.2⟩⟩
instance (B:GT):DecidableEq B.E:=fun a b=>decidable_of_iff (a.val=b.val) ⟨GT.ext,zq38 GT.E.val⟩
end Go.Proofs.YtlmlamcoeegkbaaGreat.SfB
namespace Go.Proofs.YtlmlamcoeegkbaaGreat.SfC
open Go.Proofs.YtlmlamcoeegkbaaGreat Tow Gen GenC NumT GenD CcA CcB SfA SfB
def cmpF:List Nat→List Nat→Int
 |[],[]=>0
 |[],_::_=> -1
 |_::_,[]=>1
 |a::x,b::y=>if a<b then -1 else if b<a then 1 else cmpF x y
def key (n:Nat)(S:Tw)(L:Lv):List Nat:=(L.w::L.c).flatMap (pad (n-S.length))
def Has (Q S:Tw):Prop:=∃t,Emb Q S t
def Std (Q:Tw)(q:Nat):Tw→Prop
 |[]=>True
 |L::S=>Std Q q S∧L.o=q∧Wf (L::S)∧Tow.Good (L::S)∧Has Q (L::S)∧∀L',L'.o=q→Wf (L'::S)→Has Q (L'::S)→¬cmpF (key Q.length S L') (key Q.length S L)<0
theorem Std.good {Q:Tw}{q:Nat}:∀{S:Tw},Std Q q S→Wf S∧Tow.Good S∧(∀L∈S,L.o=q)∧Has Q S
 |[],_=>⟨trivial,trivial,fun L h=>by simp at h,[],emb_nil⟩
 |L::S,⟨h1,h2,h3,h4,h5,_⟩=>⟨h3,h4,fun K hK=>by
  rcases zq70.1 hK with rfl|hK
  ·exact h2
  ·exact(Std.good h1).2.2.1 K hK,h5⟩
end Go.Proofs.YtlmlamcoeegkbaaGreat.SfC
namespace Go.Proofs.YtlmlamcoeegkbaaGreat.ImplT
open Go.RowKit Go.Proofs.YtlmlamcoeegkbaaGreat Tow NumT ImplN ImplP ImplQ ImplR ImplS ImplW
def NewN (e:TypeId)(x:List Nat)(w:World)(e':Ending)(w':World):Prop:=∃v,e'= .returned v∧RowOk e w.heap.size w' v x∧Below w.heap.size w w'
theorem cloneN_any (w:World)(ad:Addr)(n c:Nat)(l:List Nat)(hv:SlI Any w (.slice (some ad) n c) (ints l))(hl:l.length≤1000000):
  Calls Tryz.prog 119 #[.slice (some ad) n c] w (NewN 3 l w):=by
 obtain⟨i0,hi,hz0,hz1,hz2⟩:=zq41 infoN;have hnl:n=l.length:=by obtain⟨_,_,e,_⟩:=hv;simp only[zq40]at e;rw[e.2.1,ints_length]
 subst hnl;have HL:=hid hl;clear hl;have HS:=hid hv;have h00:=zq47 (base:=w.heap.size) (e:=3) (size:=1) w #[] 0 zqN (zq4 _) rfl;have hen:=fun(w:World) (a:Option Addr) (n c n' c':Nat)=>Lib.run_eql_slice_nil (P:=Tryz.prog) w 91 3 a n c n' c' Tryz.underlying91;have hv':SlI Any w (.slice (some ad) (ints l).length c) (ints l):=by rw[ints_length];exact hv
 have C1:=hid (SlI.src (w':=w.alloc (.cells #[] 3)) hv' (zqK.alloc _));have C2:=hid (vals_one (ints l));have C3:=hid (show 0+l.length≤maxLen from by have:=HL.out;unfold maxLen;omega);have C4:=hid (show(0+l.length)*8≤140737488355328 from by have:=HL.out;omega);have C5:=hid (show(vals (ints l)).length=l.length*1 by simp[vals,ints]);clear hv hv';go_enter Tryz.func119,Tryz.ntmps119;go_wp2_with (at_builtin;refine zq55 _ rfl _ _ 91 rfl w.heap.size 3 i0 (.int .i64 0) 1 8 Tryz.underlying91 hi hz0 hz1 hz2 rfl (by decide) _ _ _ rfl h00 ad l.length c (vals (ints l)) rfl C5.out C1.out C2.out C3.out C4.out (by simp) ?_);intro v' w1 hown' hgrow hnil;have hne:v'≠.slice none 0 0:=by first|exact hnil|(intro e;have:=hnil.1 e;simp at this)
 have hO:w1.ownsRow w.heap.size 3 1 v' l.length (vals (ints l)):=by simpa using hown'
 have hB:Below w.heap.size w w1:=(zqB.alloc zqN _).grown hgrow (by simp) (by intro k hk;simp[Value.ownBlock]at hk;omega);clear hown' hgrow hnil;go_wp2_with fail;go_ret;refine⟨_,rfl,⟨?_,hO⟩,hB⟩;rcases hO.2 with⟨e,_⟩|⟨g,cap,cur,e,_⟩
 ·exact absurd e hne
 ·exact⟨g,cap,e⟩
end Go.Proofs.YtlmlamcoeegkbaaGreat.ImplT
namespace Go.Proofs.YtlmlamcoeegkbaaGreat.ImplU
open Go.RowKit Go.Proofs.YtlmlamcoeegkbaaGreat Tow NumT ImplN ImplP ImplQ ImplR ImplS ImplT ImplW Grow
def Sx (B bs gi:Nat):Nat→Prop:=fun k=>k<B∧k≠bs∧k≠gi
structure Iso (w:World)(bs bp op bg gi ci B:Nat)(T Q:Tw)(b:Bool)(ims:List Nat)(F:List (List Nat))(vF:Value):Prop where
 hbs:bs<B
 hgi:gi<B
 hne:bs≠gi
 hB:B≤w.heap.size
 row:w.heap[bs]?=some (.cells #[.pointer (some ⟨bp,op,none⟩),.pointer (some ⟨bg,0,none⟩),.slice (some ⟨gi,0,none⟩) T.length ci,.bool b,vF] 105)
 pre:PtrP (Sx B bs gi) w bp op (ofTw T)
 tab:TabG (Sx B bs gi) w bg Q
 len:ims.length=T.length
 ims:w.ownsRow 0 3 1 (.slice (some ⟨gi,0,none⟩) T.length ci) T.length (vals (ints ims))
 fnd:Own2 91 3 B w vF F
theorem Iso.slI {w:World}{bs bp op bg gi ci B:Nat}{T Q:Tw}{b:Bool}{ims:List Nat}{F:List (List Nat)}{vF:Value}(h:Iso w bs bp op bg gi ci B T Q b ims F vF):SlI Any w (.slice (some ⟨gi,0,none⟩) T.length ci) (ints ims):=by
 have hl:=h.len;have:RowOk 3 0 w (.slice (some ⟨gi,0,none⟩) T.length ci) ims:=⟨⟨gi,ci,by rw[hl]⟩,by rw[hl];exact h.ims⟩;exact this.sl.mono (fun _ _=>trivial)
theorem Iso.cells {w:World}{bs bp op bg gi ci B:Nat}{T Q:Tw}{b:Bool}{ims:List Nat}{F:List (List Nat)}{vF:Value}(h:Iso w bs bp op bg gi ci B T Q b ims F vF):
  w.cell? ⟨bs,0,none⟩=some (.pointer (some ⟨bp,op,none⟩))∧w.cell? ⟨bs,1,none⟩=some (.pointer (some ⟨bg,0,none⟩))∧w.cell? ⟨bs,2,none⟩=some (.slice (some ⟨gi,0,none⟩) T.length ci)∧w.cell? ⟨bs,3,none⟩=some (.bool b)∧w.cell? ⟨bs,4,none⟩=some vF:=by
 refine⟨?_,?_,?_,?_,?_⟩<;>exact(zq15 w bs _ _ _ (0,0) h.row).trans rfl
theorem Iso.isoS {w:World}{bs bp op bg gi ci B:Nat}{T Q:Tw}{b:Bool}{ims:List Nat}{F:List (List Nat)}{vF:Value}(h:Iso w bs bp op bg gi ci B T Q b ims F vF):IsoS w bs bp op bg gi ci T Q ims:=
 ⟨zq7 h.hbs h.hB,h.cells.1,h.cells.2.1,h.cells.2.2.1,h.pre.mono (fun _ _=>trivial),TabG.mono h.tab (fun _ _=>trivial),h.len,h.slI⟩
theorem Iso.below {w w':World}{bs bp op bg gi ci B:Nat}{T Q:Tw}{b:Bool}{ims:List Nat}{F:List (List Nat)}{vF:Value}(h:Iso w bs bp op bg gi ci B T Q b ims F vF)(hb:Below w.heap.size w w'):Iso w' bs bp op bg gi ci B T Q b ims F vF:=
 ⟨h.hbs,h.hgi,h.hne,zq11 h.hB hb.size,by rw[hb.block _ (zq7 h.hbs h.hB)];exact h.row,h.pre.keep (Keep.of_below hb),h.tab.keep (Keep.of_below hb),h.len,ownsRow_keep h.ims (S:=Any) (Keep.of_below hb) (fun _ _=>trivial),h.fnd.of_below hb⟩
def Chg (A B bs gi:Nat)(w w':World):Prop:=Below A w w'∧Keep (Sx B bs gi) w w'
def ChR (A bs bp op bg gi ci B:Nat)(T Q:Tw)(b:Bool)(F G:List (List Nat))(k:Nat)(im:List Nat)(w:World)(e:Ending)(w':World):Prop:=
 e= .returned (.tuple #[])∧∃ims' vF',Iso w' bs bp op bg gi ci B T Q b ims' (F++G) vF'∧ims'.drop k=im∧(∀y∈ims',y<sz Q)∧Chg A B bs gi w w'
theorem kb_mk {B bs:Nat}{w w':World}(hb:bs<B∧B≤w.heap.size)(h:Keep (· <B) w w'):(∀o,w'.cell? ⟨bs,o,none⟩=w.cell? ⟨bs,o,none⟩)∧(∀o,w'.frozen? ⟨bs,o,none⟩=w.frozen? ⟨bs,o,none⟩)∧Keep (· <B) w w':=
 ⟨fun o=>h.cell hb.1 (zq7 hb.1 hb.2),fun o=>World.frozen?_of_block (h.block bs hb.1 (zq7 hb.1 hb.2)),h⟩
theorem row_set {w:World}{bs:Nat}{cs:Array Value}{t:TypeId}(h:w.heap[bs]?=some (.cells cs t))(j:Nat)(v:Value):(w.setCell ⟨bs,j,none⟩ v).heap[bs]?=some (.cells (cs.setIfInBounds j v) t):=by
 rw[zq60 w bs j cs t v h]
theorem row_keep {w w':World}{e:TypeId}{B g n c:Nat}{xs:List Value}(h:w.ownsRow B e 1 (.slice (some ⟨g,0,none⟩) n c) n xs)(hb:w'.heap[g]?=w.heap[g]?):w'.ownsRow B e 1 (.slice (some ⟨g,0,none⟩) n c) n xs:=by
 refine⟨h.1,?_⟩;rcases h.2 with hn|⟨g',cap,cur,he,hb',hgg,rest⟩
 ·exact .inl hn
 ·obtain⟨rfl,rfl⟩:g=g'∧c=cap:=by simpa using he
  exact .inr ⟨g,c,cur,rfl,hb',by rw[hb];exact hgg,rest⟩
theorem choose_fin {A:Nat}{T Q:Tw}{w w6:World}{bs bp op bg gi ci B:Nat}{b:Bool}{ims:List Nat}{F:List (List Nat)}{vF v':Value}(h:Iso w bs bp op bg gi ci B T Q b ims F vF)(hA:A≤bs∧A≤gi)(hin:∀y∈ims,y<sz Q)
  (hB6:Below A w w6) (hN:Own2 91 3 B w6 v' (F++[ims])) (hk:Keep (· <B) w w6):ChR A bs bp op bg gi ci B T Q b F [ims] 0 ims w (.returned (.tuple #[])) (w6.setCell ⟨bs,4,none⟩ v'):=by
 have hbs:=zq7 h.hbs h.hB;have hkS:Keep (Sx B bs gi) w (w6.setCell ⟨bs,4,none⟩ v'):=(hk.mono (fun k (hk:Sx B bs gi k)=>hk.1)).setCell (by simp[Sx]) _;refine⟨rfl,ims,v',⟨h.hbs,h.hgi,h.hne,by have:=hk.size;have:=h.hB;simp;omega,?_,h.pre.keep hkS,h.tab.keep hkS,h.len,?_,?_⟩,rfl,hin,hB6.setCell (by simp;exact hA.1) _,hkS⟩
 ·have h1:w6.heap[bs]?=_:=(hk.block bs h.hbs hbs).trans h.row;exact row_set h1 4 v'
 ·refine row_keep h.ims ?_;have h2:(w6.setCell ⟨bs,4,none⟩ v').heap[gi]?=w6.heap[gi]?:=Below.heap_setCell _ _ _ gi (fun e=>h.hne e.symm);rw[h2];exact hk.block gi h.hgi (zq7 h.hgi h.hB)
 ·exact hN.keep (S:=(B≤ ·)) (zqK.setCell (by simp;exact h.hbs) _) (fun k hk=>hk)
theorem choose_zero (A:Nat)(T Q:Tw)(hs:T.length≤6)(hQ:Wf Q)(hz:sz Q≤27)(w:World)(bs bp op bg gi ci B:Nat)(b:Bool)(ims:List Nat)(F:List (List Nat))(vF:Value)(M:Nat)
  (h:Iso w bs bp op bg gi ci B T Q b ims F vF) (hA:A≤bs∧A≤gi) (hF:F.length≤1000000000) (hin:∀y∈ims,y<sz Q):
  Calls Tryz.prog 66 #[.pointer (some ⟨bs,0,none⟩),.int .i64 (-1),.int .u64 (M:Int)] w (ChR A bs bp op bg gi ci B T Q b F [ims] 0 ims w):=by
 obtain⟨i0,hi,hz0,hz1,hz2⟩:=zq41 infoM;obtain⟨q0,q1,q2,q3,q4⟩:=h.cells;have z4:w.frozen? ⟨bs,4,none⟩=false:=zq25 w bs 4 _ _ h.row;have HI:=hid h;have hbw:=zq7 h.hbs h.hB;have HCL:=hid (fun W (hW:SlI Any W (.slice (some ⟨gi,0,none⟩) T.length ci) (ints ims))=>cloneN_any W ⟨gi,0,none⟩ T.length ci ims hW (by rw[h.len];omega));have HIN:=hid hin;have HA:=hid hA;have HF:=hid hF;obtain⟨us,hu1,hu2,hu4⟩:=h.fnd;have HU:=hid (And.intro hu1 (And.intro hu2 hu4));have hBw:=h.hB;have hbs2:bs<B∧B≤w.heap.size:=⟨h.hbs,h.hB⟩;have hvB:∀k,k<B→some k≠vF.ownBlock:=fun k hk e=>by have:=(zq8 hu1 k e.symm).1;omega
 clear h hin hA hF hz hu1 hu2 hu4;go_enter Tryz.func66,Tryz.ntmps66;go_upto_region 1 with fail;go_region_law
  (first|(go_simp;go_at_call 119;refine(HCL.out _ (HI.out.slI.keep (by first|exact zqK.drew|exact Keep.refl _ _))).mono ?_;rintro e w5 ⟨v5,rfl,⟨⟨g5,c5,rfl⟩,hr5⟩,hb5⟩;obtain⟨kc5,kf5,kk5⟩:=kb_mk hbs2 (by first|exact Keep.trans (zqK.drew) (Keep.of_below hb5)|exact Keep.of_below hb5:Keep (· <B) w w5);have k45:=(kc5 4).trans q4;have hbw5:bs<w5.heap.size:=zq7 hbw (by exact hb5.size))|(refine zq119 _ (by rfl) _ _ _ (by rfl) B 91 i0 (.slice none 0 0) 1 24 Tryz.underlying59 hi hz0 hz1 hz2 rfl (by omega) vF F.length us (by rfl) ((ownsRow_keep HU.out.1 (S:=Any) (by first|exact Keep.trans (zqK.drew) (Keep.of_below hb5)|exact Keep.of_below hb5) (fun _ _=>trivial)).alloc _) ⟨w5.heap.size,0,none⟩ 1 1 [.slice (some ⟨g5,0,none⟩) ims.length c5] (by rfl) (by rfl) (zq50 (cs:= #[.slice (some ⟨g5,0,none⟩) ims.length c5]) (t:=91) (fr:=(0,0)) (zq17 w5 _)) (by simp[Value.oneCell']) (by omega) (by have:=HF.out;unfold maxLen;omega) (by have:=HF.out;omega) (by have:=hb5.size;simp;exact Nat.le_succ_of_le (zq11 hBw hb5.size)) _ rfl ?_;intro gg cap w6 hown6 hgrow6 hat6 hlt6;obtain⟨kc6,kf6,kk6⟩:=kb_mk hbs2 (Keep.trans ((by first|exact Keep.trans (zqK.drew) (Keep.of_below hb5)|exact Keep.of_below hb5:Keep (· <B) w w5).alloc _) (Keep.grown hgrow6 hvB));have k46:=(kc6 4).trans q4;have z46:=(kf6 4).trans z4))
 all_goals
  have hb5':Below w.heap.size w w5:=by first|exact hb5|exact(zqB.drew).trans hb5
  have hbb5:=hb5'.size;have hA1:=HA.out.1;have HB6:=hid (show Below A w w6 from((hb5'.mono (by omega)).alloc (by omega) _).grown hgrow6 (by simp;omega) (fun k hk=>by have:=(zq8 HU.out.1 k hk).1;omega));have HN6:=hid (show Own2 91 3 B w6 (.slice (some ⟨gg,0,none⟩) (F.length+1) cap) (F++[ims]) from
   Own2.push (w:=w5.alloc _) (us:=us) (by decide) rfl ((ownsRow_keep HU.out.1 (S:=Any) (Keep.of_below hb5') (fun _ _=>trivial)).alloc _) HU.out.2.1 (fun i r u hr hu=>(HU.out.2.2 i r u hr hu).keep (S:=Any) ((Keep.of_below hb5').alloc _) (fun _ _=>trivial)) (RowOk.keep (S:=Any) ⟨⟨g5,c5,rfl⟩,ownsRow_mono hr5 (by first|exact hBw|exact zq11 hBw zqN)⟩ (zqK.alloc _) (fun _ _=>trivial)) hown6 hgrow6)
  have HK6:=hid kk6;clear hown6 hgrow6 hr5 hb5 kc5 kf5 kk5 kc6 kf6 kk6 k45 hb5' k46 z46;go_wp2_with fail;exact zq12 (v:=.tuple #[]) (by simp[results,Tryz.results66,go_sem]) rfl (choose_fin HI.out HA.out HIN.out HB6.out HN6.out HK6.out)
end Go.Proofs.YtlmlamcoeegkbaaGreat.ImplU
namespace Go.Proofs.YtlmlamcoeegkbaaGreat.ImplX
open Go.RowKit Go.Proofs.YtlmlamcoeegkbaaGreat Tow NumT ImplN ImplP ImplQ ImplR ImplS ImplT ImplU ImplW Grow
def Msk (Q T:Tw)(im:List Nat)(M:Nat):Prop:=M<2^32∧∀c,M.testBit c=true↔inS Q T im c
theorem iso_set {w:World}{bs bp op bg gi ci B:Nat}{T Q:Tw}{b:Bool}{ims:List Nat}{F:List (List Nat)}{vF:Value}(h:Iso w bs bp op bg gi ci B T Q b ims F vF)(i x:Nat):
  Iso (w.setCell ⟨gi,i,none⟩ (.int .i64 (x:Int))) bs bp op bg gi ci B T Q b (ims.set i x) F vF:=by
 have hk:Keep (Sx B bs gi) w (w.setCell ⟨gi,i,none⟩ (.int .i64 (x:Int))):=zqK.setCell (by simp[Sx]) _;refine⟨h.hbs,h.hgi,h.hne,by simpa using h.hB,?_,h.pre.keep hk,h.tab.keep hk,by simpa using h.len,?_,?_⟩
 ·rw[zq53 _ _ _ _ h.hne];exact h.row
 ·have h1:=(zq109 h.ims i (.int .i64 (x:Int))).1;rw[vals_set,ints_set]at h1;exact h1
 ·exact h.fnd.keep (S:=(B≤ ·)) (zqK.setCell (by simp;exact h.hgi) _) (fun k hk=>hk)
theorem iso_imcell {w:World}{bs bp op bg gi ci B:Nat}{T Q:Tw}{b:Bool}{ims:List Nat}{F:List (List Nat)}{vF:Value}(h:Iso w bs bp op bg gi ci B T Q b ims F vF){i:Nat}(hi:i<T.length):
  ∃y:Nat,w.cell? ⟨gi,i,none⟩=some (.int .i64 (y:Int))∧w.frozen? ⟨gi,i,none⟩=false:=by
 have hl:=h.len;obtain⟨y,hy⟩:∃y,ims[i]?=some y:=⟨_,zq0 (by omega)⟩;refine⟨y,?_,zq130 h.ims i⟩;rw[zq59 h.ims i (by omega)];simp[vals,ints,hy]
theorem drop_set {l:List Nat}{i x:Nat}(h:i<l.length):(l.set i x).drop i=x::l.drop (i+1):=by
 rw[zq32 (by simpa using h),List.getElem_set_self,List.drop_set_of_lt (Nat.lt_succ_self i)]
def LoopR (A bs bp op bg gi ci B:Nat)(T Q:Tw)(b:Bool)(F:List (List Nat))(i:Nat)(im:List Nat)(x:Nat)(w wr:World):Prop:=
 ∃ims' vF',Iso wr bs bp op bg gi ci B T Q b ims' (F++growTo Q T i im x) vF'∧(b=true→growTo Q T i im x=[])∧ims'.drop (i+1)=im∧(∀y∈ims',y<sz Q)∧Chg A B bs gi w wr
theorem Chg.below {A B bs gi:Nat}{w w1 w2:World}(h:Chg A B bs gi w w1)(hA:A≤w1.heap.size)(hb:Below w1.heap.size w1 w2):Chg A B bs gi w w2:=
 ⟨h.1.trans (hb.mono hA),h.2.trans (Keep.of_below hb)⟩
theorem LoopR.no {A bs bp op bg gi ci B:Nat}{T Q:Tw}{b:Bool}{F:List (List Nat)}{i:Nat}{im:List Nat}{x:Nat}{w wr w1:World}(h:LoopR A bs bp op bg gi ci B T Q b F i im x w wr)(hA:A≤bs)
  (hn:¬(¬inS Q (T.drop (i+1)) im x∧Fits Q (T.getD i ⟨0,[],[]⟩) im x)) (hb:Below wr.heap.size wr w1):LoopR A bs bp op bg gi ci B T Q b F i im (x+1) w w1:=by
 obtain⟨ims',vF',h1,h2,h3,h4,h5⟩:=h;refine⟨ims',vF',?_,?_,h3,h4,Chg.below h5 (by have:=h1.hbs;have:=h1.hB;omega) hb⟩
 ·rw[growTo_no hn];exact h1.below hb
 ·rw[growTo_no hn];exact h2
theorem choose_any (A:Nat)(T Q:Tw)(hT:Wf T)(hs:Small T)(hQ:Wf Q)(hz:sz Q≤27)(bs bp op bg gi ci B:Nat)(b:Bool)(hA:A≤bs∧A≤gi):∀k,k≤T.length→∀(w:World) (ims:List Nat) (F:List (List Nat)) (vF:Value) (M:Nat),
  Iso w bs bp op bg gi ci B T Q b ims F vF→(∀y∈ims,y<sz Q)→Msk Q (T.drop k) (ims.drop k) M→F.length+27^k≤1000000000→(b=true→F=[])→
  Calls Tryz.prog 66 #[.pointer (some ⟨bs,0,none⟩),.int .i64 ((k:Int)-1),.int .u64 (M:Int)] w (ChR A bs bp op bg gi ci B T Q b F (cutB b (grow Q T k (ims.drop k))) k (ims.drop k) w):=by
 intro k
 induction k with
 |zero=>
  intro _ w ims F vF M h hin hM hF hb;have hc:=choose_zero A T Q hs.1 hQ hz w bs bp op bg gi ci B b ims F vF M h hA (by omega) hin;have e:cutB b (grow Q T 0 (ims.drop 0))=[ims]:=by cases b<;>rfl
  rw[e];exact hc
 |succ i ih=>
  intro hk w ims F vF M h hin hM hF hb;obtain⟨L,hL⟩:∃L,T[i]?=some L:=⟨_,zq0 (by omega)⟩;have hil:i<T.length:=by omega
  have hLo:L.o≤1000:=by have:=hs.2 L (zq5 hL);omega
  have HGD:=hid (show T.getD i ⟨0,[],[]⟩=L by rw[zq9,hL];rfl);have HIH:=hid (ih (by omega));obtain⟨im,him⟩:∃im,im=ims.drop (i+1):=⟨_,rfl⟩;rw[←him]at hM ⊢;have HFIT:=hid (fun W ims' x (hS:IsoS W bs bp op bg gi ci T Q ims') hx hin'=>fits_any T Q hT hs hQ (by omega) W bs bp op bg gi ci ims' i x L hL hS hx hin');have HEXT:=hid (fun W (hG:TabG Any W bg Q) x hx=>extend_any Q hQ hz W bg hG M x L.o ⟨hM.1,fun c hc=>inS_lt hQ ((hM.2 c).1 hc)⟩ hx hLo);have hpos:=sz_pos hQ;obtain⟨q0,q1,q2,q3,q4⟩:=h.cells;obtain⟨gt,ot,ct,hgl,hct,hct0,_⟩:=h.isoS.tab.open hpos;have H0:Hid (LoopR A bs bp op bg gi ci B T Q b F i im 0 w w):=hid ⟨ims,vF,by rw[growTo_zero,zq95];exact h,fun _=>growTo_zero _ _ _ _,him.symm,hin,zq3 _ _,Keep.refl _ _⟩;have HM:=hid hM;have HF:=hid hF;have HBF:=hid hb;have HAA:=hid hA;have HL:=hid hL;have HQ:=hid hQ;have HS:=hid hs;have hii:(((i+1:Nat):Int)-1)=(i:Int):=by omega
  rw[hii];clear ih h hin hM hF hb him hLo hii hA hL hQ hs hT q0 q2 q3 q4;go_enter Tryz.func66,Tryz.ntmps66;go_wp2_with fail;go_loopw [31] (fun iv wr=>∃x:Nat,x≤sz Q∧iv= .int .i64 (x:Int)∧Hid (LoopR A bs bp op bg gi ci B T Q b F i im x w wr)) (fun iv _=>sz Q-(intOf iv).toNat);case atStart=>exact⟨0,zq4 _,rfl,H0⟩
  case round=>
   obtain⟨x,hx,rfl,hR⟩:=hrel;clear q1 hct0;by_cases hlt:x<sz Q
   ·have hd:decide ((x:Int)<(sz Q:Int))=true:=by simp;omega
    have h1:=Mask.test_eq M x (by omega) HM.out.1;cases hb:M.testBit x with
    |true=>
     have HBB:=hid hb;rw[hb]at h1;clear hb;go_wp2_with fail;go_roundw;case rel=>exact⟨x+1,by omega,by go_num,hid (hR.out.no HAA.out.1 (fun hh=>hh.1 ((HM.out.2 x).1 HBB.out)) zqB)⟩
     case measure=>simp[intOf];omega
    |false=>
     have HBB:=hid hb;rw[hb]at h1;clear hb;by_cases hfit:Fits Q L im x
     ·have HFF:=hid hfit;clear hfit;obtain⟨ims',vF',hI,hnb,hdr,hin',hch⟩:=hR.out;have HI:=hid hI;have HNB:=hid hnb;have HDR:=hid hdr;have HIN':=hid hin';have HCH:=hid hch;clear hI hnb hdr hin' hch;go_wp2_with fail;refine(HFIT.out wr ims' x HI.out.isoS hlt HIN'.out).mono ?_;rintro e w1 ⟨r,rfl,hr,hb1⟩;obtain rfl:=hr.2 (by rw[HDR.out];exact HFF.out);obtain⟨r0,r1,r2,r3,r4⟩:=(HI.out.below hb1).cells;obtain⟨y0,s1,f1⟩:=iso_imcell (HI.out.below hb1) hil;have HI1:=hid (HI.out.below hb1);have HCH1:=hid (Chg.below HCH.out (by have:=HI.out.hbs;have:=HI.out.hB;have:=HAA.out;omega) hb1);clear hb1 hr;go_upto_region 7 with fail;clear r0 r1 r2 r3 r4 s1 f1;have HI2:=hid (iso_set HI1.out i x);have HCH2:Hid (Chg A B bs gi w (w1.setCell ⟨gi,i,none⟩ (.int .i64 (x:Int)))):=hid ⟨HCH1.out.1.setCell (by simp;exact HAA.out.2) _,HCH1.out.2.setCell (by simp[Sx]) _⟩;generalize w1.setCell ⟨gi,i,none⟩ (.int .i64 (x:Int))=w2 at HI2 HCH2 ⊢;clear HI1 HCH1 HI HCH;obtain⟨r0,r1,r2,r3,r4⟩:=HI2.out.cells;obtain⟨_,hbp,vO,vP,vC,hp0,hp1,hp2,hV⟩:=HI2.out.isoS.pre;obtain⟨aO,cO,aP,cP,aC,cC,rfl,rfl,rfl,hO1,hP1,hC1⟩:=hV.open;obtain⟨bO,oO,rfl,_,hbO,hcO⟩:=hV.ord HL.out;have hlen':i<ims'.length:=by have:=HI2.out.len;simp at this;omega
      have HDS:=hid (show(ims'.set i x).drop i=x::im by rw[drop_set hlen',HDR.out]);have HIN2:Hid (∀y∈ims'.set i x,y<sz Q):=hid (fun y hy=>by
       rcases List.mem_or_eq_of_mem_set hy with h|h
       ·exact HIN'.out y h
       ·rw[h];exact hlt)
      have HMSK:Hid (∀O,O<2^32→(∀c,O.testBit c=true↔∃j,j<L.o∧∃s,s<sz Q∧M.testBit s=true∧it (pr Q x) j s=c)→Msk Q (T.drop i) ((ims'.set i x).drop i) O):=hid (fun O h1 h2=>⟨h1,fun c=>by
       rw[h2 c,HDS.out,drop_cons' HL.out];constructor
       ·rintro⟨j,hj,s,_,hs,e⟩;exact⟨j,hj,s,(HM.out.2 s).1 hs,e⟩
       ·rintro⟨j,hj,s,hs,e⟩;exact⟨j,hj,s,inS_lt HQ.out hs,(HM.out.2 s).2 hs,e⟩⟩)
      have HBD:Hid ((F++growTo Q T i im x).length+27^i≤1000000000):=hid (by
       have h1:=growTo_length Q T hz i (grow_length Q T hz i) im x;have h2:F.length+27*27^i≤1000000000:=by have h:=HF.out;rw[zq112,zq97 (27^i)]at h;exact h
       have h3:(x+1)*27^i≤27*27^i:=zq84 _ (by omega);rw[Nat.add_mul,Nat.one_mul]at h3;rw[zq31];refine zq11 ?_ h2;rw[Nat.add_assoc];exact Nat.add_le_add_left (zq11 (Nat.add_le_add_right h1 _) h3) _)
      have HBE:Hid (b=true→F++growTo Q T i im x=[]):=hid (fun e=>by rw[HBF.out e,HNB.out e];rfl);have hs6:=HS.out.1;have hw8:IntKind.i64.wrap ((i:Int)-1)=(i:Int)-1:=zq6 _ (by omega);clear hV hp1 hp2 hO1 hP1 hC1 r2 r3 r4 h1;go_region_law
       (first|(go_simp;go_at_call 121;refine(HEXT.out _ (HI2.out.isoS.tab.keep (by first|exact zqK.drew|exact Keep.refl _ _)) x hlt).mono ?_;rintro e w4 ⟨O,rfl,hO1,hO2,rfl⟩)|(go_simp;go_at_call 66;refine(HIH.out _ (ims'.set i x) (F++growTo Q T i im x) vF' O (HI2.out.below (by first|exact zqB.drew|exact zq3 _ _)) HIN2.out (HMSK.out O hO1 hO2) HBD.out HBE.out).mono ?_;rintro e w5 ⟨rfl,ims5,vF5,hI5,hd5,hin5,hc5⟩))
      all_goals
       have HC5:=hid (show Chg A B bs gi w w5 from⟨HCH2.out.1.trans (by first|exact hc5.1|exact(zqB.drew).trans hc5.1),HCH2.out.2.trans (by first|exact hc5.2|exact(zqK.drew).trans hc5.2)⟩);have HI5:=hid hI5;have HD5:=hid (hd5.trans HDS.out);have HN5:=hid hin5;rw[HDS.out]at HI5;obtain⟨t0,t1,t2,t3,t4⟩:=hI5.cells;obtain⟨a5,c5,rfl,_,_⟩:=hI5.fnd.form;clear hI5 hd5 hin5 hc5 r0 r1 hp0 hcO t0 t1 t2;have HOK:=hid (show¬inS Q (T.drop (i+1)) im x∧Fits Q (T.getD i ⟨0,[],[]⟩) im x from⟨fun h=>by have:=(HM.out.2 x).2 h;rw[HBB.out]at this;exact Bool.noConfusion this,by rw[HGD.out];exact HFF.out⟩);rw[HDS.out]at t4;generalize hN5:(F++growTo Q T i im x++cutB b (grow Q T i (x::im))).length=N5 at t4;have HN5L:=hid hN5;clear hN5;cases b with
       |false=>
        go_wp2_with fail;go_roundw;case rel=>exact⟨x+1,by omega,by go_num,hid ⟨ims5,_,by rw[growTo_yes HOK.out,←zq74];exact HI5.out,fun h=>Bool.noConfusion h,by rw[←zq66,HD5.out];rfl,HN5.out,HC5.out⟩⟩
        case measure=>simp[intOf];omega
       |true=>
        have hF0:=HBF.out rfl;have hG0:=HNB.out rfl;by_cases hG:grow Q T i (x::im)=[]
        ·have hlen:(F++growTo Q T i im x++cutB true (grow Q T i (x::im))).length=0:=by rw[hF0,hG0,hG];rfl
         have HGG:=hid hG;have HG0:=hid hG0;obtain rfl:N5=0:=by rw[←HN5L.out];exact hlen
         clear hlen hG hF0 hG0;go_wp2_with fail;go_roundw;case rel=>exact⟨x+1,by omega,by go_num,hid ⟨ims5,_,by
          have e:F++growTo Q T i im (x+1)=F++growTo Q T i im x++cutB true (grow Q T i (x::im)):=by rw[growTo_yes HOK.out,HGG.out];simp[cutB]
          rw[e];exact HI5.out,fun _=>by rw[growTo_yes HOK.out,HGG.out,HG0.out];rfl,by rw[←zq66,HD5.out];rfl,HN5.out,HC5.out⟩⟩
         case measure=>simp[intOf];omega
        ·have hpos5:0<(F++growTo Q T i im x++cutB true (grow Q T i (x::im))).length:=by
          rw[hF0,hG0];cases hgr:grow Q T i (x::im)with
          |nil=>exact absurd hgr hG
          |cons a l=>simp[cutB]
         rw[HN5L.out]at hpos5;have hgt:decide ((N5:Int)>0)=true:=by simp only[zq85];omega
         have hgt2:decide (0<N5)=true:=by simp only[zq85];omega
         have HP5:=hid hpos5;have HGG:=hid hG;have HG0:=hid hG0;clear hpos5 hG hF0 hG0;go_wp2_with fail;refine zq12 (v:=.tuple #[]) (by simp[results,Tryz.results66,go_sem]) rfl ⟨rfl,ims5,.slice a5 (F++growTo Q T i im x++cutB true (grow Q T i (x::im))).length c5,?_,by rw[←zq66,HD5.out];rfl,HN5.out,HC5.out⟩;have h:=HI5.out;rw[HDS.out]at h;have e:cutB true (grow Q T (i+1) im)=growTo Q T i im x++cutB true (grow Q T i (x::im)):=by
          obtain⟨r,hr⟩:=growTo_pre Q T i im (show x+1≤sz Q by omega);rw[←growTo_end,hr,growTo_yes HOK.out,HG0.out,List.nil_append,List.nil_append];cases hgr:grow Q T i (x::im)with
          |nil=>exact absurd hgr HGG.out
          |cons a l=>simp[cutB]
         rw[e,←zq74];exact h
     ·have HFF:=hid hfit;clear hfit;obtain⟨ims',vF',hI,hnb,hdr,hin',hch⟩:=hR.out;have HI:=hid hI;have HDR:=hid hdr;have HIN':=hid hin';clear hI hnb hdr hin' hch;go_wp2_with (go_at_call 120;refine(HFIT.out wr ims' x HI.out.isoS hlt HIN'.out).mono ?_;rintro e w1 ⟨r,rfl,hr,hb1⟩;obtain rfl:=(Bool.eq_false_iff.2 (fun hh=>HFF.out (by have:=hr.1 hh;rwa[HDR.out]at this)));replace hb1:=hid hb1;clear hr);go_roundw;case rel=>exact⟨x+1,by omega,by go_num,hid (hR.out.no HAA.out.1 (fun hh=>HFF.out (by have:=hh.2;rwa[HGD.out]at this)) hb1.out)⟩
      case measure=>simp[intOf];omega
   ·obtain rfl:x=sz Q:=by omega
    have hd:decide ((sz Q:Int)<(sz Q:Int))=false:=by simp
    go_wp2_with fail;go_end0;obtain⟨ims',vF',h1,h2,h3,h4,h5⟩:=hR.out;refine⟨rfl,ims',vF',?_,h3,h4,h5⟩;rw[growTo_end]at h1 h2;cases b with
    |false=>exact h1
    |true=>have e:=h2 rfl;rw[e]at h1 ⊢; exact h1
end Go.Proofs.YtlmlamcoeegkbaaGreat.ImplX
namespace Go.Proofs
open Go.Shelf
def Tryz.srt_ren:Go.Shelf.Ren:=⟨fun|6=>67|15=>123|14=>122|28=>174|29=>175|20=>166|21=>167|22=>168|23=>169|24=>170|25=>171|26=>172|27=>173|46=>197|47=>198|48=>199|49=>200|50=>201|57=>223|n=>n,fun|22=>59|24=>91|25=>108|3=>3|39=>84|0=>0|53=>201|55=>47|4=>4|46=>195|45=>194|50=>121|5=>5|9=>9|66=>219|70=>223|76=>241|77=>242|n=>n,fun|n=>n⟩
theorem Tryz.srt:Go.Proofs.SlLaysF.n6 Tryz.prog Tryz.srt_ren:={
 mixed:=by kernel_rfl
 f6:=⟨Tryz.f67.name,by decide,Tryz.func67.trans (congrArg some (by kernel_rfl))⟩
 f14:=⟨Tryz.f122.name,by decide,Tryz.func122.trans (congrArg some (by kernel_rfl))⟩
 f15:=Tryz.func123.trans (congrArg some (by kernel_rfl))
 f20:=⟨Tryz.f166.name,by decide,Tryz.func166.trans (congrArg some (by kernel_rfl))⟩
 f21:=⟨Tryz.f167.name,by decide,Tryz.func167.trans (congrArg some (by kernel_rfl))⟩
 f22:=⟨Tryz.f168.name,by decide,Tryz.func168.trans (congrArg some (by kernel_rfl))⟩
 f23:=⟨Tryz.f169.name,by decide,Tryz.func169.trans (congrArg some (by kernel_rfl))⟩
 f24:=⟨Tryz.f170.name,by decide,Tryz.func170.trans (congrArg some (by kernel_rfl))⟩
 f25:=⟨Tryz.f171.name,by decide,Tryz.func171.trans (congrArg some (by kernel_rfl))⟩
 f26:=⟨Tryz.f172.name,by decide,Tryz.func172.trans (congrArg some (by kernel_rfl))⟩
 f27:=⟨Tryz.f173.name,by decide,Tryz.func173.trans (congrArg some (by kernel_rfl))⟩
 f28:=Tryz.func174.trans (congrArg some (by kernel_rfl))
 f29:=Tryz.func175.trans (congrArg some (by kernel_rfl))
 f46:=⟨Tryz.f197.name,by decide,Tryz.func197.trans (congrArg some (by kernel_rfl))⟩
 f47:=Tryz.func198.trans (congrArg some (by kernel_rfl))
 f48:=Tryz.func199.trans (congrArg some (by kernel_rfl))
 f49:=⟨Tryz.f200.name,by decide,Tryz.func200.trans (congrArg some (by kernel_rfl))⟩
 f50:=⟨Tryz.f201.name,by decide,Tryz.func201.trans (congrArg some (by kernel_rfl))⟩
 f57:=⟨Tryz.f223.name,by decide,Tryz.func223.trans (congrArg some (by kernel_rfl))⟩
 t0:=Tryz.underlying0
 a0:=Tryz.isAgg0
 z0:=Tryz.sizeOf0
 v0:=Tryz.zeroValue0
 t3:=Tryz.underlying3
 a3:=Tryz.isAgg3
 z3:=Tryz.sizeOf3
 v3:=Tryz.zeroValue3
 t4:=Tryz.underlying4
 a4:=Tryz.isAgg4
 z4:=Tryz.sizeOf4
 v4:=Tryz.zeroValue4
 t5:=Tryz.underlying5
 a5:=Tryz.isAgg5
 z5:=Tryz.sizeOf5
 v5:=Tryz.zeroValue5
 t9:=Tryz.underlying9
 a9:=Tryz.isAgg9
 z9:=Tryz.sizeOf9
 v9:=Tryz.zeroValue9
 t22:=Tryz.underlying59
 a22:=Tryz.isAgg59
 z22:=Tryz.sizeOf59
 v22:=Tryz.zeroValue59
 a24:=Tryz.isAgg91
 z24:=Tryz.sizeOf91
 t25:=Tryz.underlying108
 a25:=Tryz.isAgg108
 z25:=Tryz.sizeOf108
 v25:=Tryz.zeroValue108
 t39:=Tryz.underlying84
 a39:=Tryz.isAgg84
 z39:=Tryz.sizeOf84
 v39:=Tryz.zeroValue84
 t45:=Tryz.underlying194
 a45:=Tryz.isAgg194
 z45:=Tryz.sizeOf194
 v45:=Tryz.zeroValue194
 t46:=Tryz.underlying195
 a46:=Tryz.isAgg195
 z46:=Tryz.sizeOf195
 v46:=Tryz.zeroValue195
 t50:=Tryz.underlying121
 a50:=Tryz.isAgg121
 z50:=Tryz.sizeOf121
 v50:=Tryz.zeroValue121
 t53:=Tryz.underlying201
 a53:=Tryz.isAgg201
 z53:=Tryz.sizeOf201
 v53:=Tryz.zeroValue201
 t55:=Tryz.underlying47
 a55:=Tryz.isAgg47
 z55:=Tryz.sizeOf47
 v55:=Tryz.zeroValue47
 t66:=Tryz.underlying219
 a66:=Tryz.isAgg219
 z66:=Tryz.sizeOf219
 v66:=Tryz.zeroValue219
 t70:=Tryz.underlying223
 a70:=Tryz.isAgg223
 z70:=Tryz.sizeOf223
 v70:=Tryz.zeroValue223
 t76:=Tryz.underlying241
 a76:=Tryz.isAgg241
 z76:=Tryz.sizeOf241
 v76:=Tryz.zeroValue241
 t77:=Tryz.underlying242
 a77:=Tryz.isAgg242
 z77:=Tryz.sizeOf242
 v77:=Tryz.zeroValue242 }
end Go.Proofs
namespace Go.Proofs.YtlmlamcoeegkbaaGreat.Cmp
open Go.RowKit Go.Proofs.YtlmlamcoeegkbaaGreat Tow
def cmpN (x y:Nat):Int:=if x<y then -1 else if y<x then 1 else 0
def cmpL:List Nat→List Nat→Int
 |a::x,b::y=>if a<b then -1 else if b<a then 1 else cmpL x y
 |_,_=>0
theorem nan_any (x:Nat)(w:World):Calls Tryz.prog 176 #[.int .i64 (x:Int)] w fun e w'=>e= .returned (.bool false)∧w=w':=by
 go_enter Tryz.func176,Tryz.ntmps176;go_wp2_with fail;go_ret;exact⟨by simp,rfl⟩
theorem cmp_any (x y:Nat)(w:World):Calls Tryz.prog 124 #[.int .i64 (x:Int),.int .i64 (y:Int)] w fun e w'=>e= .returned (.int .i64 (cmpN x y))∧w=w':=by
 rcases zq123 x y with h|h|h
 ·have h1:decide ((x:Int)<(y:Int))=true:=by simp;omega
  have HC:=hid (show cmpN x y= -1 by simp[cmpN,h]);go_enter Tryz.func124,Tryz.ntmps124;go_wp2_with (go_at_call 176;refine(nan_any _ _).mono ?_;rintro e w' ⟨rfl,rfl⟩);go_ret;exact⟨by rw[HC.out];rfl,rfl⟩
 ·subst h;have h1:decide ((x:Int)<(x:Int))=false:=by simp
  have HC:=hid (show cmpN x x=0 by simp[cmpN]);go_enter Tryz.func124,Tryz.ntmps124;go_wp2_with (go_at_call 176;refine(nan_any _ _).mono ?_;rintro e w' ⟨rfl,rfl⟩);go_ret;exact⟨by rw[HC.out];rfl,rfl⟩
 ·have h1:decide ((x:Int)<(y:Int))=false:=by simp;omega
  have h2:decide ((x:Int)>(y:Int))=true:=by simp;omega
  have HC:=hid (show cmpN x y=1 by simp[cmpN,h];omega);go_enter Tryz.func124,Tryz.ntmps124;go_wp2_with (go_at_call 176;refine(nan_any _ _).mono ?_;rintro e w' ⟨rfl,rfl⟩);go_ret;exact⟨by rw[HC.out];rfl,rfl⟩
theorem cmpL_drop {x y:List Nat}{k a b:Nat}(ha:x[k]?=some a)(hb:y[k]?=some b):cmpL (x.drop k) (y.drop k)=if a<b then -1 else if b<a then 1 else cmpL (x.drop (k+1)) (y.drop (k+1)):=by
 have h1:=zq2.1 ha;have h2:=zq2.1 hb;rw[zq32 h1.1,zq32 h2.1,h1.2,h2.2];rfl
theorem compare_any (w:World)(vx vy:Value)(x y:List Nat)(hx:SlI (fun _=>True) w vx (ints x))(hy:SlI (fun _=>True) w vy (ints y))(hl:x.length=y.length):
  Calls Tryz.prog 68 #[vx,vy] w fun e w'=>e= .returned (.int .i64 (cmpL x y))∧w=w':=by
 have hm:(x.length:Int)≤9223372036854775807:=by
  obtain⟨_,_,_,h1,h2,_⟩:=hx;rw[ints_length]at h1;unfold maxLen at h2;omega
 obtain⟨aX,cX,rfl,hcx⟩:=hx.open;obtain⟨aY,cY,rfl,hcy⟩:=hy.open;rw[←hl]at hcy hy ⊢;have HX:=hid hx;have HY:=hid hy;have HL:=hid hl;clear hx hy hl;go_enter Tryz.func68,Tryz.ntmps68;go_wp2_with fail;go_loop [11] (fun iv=>∃k:Nat,k≤x.length∧iv= .int .i64 (k:Int)∧Hid (cmpL (x.drop k) (y.drop k)=cmpL x y)) (fun iv=>x.length-(intOf iv).toNat);case atStart=>exact⟨0,zq4 _,rfl,hid rfl⟩
 case round=>
  obtain⟨k,hk,rfl,hR⟩:=hrel;by_cases hlt:k<x.length
  ·obtain⟨a,ha⟩:∃a,x[k]?=some a:=⟨_,zq0 hlt⟩;obtain⟨c,hc⟩:∃c,y[k]?=some c:=⟨_,zq0 (by rw[←HL.out];exact hlt)⟩;obtain⟨bX,oX,rfl,_,_,hcX⟩:=HX.out.at ha;obtain⟨bY,oY,rfl,_,_,hcY⟩:=HY.out.at hc;have HD:=hid ((cmpL_drop ha hc).symm.trans hR.out);have hd:decide ((k:Int)<(x.length:Int))=true:=by simp;omega
   have hd2:decide ((k:Int)≥(x.length:Int))=false:=by simp;omega
   clear ha hc;go_wp2_with fail;refine(cmp_any _ _ _).mono ?_;rintro e w' ⟨rfl,rfl⟩;rcases zq123 a c with h|h|h
   ·have HC:=hid (show cmpN a c= -1 by simp[cmpN,h]);have HR:=hid (show -1=cmpL x y by have:=HD.out;rwa[zq57 h]at this);rw[HC.out];clear h;go_wp2_with fail;go_ret;exact⟨by rw[←HR.out];rfl,rfl⟩
   ·subst h;have HC:=hid (show cmpN a a=0 by simp[cmpN]);have HR:=hid (show cmpL (x.drop (k+1)) (y.drop (k+1))=cmpL x y by have:=HD.out;rwa[zq37 (zq105 _),zq37 (zq105 _)]at this);rw[HC.out];go_wp2_with fail;go_round;case rel=>exact⟨k+1,by omega,by go_num,HR⟩
    case measure=>simp[intOf];omega
   ·have HC:=hid (show cmpN a c=1 by simp[cmpN,h];omega);have HR:=hid (show 1=cmpL x y by have:=HD.out;rwa[zq37 (by omega),zq57 h]at this);rw[HC.out];clear h;go_wp2_with fail;go_ret;exact⟨by rw[←HR.out];rfl,rfl⟩
  ·obtain rfl:k=x.length:=by omega
   have hd:decide ((x.length:Int)<(x.length:Int))=false:=by simp
   have HR:=hid (show 0=cmpL x y by have:=hR.out;rw[zq104]at this;simpa[cmpL]using this);go_wp2_with fail;go_ret;exact⟨by rw[←HR.out];rfl,rfl⟩
end Go.Proofs.YtlmlamcoeegkbaaGreat.Cmp
namespace Go.Proofs.YtlmlamcoeegkbaaGreat.Srt
open Go.RowKit Go.Lib Go.Sort Go.Proofs.YtlmlamcoeegkbaaGreat Tow Cmp
theorem cmpL_cons (a b:Nat)(x y:List Nat):cmpL (a::x) (b::y)=if a<b then -1 else if b<a then 1 else cmpL x y:=rfl
theorem cmpL_self:∀x:List Nat,cmpL x x=0
 |[]=>rfl
 |a::x=>by rw[cmpL_cons,zq37 (zq105 _),zq37 (zq105 _),cmpL_self x]
theorem cmpL_lt_iff (a b:Nat)(x y:List Nat):cmpL (a::x) (b::y)<0↔a<b∨(a=b∧cmpL x y<0):=by
 rw[cmpL_cons];by_cases h1:a<b
 ·simp[h1]
 ·by_cases h2:b<a
  ·rw[zq37 h1,zq57 h2];constructor
   ·intro h;omega
   ·rintro(h|⟨h,_⟩)<;>omega
  ·obtain rfl:a=b:=by omega
   simp
theorem cmpL_trans:∀x y z:List Nat,x.length=y.length→y.length=z.length→cmpL x y<0→cmpL y z<0→cmpL x z<0
 |[],y,z,h1,h2,h3,_=>by
  cases y with
  |nil=>exact absurd h3 (by simp[cmpL])
  |cons _ _=>simp at h1
 |a::x,[],z,h1,h2,h3,_=>by simp at h1
 |a::x,b::y,[],h1,h2,h3,_=>by simp at h2
 |a::x,b::y,c::z,h1,h2,h3,h4=>by
  rw[cmpL_lt_iff]at *;have ih:=cmpL_trans x y z (by simpa using h1) (by simpa using h2);rcases h3 with h3|⟨rfl,h3⟩
  ·rcases h4 with h4|⟨rfl,h4⟩
   ·exact .inl (by omega)
   ·exact .inl h3
  ·rcases h4 with h4|⟨rfl,h4⟩
   ·exact .inl h4
   ·exact .inr ⟨rfl,ih h3 h4⟩
theorem cmpL_ntrans:∀x y z:List Nat,x.length=y.length→y.length=z.length→¬cmpL x y<0→¬cmpL y z<0→¬cmpL x z<0
 |[],[],[],_,_,_,_=>by simp[cmpL]
 |[],_::_,_,h1,_,_,_=>by simp at h1
 |_::_,[],_,h1,_,_,_=>by simp at h1
 |[],[],_::_,_,h2,_,_=>by simp at h2
 |a::x,b::y,[],h1,h2,h3,_=>by simp at h2
 |a::x,b::y,c::z,h1,h2,h3,h4=>by
  rw[cmpL_lt_iff]at *;have ih:=cmpL_ntrans x y z (by simpa using h1) (by simpa using h2);rintro(h|⟨rfl,h⟩)
  ·rcases zq123 a b with h5|h5|h5
   ·exact h3 (.inl h5)
   ·subst h5;exact h4 (.inl h)
   ·exact h4 (.inl (by omega))
  ·rcases zq123 a b with h5|h5|h5
   ·exact h3 (.inl h5)
   ·subst h5;exact ih (fun h6=>h3 (.inr ⟨rfl,h6⟩)) (fun h6=>h4 (.inr ⟨rfl,h6⟩)) h
   ·exact h4 (.inl h5)
abbrev Rw (B n:Nat)(w:World):Type:={ p:Value×List Nat // RowOk 3 B w p.1 p.2∧p.2.length=n }
def encR {B n:Nat}{w:World}(x:Rw B n w):Value:=x.1.1
def cfR {B n:Nat}{w:World}(x y:Rw B n w):Int:=cmpL x.1.2 y.1.2
theorem enc_one (B n:Nat)(w:World):OneCell (encR (B:=B) (n:=n) (w:=w)):=by
 rintro⟨⟨u,r⟩,⟨⟨g,c,h⟩,_⟩,_⟩;show u.oneCell'=true;simp only at h;rw[h];rfl
theorem swo (B n:Nat)(w:World):SWO (ltOf (cfR (B:=B) (n:=n) (w:=w))) where
 irrefl x:=by simp[ltOf,cfR,cmpL_self]
 trans x y z h1 h2:=by
  exact zq83 (cmpL_trans _ _ _ (x.2.2.trans y.2.2.symm) (y.2.2.trans z.2.2.symm) (zq136 h1) (zq136 h2))
 ntrans x y z h1 h2:=by
  exact zq67 (cmpL_ntrans _ _ _ (x.2.2.trans y.2.2.symm) (y.2.2.trans z.2.2.symm) (of_decide_eq_false h1) (of_decide_eq_false h2))
section
variable {α:Type} [Inhabited α]
theorem heap_srt {w:World}{enc:α→Value}{g n:Nat}{os:Array Obj}{cur:Array Value}{e:TypeId}{fr:Nat×Nat}(d:Array α)(hb:w.heap[g]?=some (.cells cur e fr)):
  (sortWorld enc w g 0 n d os).heap[g]?=some (.cells (putCells enc 0 d cur) e fr):=by
 have hg:g<w.heap.size:=(zq10.1 hb).1;unfold sortWorld;rw[heap_grow_old _ _ (by simpa using hg)];simp[putRow,mapBlock,Sort.ahead,Array.getElem?_modify,hb,onCells]
theorem keep_srt {w:World}{enc:α→Value}{g n:Nat}{os:Array Obj}(d:Array α):Keep (fun k=>k≠g) w (sortWorld enc w g 0 n d os):=by
 unfold sortWorld;refine⟨by simp,fun k hne hk=>?_⟩;rw[heap_grow_old _ _ (by simpa using hk)];have:g≠k:=fun e=>hne e.symm;simp[putRow,mapBlock,Sort.ahead,Array.getElem?_modify,this]
theorem take_srt (enc:α→Value)(cur:Array Value)(d:Array α)(h:d.size≤cur.size):(putCells enc 0 d cur).toList.take d.size=d.toList.map enc:=by
 apply zq99;intro j;by_cases hj:j<d.size
 ·rw[zq138 hj,zq118];simp[putCells,hj,show j<cur.size by omega]
 ·rw[List.getElem?_take_eq_none (by omega),zq51 (by simp;omega)]
theorem holds_srt {w:World}{enc:α→Value}{g:Nat}{cur:Array Value}{e:TypeId}{d:Array α}(hb:w.heap[g]?=some (.cells cur e (0,0)))(ht:cur.toList.take d.size=d.toList.map enc):Holds enc w g 0 d:=by
 intro j hj;refine⟨?_,by simp[World.frozen?,hb]⟩;have h1:(cur.toList.take d.size)[j]?=(d.toList.map enc)[j]?:=by rw[ht]
 rw[zq138 hj]at h1;simp only[World.cell?,hb,zq39];simp only[Option.isSome_none,Bool.false_eq_true,if_false];rw[←zq118,h1];simp[hj]
end
def Asc (l:List (List Nat)):Prop:=l.Pairwise fun a b=>¬cmpL b a<0
theorem row_ne {B g:Nat}{w:World}{cur:Array Value}(hg:w.heap[g]?=some (.cells cur 91 (0,0))){u:Value}{r:List Nat}(h1:RowOk 3 B w u r):SlI (fun k=>k≠g) w u (ints r):=by
 have h3:=h1.sl;obtain⟨⟨gu,c,rfl⟩,h4⟩:=h1;rcases h4.2 with⟨h5,_⟩|⟨g',cap,cur',h5,_,h6,_⟩
 ·cases h5
 ·cases h5;obtain⟨ao,c',e1,e2,e3,e0,e4⟩:=h3;refine⟨ao,c',e1,e2,e3,e0,fun i x hx=>?_⟩;obtain⟨b,o,f1,f2,f3,f4⟩:=e4 i x hx;refine⟨b,o,f1,?_,f3,f4⟩;subst f1;have e5:gu=b:=by
   have:=zq38 Value.ownBlock e1;simpa[Value.ownBlock]using this
  rintro rfl;rw[e5,hg]at h6;simp at h6
theorem cmpReads (B n:Nat)(w:World)(hn:n≤1000)(g size:Nat)(cur:Array Value)(hg:w.heap[g]?=some (.cells cur 91 (0,0)))(ax:Rw B n w):
  letI:Inhabited (Rw B n w):=⟨ax⟩
  CmpReads Tryz.prog 68 #[] (encR (B:=B) (n:=n) (w:=w)) cfR g 0 size w:=by
 letI:Inhabited (Rw B n w):=⟨ax⟩
 intro m os dk hs x y;have hk:=keep_srt (w:=w) (enc:=encR (B:=B) (n:=n) (w:=w)) (g:=g) (n:=m) (os:=os) dk;have hr:∀z:Rw B n w,SlI (fun _=>True) (sortWorld (encR (B:=B) (n:=n) (w:=w)) w g 0 m dk os) z.1.1 (ints z.1.2):=fun z=>by
  exact SlI.mono (SlI.keep (S:=fun k=>k≠g) (row_ne hg z.2.1) hk) (fun _ _=>trivial)
 refine(compare_any _ _ _ _ _ (hr x) (hr y) (x.2.2.trans y.2.2.symm)).mono ?_;rintro e w' ⟨rfl,rfl⟩;exact⟨rfl,0,rfl⟩
def SortR (B:Nat)(v:Value)(F:List (List Nat))(w:World)(e:Ending)(w':World):Prop:=
 e= .returned (.tuple #[])∧∃F',F'.Perm F∧Asc F'∧Own2 91 3 B w' v F'∧Keep (fun k=>some k≠v.ownBlock) w w'∧Below (min B w.heap.size) w w'
theorem sort_any (B n:Nat)(hn:n≤1000)(w:World)(v:Value)(F:List (List Nat))(hF:Own2 91 3 B w v F)(hbig:F.length≤1000000000)(hl:∀r∈F,r.length=n):
  Calls Tryz.prog 67 #[v,.func (.func 68) #[] #[]] w (SortR B v F w):=by
 obtain⟨us,h1,h2,h4⟩:=hF;rcases h1.2 with⟨rfl,h5⟩|⟨g,cap,cur,rfl,hB,hg,hc1,hc2,hc3,hc4⟩
 ·obtain rfl:F=[]:=zq21 h5;have hc:=AnyF.slices_SortFunc_none ({ Tryz.srt with }:SlLaysF0.n6 _ _) none 0 (.func (.func 68) #[] #[]) w;refine hc.mono ?_;rintro e w' ⟨rfl,rfl⟩;exact⟨rfl,[],List.Perm.refl _,List.Pairwise.nil,Own2.nil _ _ _ _,Keep.refl _ _,zq3 _ _⟩
 ·cases F with
  |nil=>
   have hc:=AnyF.slices_SortFunc_none ({ Tryz.srt with }:SlLaysF0.n6 _ _) (some ⟨g,0,none⟩) cap (.func (.func 68) #[] #[]) w;refine hc.mono ?_;rintro e w' ⟨rfl,rfl⟩;exact⟨rfl,[],List.Perm.refl _,List.Pairwise.nil,⟨us,h1,h2,h4⟩,Keep.refl _ _,zq3 _ _⟩
  |cons r0 F0=>
   generalize hFe:r0::F0=F at *;have hpos:0<F.length:=by rw[←hFe];simp
   have hget:∀i:Fin F.length,∃u,us[i.1]?=some u∧RowOk 3 B w u F[i.1]∧(F[i.1]).length=n:=fun i=>by
    obtain⟨u,hu⟩:∃u,us[i.1]?=some u:=⟨_,zq0 (by rw[h2];exact i.2)⟩;exact⟨u,hu,h4 i.1 _ u (zq0 i.2) hu,hl _ (zq76 i.2)⟩
   let dd:Fin F.length→Rw B n w:=fun i=>⟨(us[i.1]'(by rw[h2];exact i.2),F[i.1]),by
    obtain⟨u,hu,h5,h6⟩:=hget i;obtain⟨hi,e⟩:=zq2.1 hu;rw[e];exact⟨h5,h6⟩⟩
   letI:Inhabited (Rw B n w):=⟨dd ⟨0,hpos⟩⟩
   let d:Array (Rw B n w):=Array.ofFn dd
   have hds:d.size=F.length:=by simp[d]
   have hdu:d.toList.map encR=us:=by
    apply zq133
    ·simp[d,h2]
    ·intro i q1 q2;simp[d,dd,encR]
   have hdF:d.toList.map (fun x=>x.1.2)=F:=by
    apply zq133
    ·simp[d]
    ·intro i q1 q2;simp[d,dd]
   have hH:Holds (encR (B:=B) (n:=n) (w:=w)) w g 0 d:=holds_srt hg (by rw[hds,hdu,←hc4,zq100]);have hgl:g<w.heap.size:=(zq10.1 hg).1;have eg:∀args w,(callFunc 68 args).run Tryz.prog w= .ok (.enter 68 args) w:=enters_of Tryz.func68 (by kernel_rfl) rfl;have hc:=Any.slices_SortFunc Tryz.srt (encR (B:=B) (n:=n) (w:=w)) (enc_one B n w) cfR (swo B n w) 68 #[] g 0 cap d w eg (cmpReads B n w hn g d.size cur hg (dd ⟨0,hpos⟩)).lays hH hgl (by rw[hds];omega);rw[hds]at hc;refine hc.mono ?_;rintro e w' ⟨rfl,d',m,os,⟨p1,p2,p3⟩,hs,rfl⟩;have hd's:d'.size=F.length:=by rw[p1,hds]
   have hperm:d'.toList.Perm d.toList:=by
    have e1:d'.extract 0 F.length=d':=by rw[←hd's];exact Array.extract_size
    have e2:d.extract 0 F.length=d:=by rw[←hds];exact Array.extract_size
    rwa[e1,e2]at p3
   have hk:=keep_srt (w:=w) (enc:=encR (B:=B) (n:=n) (w:=w)) (g:=g) (n:=m) (os:=os) d';have hlen':(d'.toList.map fun x=>x.1.2).length=F.length:=by simp[hd's]
   refine⟨rfl,d'.toList.map (fun x=>x.1.2),?_,?_,⟨d'.toList.map encR,?_,by simp,fun i r u hr hu=>?_⟩,hk.mono (fun k h e=>h (by rw[e];rfl)),⟨rfl,rfl,rfl,hk.size,fun k hk'=>hk.block k (by omega) (by omega)⟩⟩
   ·exact(hperm.map _).trans (by rw[hdF])
   ·refine List.pairwise_iff_getElem.2 fun i j hi hj hij=>?_;have hi':i<d'.size:=by simpa using hi
    have hj':j<d'.size:=by simpa using hj
    have:=hs i j (zq4 _) hij (by omega);rw[getElem!_pos d' j hj',getElem!_pos d' i hi']at this;simp only[zq107,Array.getElem_toList];exact of_decide_eq_false this
   ·rw[hlen'];refine⟨by simp[hd's],.inr ⟨g,cap,_,rfl,hB,heap_srt d' hg,hc1,hc2,by simp[putCells,hc3],?_⟩⟩;rw[zq100,←hd's];exact take_srt _ cur d' (by rw[hd's,hc3];omega)
   ·simp only[zq20,zq46]at hr hu;obtain⟨x,hx,rfl⟩:=hr;obtain⟨y,hy,rfl⟩:=hu;rw[hx]at hy;cases hy;have h5:=x.2.1;refine⟨h5.1,?_⟩;have h6:=h5.2;refine⟨h6.1,?_⟩;rcases h6.2 with h7|⟨g',cap',cur',e1,e2,e3,e4⟩
    ·exact .inl h7
    ·refine .inr ⟨g',cap',cur',e1,e2,?_,e4⟩;have hne:g'≠g:=by
      rintro rfl;rw[hg]at e3;simp at e3
     rw[hk.block g' hne (zq10.1 e3).1];exact e3
end Go.Proofs.YtlmlamcoeegkbaaGreat.Srt
