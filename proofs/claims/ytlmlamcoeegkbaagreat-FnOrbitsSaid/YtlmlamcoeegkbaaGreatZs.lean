import Derived.Test.YtlmlamcoeegkbaaGreatZ0
import Derived.Test.YtlmlamcoeegkbaaGreatZr
import Derived.Deep.AppendLies
/-
  Lemmas for the law FnOrbits, in short spelling.
-/
open Go.Lib (hid)
set_option linter.unusedVariables false
set_option linter.unusedSimpArgs false
set_option maxRecDepth 100000
set_option maxHeartbeats 40000000
namespace Go.Proofs.YtlmlamcoeegkbaaGreat.SpecP
open Go.RowKit Go.Proofs.YtlmlamcoeegkbaaGreat Tow Gen GenC Tab SpecA SpecB SpecD SpecE SpecI SpecJ SpecK SpecL SpecM SpecO
theorem msr {gk a l:Nat}(h:gk=a+(l+1)):a+l<gk:=by omega
theorem msr2 {gk a n l c:Nat}(h:gk=(a+1)*(n+3)+(l+1))(hc:c≤n):a*(n+3)+(l+2+c)<gk:=by rw[h,Nat.succ_mul];omega
def emp:List (List Nat)→Nat
 |[]=>0
 |r::tl=>(if r=[]then 1 else 0)+emp tl
theorem emp_set:∀{tl:List (List Nat)} {d:Nat} {y:List Nat},tl[d]?=some []→y≠[]→emp (tl.set d y)+1=emp tl
 |[],d,y,h,_=>by simp at h
 |r::tl,0,y,h,hy=>by
  simp at h;subst h;simp[emp,hy];omega
 |r::tl,d+1,y,h,hy=>by
  have:=emp_set (tl:=tl) (d:=d) (by simpa using h) hy;simp only[zq26,emp];omega
noncomputable def cm (T:Tw)(tl:List (List Nat))(d:Nat)(y:List Nat):Nat→List (List Nat)
 |0=>[]
 |e+1=>cm T tl d y e++(if e=d then []else match tabF tl e with
  |none=>[]
  |some z=>[com (mul T) (vinv T) y z])
theorem cm_length (T:Tw)(tl:List (List Nat))(d:Nat)(y:List Nat):∀e,(cm T tl d y e).length≤e
 |0=>zq1 _
 |e+1=>by
  have:=cm_length T tl d y e;rw[cm,zq31];split
  ·simp;omega
  ·split
   ·simp;omega
   ·simp;omega
theorem cm_mem {T:Tw}{tl:List (List Nat)}{d:Nat}{y:List Nat}:∀{e j:Nat} {z:List Nat},j<e→j≠d→tabF tl j=some z→com (mul T) (vinv T) y z∈cm T tl d y e
 |0,j,z,h,_,_=>absurd h (zq33 _)
 |e+1,j,z,h,hd,hz=>by
  rw[cm];rcases zq30.1 h with h1|h1
  ·exact zq121 _ (cm_mem h1 hd hz)
  ·subst h1;rw[zq37 hd,hz];exact zq117 _ zq24
theorem cm_inv {T:Tw}{tl:List (List Nat)}{d:Nat}{y w:List Nat}:∀{e:Nat},w∈cm T tl d y e→∃j z,j≠d∧tabF tl j=some z∧w=com (mul T) (vinv T) y z
 |0,h=>by simp[cm]at h
 |e+1,h=>by
  rw[cm]at h;rcases zq68.1 h with h1|h1
  ·exact cm_inv h1
  ·by_cases hd:e=d
   ·rw[zq57 hd]at h1;simp at h1
   ·rw[zq37 hd]at h1;cases hz:tabF tl e with
    |none=>rw[hz]at h1;simp at h1
    |some z=>
     rw[hz]at h1;simp only[zq54]at h1;exact⟨e,z,hd,hz,h1⟩
def RowN (B:Nat)(w:World)(u:Value)(r:List Nat):Prop:=(r=[]∧u= .slice none 0 0)∨RowOk 2 B w u r
theorem RowN.sl {B:Nat}{w:World}{u:Value}{r:List Nat}(h:RowN B w u r):SlI Any w u (ints r):=by
 rcases h with⟨rfl,rfl⟩|h
 ·exact SlI_nil _ _
 ·exact h.sl.mono (fun _ _=>trivial)
theorem RowN.keep {B:Nat}{w w':World}{u:Value}{r:List Nat}(h:RowN B w u r)(hk:Keep (fun k=>B≤k) w w'):RowN B w' u r:=by
 rcases h with h|h
 ·exact .inl h
 ·exact .inr (h.keep hk (fun _ h=>h))
structure St (w W0 wr:World)(wv:Value)(tl rows:List (List Nat)):Prop where
 wk:Own2 24 2 (w.heap.size+2) wr wv rows
 tb:TabR (RowN (w.heap.size+2)) wr (w.heap.size+1) tl
 bl:Below (w.heap.size+1) W0 wr
 sz:w.heap.size+2≤wr.heap.size
theorem St.below {w W0 wr w':World}{wv:Value}{tl rows:List (List Nat)}(h:St w W0 wr wv tl rows)(hb:Below wr.heap.size wr w'):St w W0 w' wv tl rows:=
 ⟨h.wk.of_below hb,h.tb.keep (S:=Any) (Keep.of_below hb) trivial (fun _ _ hr=>hr.keep (Keep.of_below hb)),h.bl.trans (hb.mono (by have:=h.sz;omega)),zq11 h.sz hb.size⟩
theorem St.grow {w W0 wa w':World}{wv v' u:Value}{tl rows:List (List Nat)}{r:List Nat}{us:List Value}(h:St w W0 wa wv tl rows)
  (h1:wa.ownsRow (w.heap.size+2) 24 1 wv rows.length us) (h2:us.length=rows.length) (h4:∀(i:Nat) (r:List Nat) (u:Value),rows[i]?=some r→us[i]?=some u→RowOk 2 (w.heap.size+2) wa u r)
  (hu:RowOk 2 (w.heap.size+2) wa u r) (ho:w'.ownsRow (w.heap.size+2) 24 1 v' (rows.length+1) (us++[u])) (hg:wa.grownBy w' wv.ownBlock):St w W0 w' v' tl (rows++[r]):=by
 have hlow:∀k,wv.ownBlock=some k→w.heap.size+2≤k:=fun k hk=>(zq8 h1 k hk).1;have hk:Keep (fun k=>k<w.heap.size+2) wa w':=Keep.grown hg (fun k hk e=>by have:=hlow k e.symm;omega);have hbl:Below (w.heap.size+2) wa w':=zqB.grown hg h.sz hlow;refine⟨Own2.push (by decide) rfl h1 h2 h4 hu ho hg,h.tb.keep hk (by omega) (fun v r hr=>?_),h.bl.trans (hbl.mono (by omega)),zq11 h.sz hbl.size⟩;rcases hr with hr|hr
 ·exact .inl hr
 ·exact .inr ⟨hr.1,zq93 hr.2 hg (rows_apart hr.2 h1 (by decide))⟩
theorem St.put {w W0 wr:World}{wv u:Value}{tl rows:List (List Nat)}{y:List Nat}(h:St w W0 wr wv tl rows)(d:Nat)(hu:RowOk 2 (w.heap.size+2) wr u y):St w W0 (wr.setCell ⟨w.heap.size+1,d,none⟩ u) wv (tl.set d y) rows:=by
 have hk:Keep (fun k=>w.heap.size+2≤k) wr (wr.setCell ⟨w.heap.size+1,d,none⟩ u):=zqK.setCell (by simp) _;exact⟨h.wk.keep hk (fun _ h=>h),h.tb.set d (fun _ _ _ _=>trivial) (fun v r hr=>hr.keep hk) (.inr hu),h.bl.setCell (p:=⟨w.heap.size+1,d,none⟩) zqN _,by simpa using h.sz⟩
theorem St.pop {w W0 wr:World}{g c:Nat}{tl rows:List (List Nat)}{x:List Nat}(h:St w W0 wr (.slice (some ⟨g,0,none⟩) (rows++[x]).length c) tl (rows++[x])):St w W0 wr (.slice (some ⟨g,0,none⟩) rows.length c) tl rows:=
 ⟨Own2.pop h.wk,h.tb,h.bl,h.sz⟩
theorem row_grow {B B' n:Nat}{w w':World}{u v:Value}{r:List Nat}{us:List Value}(h:RowOk 2 B w u r)(h1:w.ownsRow B' 24 1 v n us)(hg:w.grownBy w' v.ownBlock):RowOk 2 B w' u r:=
 ⟨h.1,zq93 h.2 hg (rows_apart h.2 h1 (by decide))⟩
theorem rowOk_of {B:Nat}{w:World}{v:Value}{y:List Nat}(h:Own B w v (ints y))(hy:0<y.length):RowOk 2 B w v y:=by
 obtain⟨g,c,hv⟩:=h.form (by rw[ints_length];exact hy);rw[ints_length]at hv;unfold Own at h;rw[ints_length]at h;exact⟨⟨g,c,hv⟩,h⟩
abbrev INV (T:Tw)(im tl rows:List (List Nat)):Prop:=Inv (El T) (mul T) (Tow.one T) T.length (oF T) fF (vinv T) im (tabF tl) rows
def CloseR (T:Tw)(im:List (List Nat))(w:World)(e:Ending)(w':World):Prop:=
 ∃v tl dn,e= .returned v∧CLO T im tl∧dn.length=T.length∧FD T tl dn 0∧Sl2 Any w' v ((usF (tabF dn) T.length 0).map ints)∧Below w.heap.size w w'
theorem close_any (T:Tw)(hT:Wf T)(hs:Small T)(hg:Tow.Good T)(hp:Pr T)(hn0:0<T.length)(w:World)(vO vP vC vi:Value)(im:List (List Nat))(hP:ValP Any w vO vP vC (ofTw T))(hi2:Sl2 Any w vi (im.map ints))(him:∀x∈im,El T x)(hl:im.length≤6):
  Calls Tryz.prog 182 #[.agg #[vO,vP,vC],vi] w (CloseR T im w):=by
 obtain⟨i0,hi,hz0,hz1,hz2⟩:=zq41 infoR;obtain⟨aO,cO,aP,cP,aC,cC,rfl,rfl,rfl,hO1,hP1,hC1⟩:=hP.open;have HP:=hid hP;have HIM:=hid him;have HIL:=hid hi2;have HG:=hid (grp hT hg);have HSM:=hid hs;have HPR:=hid hp;have HF:=hid (fil hT hg);have HSTR:=hid (fun W vt vx tl x hP ht htl hx hE hr=>strip_any T hT hs hg W (.slice aO T.length cO) (.slice aP T.length cP) (.slice aC T.length cC) vt vx tl x hP ht htl hx hE hr);have HPW:=hid (fun W va a K hK hP ha hA=>pow_pos_any T hT hs hg W (.slice aO T.length cO) (.slice aP T.length cP) (.slice aC T.length cC) va a K hK hP ha hA);have HCM:=hid (fun W va vb a b hP ha hb hA hB=>comm_any T hT hs hg W (.slice aO T.length cO) (.slice aP T.length cP) (.slice aC T.length cC) va vb a b hP ha hb hA hB);have HFU:=hid (fun W vt tl hP ht htl hc=>full_any T hT hs hg hn0 W (.slice aO T.length cO) (.slice aP T.length cP) (.slice aC T.length cC) vt tl im hP ht htl hc);have HOW:=hid (fun W hv=>own2_any W vi im hv (by omega) (fun r hr=>by rw[El_length (him r hr)];have:=hs.1;omega));have hs6:=hs.1;have hmk:=mk23 T.length hs6;obtain⟨W0,hW0⟩:∃W0,W0=w.alloc (.cells #[.slice aO T.length cO,.slice aP T.length cP,.slice aC T.length cC] 28):=⟨_,rfl⟩;have hW0s:W0.heap.size=w.heap.size+1:=by rw[hW0];simp
 have HB0:=hid (show Below (w.heap.size+1) (w.alloc (.cells #[.slice aO T.length cO,.slice aP T.length cP,.slice aC T.length cC] 28)) W0 by rw[hW0];exact zq3 _ _);have HD0:=hid (show TabR (RowN (w.heap.size+2)) (W0.alloc (.cells (madeCells #[.slice none 0 0] T.length) 24)) (w.heap.size+1) (List.replicate T.length []) by
  have:=TabR.made (R:=RowN (w.heap.size+2)) W0 T.length (by unfold maxLen;omega) (.inl ⟨rfl,rfl⟩);rw[hW0s]at this;exact this)
 clear hP hi2 him hT hs hg hp;go_enter Tryz.func182,Tryz.ntmps182;go_upto_region 2 with fail;rw[←hW0];clear hW0;obtain⟨e0,_,_⟩:=box_cells HB0.out;go_wp2_with fail;refine(HOW.out _ (HIL.out.keep (Keep.trans (keep_boxed HB0.out Any) (zqK.alloc _)))).mono ?_;rintro e w1 ⟨v1,rfl,ho1,hb1⟩;have HS1:=hid (show St w W0 w1 v1 (List.replicate T.length []) im from by
  have hz:(W0.alloc (.cells (madeCells #[.slice none 0 0] T.length) 24)).heap.size=w.heap.size+2:=by simp;omega
  rw[hz]at ho1 hb1;exact⟨ho1,HD0.out.keep (S:=Any) (Keep.of_below (by rw[hz];exact hb1)) trivial (fun _ _ hr=>hr.keep (Keep.of_below (by rw[hz];exact hb1))),(zqB.alloc (by omega) _).trans (hb1.mono (by omega)),by have:=hb1.size;omega⟩)
 clear ho1 hb1 HD0 HOW HIL hmk e0;go_wp2_with fail;go_loopg [7] (T.length*(T.length+3)+im.length) (fun gk wv wr=>∃tl rows:List (List Nat),tl.length=T.length∧gk≤100∧gk=emp tl*(T.length+3)+rows.length∧Hid (INV T im tl rows)∧Hid (St w W0 wr wv tl rows));case atStart=>
  refine⟨List.replicate T.length [],im,by simp,by have:=Nat.mul_le_mul hs6 (show T.length+3≤9 by omega);omega,?_,hid (by unfold INV;rw[tabF_replicate];exact Inv.start HF.out HIM.out),HS1⟩;have:∀n,emp (List.replicate n [])=n:=fun n=>by
   induction n with
   |zero=>rfl
   |succ n ih=>rw[List.replicate_succ,emp,ih,zq57 rfl];omega
  rw[this]
 case round=>
  obtain⟨tl,rows,htl,hg100,hgk,hINV,hST⟩:=hrel;have HST:=hid hST.out;have hBx:=HB0.out.trans hST.out.bl;have hkx:=keep_boxed hBx Any;obtain⟨e0,e1,e2⟩:=box_cells hBx;have hrl:rows.length≤100:=by omega
  have HPr:=hid (HP.out.keep hkx);have hww:w.heap.size<wr.heap.size:=by have:=HST.out.sz;omega
  have HTS:=hid (show Sl2 Any wr (.slice (some ⟨w.heap.size+1,0,none⟩) T.length T.length) (tl.map ints) by
   have:=TabR.sl2 HST.out.tb (fun _ _ h=>h.sl);rwa[htl]at this)
  by_cases hr0:rows=[]
  ·subst hr0;obtain⟨aW,cW,hwv,_,_⟩:=HST.out.wk.form;simp only[List.length_nil]at hwv;subst hwv;have hd0:decide (((0:Nat):Int)>0)=false:=by simp
   have HCLO:=hid (hINV.out.clo HF.out HIM.out);have HBW:=hid (below_unboxed hBx);clear hBx hkx hST hgk;go_wp2_with fail;refine(HFU.out _ _ tl HPr.out HTS.out htl HCLO.out).mono ?_;rintro e w2 ⟨v2,dn,rfl,h1,h2,h3,h4⟩;have HR:=hid (show CloseR T im w (.returned v2) w2 from⟨v2,tl,dn,rfl,HCLO.out,h1,h2,h3,HBW.out.trans (h4.mono HBW.out.size)⟩);clear h1 h2 h3 h4;go_wp2_with fail;go_ret;exact HR.out
  ·obtain⟨rs,x,rfl⟩:∃rs x,rows=rs++[x]:=⟨_,_,(List.dropLast_concat_getLast hr0).symm⟩;obtain⟨gw,cw,u,hwv,hgwB,hgwl,hcu,hru⟩:=HST.out.wk.at (i:=rs.length) (r:=x) (by simp);obtain⟨lr,hlr⟩:∃lr,rs.length=lr:=⟨_,rfl⟩;obtain⟨m,hm⟩:∃m,(rs++[x]).length=m:=⟨_,rfl⟩;have hml:m=lr+1:=by rw[←hm,←hlr];simp
   have hmc:m≤cw:=by
    obtain⟨a',c',h1,h2,_⟩:=HST.out.wk.form;rw[hwv]at h1;simp only[zq40]at h1;omega
   have HWP:=hid (show St w W0 wr (.slice (some ⟨gw,0,none⟩) rs.length cw) tl rs from by
    have h:=HST.out;rw[hwv]at h;exact h.pop)
   rw[hm]at hwv;rw[hlr]at hcu HWP;subst hwv;have hxE:El T x:=(Gen.sub HG.out HIM.out).le (hINV.out.wg x (zq117 _ zq24));have HXE:=hid hxE;have HXS:=hid (hru.sl.mono (S':=Any) (fun _ _=>trivial));obtain⟨⟨gu,cu,rfl⟩,_⟩:=hru;have HTE:=hid (show∀r∈tl,r≠[]→El T r from fun r hr hne=>by
    obtain⟨j,hj⟩:=zq45 hr;exact(hINV.out.tb j r (tabF_some hj hne)).2.1.1)
   have hd0:decide ((m:Int)>0)=true:=by simp;omega
   have hm0:(0:Int)<(m:Int):=by omega
   have hw1:IntKind.i64.wrap ((m:Int)-1)=(lr:Int):=by rw[zq6 _ (by omega)];omega
   have hlm:(lr:Int)<(m:Int):=by omega
   have hl0:(0:Int)≤(lr:Int):=by omega
   have hlc:(lr:Int)≤(cw:Int):=by omega
   have hm00:0<m:=by omega
   have hlr100:lr≤100:=by omega
   have HGK:=hid (show gk=emp tl*(T.length+3)+(lr+1) by rw[hgk,hm,hml]);have HML:=hid hml;have HLR:=hid hlr;have HBX:=hid hBx;have hwl:wrap64 ((m:Int)-1)=(lr:Int):=(SpecN.wrap_i64 (by omega) (by omega)).trans (by omega);obtain⟨d,rest,hs⟩:∃d rest,strp T tl T.length 0 x=(d,rest):=⟨_,_,rfl⟩;have HSX:=hid (show Calls Tryz.prog 206 #[.agg #[.slice aO T.length cO,.slice aP T.length cP,.slice aC T.length cC],.slice (some ⟨w.heap.size+1,0,none⟩) T.length T.length,.slice (some ⟨gu,0,none⟩) x.length cu] wr fun e w'=>∃v,e= .returned (.tuple #[.int .i64 (d:Int),v])∧Own wr.heap.size w' v (ints rest)∧El T rest∧Below wr.heap.size wr w' from by
    have h:=HSTR.out wr _ _ tl x HPr.out HTS.out htl HXS.out HXE.out HTE.out;unfold StripR at h;rw[hs]at h;exact h)
   have hle:d≤T.length:=by
    have:=(strip_le (m:=mul T) (e:=Tow.one T) (f:=fF) (inv:=vinv T) (tabF tl) T.length 0 x).2;rw[show strip (mul T) (Tow.one T) fF (vinv T) (tabF tl) T.length 0 x=(d,rest) from hs]at this;simpa using this
   have HSTRIP:=hid hs;clear hr0 hxE hBx hkx hST hml hlr hm hgk hs HPr HTS HXS HSTR;go_wp2_with fail;refine HSX.out.mono ?_;rintro e w2 ⟨v2,rfl,ho2,hE2,hb2⟩;have HW2:=hid (HWP.out.below hb2);have HB2:=hid (HBX.out.trans (hb2.mono (by omega)));have hb2s:=hb2.size;by_cases hdn:d=T.length
   ·have hq:((d:Int)==(T.length:Int))=true:=by simp;omega
    have HI':=hid (hINV.out.member (by rw[show strip (mul T) (Tow.one T) fF (vinv T) (tabF tl) T.length 0 x=(d,rest) from HSTRIP.out];exact hdn));clear ho2 hE2 hb2;go_wp2_with fail;go_roundg (emp tl*(T.length+3)+lr);case measure=>exact msr HGK.out
    case rel=>exact⟨tl,rs,htl,zq11 (zq44 (msr HGK.out)) hg100,by rw[HLR.out],HI',HW2⟩
   ·have hq:((d:Int)==(T.length:Int))=false:=by simp;omega
    have hdlt:d<T.length:=by omega
    obtain⟨L,hL⟩:∃L,T[d]?=some L:=⟨_,zq0 hdlt⟩;have hSA:=HF.out.strip_A hINV.out.tb T.length 0 x (by omega) ⟨HXE.out,fun j hj=>absurd hj (zq33 _)⟩;rw[show strip (mul T) (Tow.one T) fF (vinv T) (tabF tl) T.length 0 x=(d,rest) from HSTRIP.out]at hSA;have hA:=hSA.1;obtain⟨hf0,htd⟩:=hSA.2 hdlt;simp only at hA hf0 htd;obtain⟨a,ha⟩:∃a,rest[d]?=some a:=⟨_,zq0 (by rw[El_length hE2];exact hdlt)⟩;have hfa:fF d rest=a:=by unfold fF;rw[zq9,ha];rfl
    have ha0:a≠0:=fun h=>hf0 (hfa.trans h);have hao:a<L.o:=by
     obtain⟨L',hL',hlt⟩:=El_lt hE2 ha;rw[hL]at hL';injection hL' with hL';rw[hL'];exact hlt
    have hpr:=HPR.out L (zq5 hL);have hoF:oF T d=L.o:=oF_at hL;obtain⟨bO,oO,rfl,_,hbO,hcO⟩:=HP.out.ord hL;obtain⟨g2,c2,hv2⟩:=ho2.form (by rw[ints_length,El_length hE2];exact hn0);rw[ints_length,El_length hE2]at hv2;subst hv2;obtain⟨s2,_⟩:=ho2.cell (j:=d) (a:=(a:Int)) (by rw[ints_get,ha];rfl);have hk2:=keep_boxed HB2.out Any;obtain⟨f0,f1,f2⟩:=box_cells HB2.out;have hcO2:=(hk2.cell (b:=bO) (o:=oO+d) trivial hbO).trans hcO;have hs2:w.heap.size+2≤w2.heap.size:=HW2.out.sz;have hww2:w.heap.size<w2.heap.size:=by omega
    have hbO2:bO<w2.heap.size:=by omega
    have hg22:=ho2.lt.2;have hdi:(d:Int)<(T.length:Int):=by omega
    have hdi0:(0:Int)≤(d:Int):=by omega
    have HP2:=hid (HP.out.keep hk2);have HR2:=hid (ho2.sl.mono (S':=Any) (fun _ _=>trivial));have HRW:=hid (rowOk_of (ho2.mono (B':=w.heap.size+2) (by have:=HST.out.sz;exact this)) (by rw[El_length hE2];exact hn0));have HA:=hid (And.intro hA (And.intro htd (And.intro hfa hoF)));have HPRL:=hid hpr;have HE2:=hid hE2;have hLo7:L.o≤7:=HSM.out.2 L (zq5 hL);have HCO:=hid hcO;clear hSA hA htd hf0 hfa hoF ha ho2 hk2 hpr hL hE2 hdn hcO e0 e1 e2 hcu;go_wp2_with fail;go_region_held3 (fun w'=>(∀b o,b<w2.heap.size→w'.cell? ⟨b,o,none⟩=w2.cell? ⟨b,o,none⟩)∧Keep (fun _=>True) w2 w')
     (first|exact ks_mk (by repeat(first|exact zqK.drew|exact Keep.refl _ _|refine Keep.trans ?_ (Keep.of_below (by assumption)))))
     (first|(go_at_call 207;refine(inv_any a L.o HPRL.out hao ha0 _).mono ?_;rintro e w5 ⟨⟨c,rfl,hcp,hc1⟩,rfl⟩)|(go_at_call 93;refine(HPW.out _ (.slice (some ⟨g2,0,none⟩) T.length c2) rest c (by omega) (HP2.out.keep (by repeat(first|exact zqK.drew|exact Keep.refl _ _|exact zqK.alloc _|exact(zqK.alloc _).drew|refine Keep.trans ?_ (Keep.of_below (by assumption))))) (HR2.out.keep (by repeat(first|exact zqK.drew|exact Keep.refl _ _|exact zqK.alloc _|exact(zqK.alloc _).drew|refine Keep.trans ?_ (Keep.of_below (by assumption))))) HE2.out).mono ?_;rintro e w6 ⟨v6,rfl,ho6,hb6⟩))
    have hb26:Below w2.heap.size w2 w6:=(by repeat(first|exact zq3 _ _|exact zqB.drew|refine Below.step ?_ zqN (by assumption)));obtain⟨y,hy⟩:∃y,y=npow (mul T) (Tow.one T) rest c:=⟨_,rfl⟩;rw[←hy]at ho6;have hyE:El T y:=by rw[hy];exact HG.out.npow HE2.out c
    have hy1:fF d y=1:=by
     rw[hy,HF.out.f_npow hdlt HA.out.1,HA.out.2.2.1,HA.out.2.2.2,zq97];exact hc1
    have HY:=hid (And.intro hy (And.intro hyE hy1));obtain⟨gy,cy,hv6⟩:=ho6.form (by rw[ints_length,El_length hyE];exact hn0);rw[ints_length,El_length hyE]at hv6;subst hv6;have HRY:=hid (rowOk_of (ho6.mono (B':=w.heap.size+2) (by have h1:=(show Keep (fun _=>True) w2 w2.drew from zqK.drew).size;omega)) (by rw[El_length hyE];exact hn0));have HS6:=hid (HW2.out.below hb26);have htd':tl[d]?=some []:=by
     cases htd:tl[d]? with
     |none=>have:=List.getElem?_eq_none_iff.1 htd;omega
     |some r=>cases r with
      |nil=>rfl
      |cons q r=>have h:=tabF_some htd (by simp);rw[HA.out.2.1]at h;simp at h
    obtain⟨ut,hct,hft,_⟩:=HS6.out.tb.at htd';have HTD:=hid htd';obtain⟨w7,hw7⟩:∃w7,w7=w6.setCell ⟨w.heap.size+1,d,none⟩ (.slice (some ⟨gy,0,none⟩) T.length cy):=⟨_,rfl⟩;have HS7:=hid (show St w W0 w7 _ (tl.set d y) rs by rw[hw7];exact HS6.out.put d HRY.out);have HR7:=hid (show RowOk 2 (w.heap.size+2) w7 (.slice (some ⟨g2,0,none⟩) T.length c2) rest by rw[hw7];exact RowOk.keep (RowOk.keep HRW.out (S:=Any) (Keep.of_below hb26) (fun _ _=>trivial)) (S:=fun k=>w.heap.size+2≤k) (zqK.setCell (p:=⟨w.heap.size+1,d,none⟩) (by simp) (.slice (some ⟨gy,0,none⟩) T.length cy)) (fun _ h=>h));have HRY7:=hid (show RowOk 2 (w.heap.size+2) w7 (.slice (some ⟨gy,0,none⟩) T.length cy) y by rw[hw7];exact RowOk.keep HRY.out (S:=fun k=>w.heap.size+2≤k) (zqK.setCell (p:=⟨w.heap.size+1,d,none⟩) (by simp) (.slice (some ⟨gy,0,none⟩) T.length cy)) (fun _ h=>h));clear hy hyE hy1 ho6 hb6 hb26 htd' hcO2 s2 f0 f1 f2 hb2;obtain⟨us,h1,h2,h4⟩:=HS7.out.wk;rw[HLR.out]at h1;have HUS:=hid (And.intro h2 h4);have hs7:=HS7.out.sz;clear h2 h4;go_upto_region 11 with fail;rw[←hw7];clear hw7 hct hft;go_wp2_with (at_builtin;(refine zq55 _ rfl _ _ 25 rfl (w.heap.size+2) 24 i0 (.slice none 0 0) 1 24 Tryz.underlying25 hi hz0 hz1 hz2 rfl (by decide) _ _ _ rfl (ownsRow_keep h1 (S:=Any) (zqK.alloc _) (fun _ _=>trivial)) ⟨w7.heap.size,0,none⟩ 1 1 [.slice (some ⟨g2,0,none⟩) T.length c2] rfl rfl ?c1 ?c2 ?c3 ?c4 ?c5 ?_));case c1=>
     intro j u hj
     match j,hj with
     |0,hj=>simp at hj;subst hj;simp[Addr.add]
    case c2=>intro u hu;simp at hu;subst hu;rfl
    case c3=>unfold maxLen;omega
    case c4=>omega
    case c5=>simp;omega
    ·intro v8 w8 hown hgrow _;have HS8:=hid (show St w W0 w8 v8 (tl.set d y) (rs++[rest]) from
      St.grow (HS7.out.below (zqB.alloc zqN _)) (us:=us) (by rw[HLR.out];exact ownsRow_keep h1 (S:=Any) (zqK.alloc _) (fun _ _=>trivial)) HUS.out.1 (fun i r u hr hu=>(HUS.out.2 i r u hr hu).keep (S:=Any) (zqK.alloc _) (fun _ _=>trivial)) (HR7.out.keep (S:=Any) (zqK.alloc _) (fun _ _=>trivial)) (by rw[HLR.out];exact hown) hgrow)
     have HRY8:=hid (show RowOk 2 (w.heap.size+2) w8 (.slice (some ⟨gy,0,none⟩) T.length cy) y from
      row_grow (HRY7.out.keep (S:=Any) (zqK.alloc _) (fun _ _=>trivial)) (ownsRow_keep h1 (S:=Any) (zqK.alloc _) (fun _ _=>trivial)) hgrow)
     have hB8:=HB0.out.trans HS8.out.bl;have hk8:=keep_boxed hB8 Any;obtain⟨f0,f1,f2⟩:=box_cells hB8;have hcO8:=(hk8.cell (b:=bO) (o:=oO+d) trivial hbO).trans HCO.out;have hs8:=HS8.out.sz;have hww8:w.heap.size<w8.heap.size:=by omega
     have hbO8:bO<w8.heap.size:=by omega
     have HP8:=hid (HP.out.keep hk8);have HY8:=hid (HRY8.out.sl.mono (S':=Any) (fun _ _=>trivial));have HYO:=hid (HG.out.npow HY.out.2.1 L.o);obtain⟨us8,q1,q2,q4⟩:=HS8.out.wk;rw[show(rs++[rest]).length=lr+1 by simp[HLR.out]]at q1;have HU8:=hid (And.intro q1 (And.intro q2 q4));have HLL:=hid (show(rs++[rest]).length=lr+1 by simp[HLR.out]);clear hown hgrow h1 HUS hB8 hk8 q1 q2 q4 HS7 HR7 HRY7 HCO;go_upto_region 12 with fail;go_cut [7] (fun wv W=>Hid (St w W0 W wv (tl.set d y) (rs++[rest]++[npow (mul T) (Tow.one T) y L.o]))∧Hid (RowOk 2 (w.heap.size+2) W (.slice (some ⟨gy,0,none⟩) T.length cy) y));case first=>
      go_region_law
       (first|(go_simp;go_at_call 93;refine(HPW.out _ (.slice (some ⟨gy,0,none⟩) T.length cy) y L.o (by omega) (HP8.out.keep (by repeat(first|exact zqK.drew|exact Keep.refl _ _|exact zqK.alloc _|exact(zqK.alloc _).drew|refine Keep.trans ?_ (Keep.of_below (by assumption))))) (HY8.out.keep (by repeat(first|exact zqK.drew|exact Keep.refl _ _|exact zqK.alloc _|exact(zqK.alloc _).drew|refine Keep.trans ?_ (Keep.of_below (by assumption))))) HY.out.2.1).mono ?_;rintro e w9 ⟨v9,rfl,ho9,hb9⟩;obtain⟨g9,c9,hv9⟩:=ho9.form (by rw[ints_length,El_length HYO.out];exact hn0);rw[ints_length,El_length HYO.out]at hv9;subst hv9;have hs9:=hb9.size;have hs98:w8.heap.size≤w9.heap.size:=(show Keep (fun _=>True) w8 w9 from(by repeat(first|exact zqK.drew|exact Keep.refl _ _|exact zqK.alloc _|exact(zqK.alloc _).drew|refine Keep.trans ?_ (Keep.of_below (by assumption))))).size)|(refine zq119 _ (by rfl) _ _ _ (by rfl) (w.heap.size+2) 24 i0 (.slice none 0 0) 1 24 Tryz.underlying25 hi hz0 hz1 hz2 rfl (by omega) v8 (lr+1) us8 (by rfl) ((ownsRow_keep HU8.out.1 (S:=Any) (by repeat(first|exact zqK.drew|exact Keep.refl _ _|exact zqK.alloc _|exact(zqK.alloc _).drew|refine Keep.trans ?_ (Keep.of_below (by assumption)))) (fun _ _=>trivial)).alloc _) ⟨w9.heap.size,0,none⟩ 1 1 [.slice (some ⟨g9,0,none⟩) T.length c9] (by rfl) (by rfl) (zq50 (cs:= #[.slice (some ⟨g9,0,none⟩) T.length c9]) (t:=24) (fr:=(0,0)) (zq17 w9 _)) (by simp[Value.oneCell']) (by omega) (by unfold maxLen;omega) (by omega) (by simp;omega) _ rfl ?_;intro gg cap w10 hown10 hgrow10 hat10 hlt10))
      all_goals (go_wp2_with fail;go_meet)
      all_goals
       have hb89:Below w8.heap.size w8 w9:=(by repeat(first|exact zq3 _ _|exact zqB.drew|refine Below.step ?_ zqN (by assumption)));have hk89:Keep (fun _=>True) w8 w9:=Keep.of_below hb89;have hq9:=ownsRow_keep HU8.out.1 (S:=Any) (Keep.alloc hk89 (.cells #[.slice (some ⟨g9,0,none⟩) T.length c9] 24)) (fun _ _=>trivial);have hS10:St w W0 w10 (.slice (some ⟨gg,0,none⟩) (lr+1+1) cap) (tl.set d y) (rs++[rest]++[npow (mul T) (Tow.one T) y L.o]):=
        St.grow (HS8.out.below (hb89.alloc hb89.size _)) (us:=us8) (by rw[HLL.out];exact hq9) HU8.out.2.1 (fun i r u hr hu=>(HU8.out.2.2 i r u hr hu).keep (S:=Any) (Keep.alloc hk89 _) (fun _ _=>trivial)) ((rowOk_of (ho9.mono (B':=w.heap.size+2) hs8) (by rw[El_length HYO.out];exact hn0)).keep (S:=Any) (Keep.alloc zqK _) (fun _ _=>trivial)) (by rw[HLL.out];exact hown10) hgrow10
       have hY10:RowOk 2 (w.heap.size+2) w10 (.slice (some ⟨gy,0,none⟩) T.length cy) y:=row_grow (HRY8.out.keep (S:=Any) (Keep.alloc hk89 _) (fun _ _=>trivial)) hq9 hgrow10;exact⟨hid hS10,hid hY10⟩
     case rest=>
      obtain⟨HS9,HY9⟩:=hcut;clear HS8 HRY8 HP8 HY8 HU8 hcO8 f0 f1 f2 hs8 hww8 hbO8 HS6 HRY HRW HW2 HWP HB2 HP2 HR2 HBX;go_wp2_with fail;go_loopw [7,12] (fun wv ev wr=>∃(e:Nat) (rows2:List (List Nat)),e≤T.length∧ev= .int .i64 (e:Int)∧rows2.length≤lr+2+e∧Hid (rows2=rs++[rest]++[npow (mul T) (Tow.one T) y L.o]++cm T tl d y e)∧Hid (St w W0 wr wv (tl.set d y) rows2)∧Hid (RowOk 2 (w.heap.size+2) wr (.slice (some ⟨gy,0,none⟩) T.length cy) y)) (fun _ ev _=>T.length-(intOf ev).toNat);case atStart=>exact⟨0,_,zq4 _,rfl,by simp[HLR.out],hid (by simp[cm]),HS9,HY9⟩
      case round=>
       obtain⟨e,rows2,he,rfl,hrl2,hR2,hS2,hY2⟩:=hrel;have hBe:=HB0.out.trans hS2.out.bl;have hke:=keep_boxed hBe Any;obtain⟨f0,f1,f2⟩:=box_cells hBe;have hse:=hS2.out.sz;have hwwe:w.heap.size<wr.heap.size:=by omega
       clear HS9 HY9;by_cases hlt:e<T.length
       ·by_cases hed:e=d
        ·have hq:((e:Int) !=(d:Int))=false:=by simp[hed]
         have HR':=hid (show rows2=rs++[rest]++[npow (mul T) (Tow.one T) y L.o]++cm T tl d y (e+1) by rw[cm,zq57 hed,zq95];exact hR2.out);subst hed;clear hBe hke hlt;go_wp2_with fail;go_roundw;case rel=>exact⟨e+1,rows2,by omega,by go_num,by omega,HR',hS2,hY2⟩
         case measure=>simp[intOf]<;>omega
        ·have hq:((e:Int) !=(d:Int))=true:=by simp;omega
         have hei:(e:Int)<(T.length:Int):=by omega
         have hei0:(0:Int)≤(e:Int):=by omega
         obtain⟨q,hqt⟩:∃q,tl[e]?=some q:=⟨_,zq0 (by omega)⟩;obtain⟨uq,hcq,_,hRq⟩:=hS2.out.tb.at (i:=e) (r:=q) (by rw[zq111 (fun h=>hed h.symm)];exact hqt);have hRs:=hRq.sl;obtain⟨aQ,cQ,rfl,_⟩:=SlI.open hRs;obtain⟨lq,hlq⟩:∃lq,q.length=lq:=⟨_,rfl⟩;rw[hlq]at hcq hRs;have HQS:=hid hRs;have HQT:=hid hqt;have HED:=hid hed;have HPe:=hid (HP.out.keep hke);have HYe:=hid (hY2.out.sl.mono (S':=Any) (fun _ _=>trivial));clear hRq hRs hqt hBe hke;by_cases hq0:q=[]
         ·obtain rfl:0=lq:=by rw[←hlq,hq0];rfl
          have hql:decide (((0:Nat):Int)>0)=false:=by simp
          have HR':=hid (show rows2=rs++[rest]++[npow (mul T) (Tow.one T) y L.o]++cm T tl d y (e+1) by rw[cm,zq37 HED.out,tabF_none (by rw[HQT.out,hq0]),zq95];exact hR2.out);clear hlq hq0 hlt hed;go_wp2_with fail;go_roundw;case rel=>exact⟨e+1,rows2,by omega,by go_num,by omega,HR',hS2,hY2⟩
          case measure=>simp[intOf]<;>omega
         ·have hlq0:0<lq:=by
           have:q.length≠0:=fun h=>hq0 (zq21 h);omega
          have hql:decide ((lq:Int)>0)=true:=by simp;omega
          have HQE:=hid (hINV.out.tb e q (tabF_some HQT.out hq0)).2.1.1;have HCE:=hid (show El T (com (mul T) (vinv T) y q) from(by
           have h1:=HG.out.cl HQE.out HY.out.2.1;have h2:=HG.out.cl HY.out.2.1 HQE.out;exact HG.out.cl (HF.out.iM h1) h2))
          have HR':=hid (show rows2++[com (mul T) (vinv T) y q]=rs++[rest]++[npow (mul T) (Tow.one T) y L.o]++cm T tl d y (e+1) by rw[cm,zq37 HED.out,tabF_some HQT.out hq0,hR2.out,zq74]);obtain⟨us8,q1,q2,q4⟩:=hS2.out.wk;have HU8:=hid (And.intro q1 (And.intro q2 q4));clear hlq hq0 hlt hed q1 q2 q4;go_upto_region 17 with fail;rename World=>w8;go_region_law
           (first|(go_simp;go_at_call 208;refine(HCM.out _ (.slice (some ⟨gy,0,none⟩) T.length cy) (.slice aQ lq cQ) y q (HPe.out.keep (by repeat(first|exact zqK.drew|exact Keep.refl _ _|exact zqK.alloc _|exact(zqK.alloc _).drew|refine Keep.trans ?_ (Keep.of_below (by assumption))))) (HYe.out.keep (by repeat(first|exact zqK.drew|exact Keep.refl _ _|exact zqK.alloc _|exact(zqK.alloc _).drew|refine Keep.trans ?_ (Keep.of_below (by assumption))))) (HQS.out.keep (by repeat(first|exact zqK.drew|exact Keep.refl _ _|exact zqK.alloc _|exact(zqK.alloc _).drew|refine Keep.trans ?_ (Keep.of_below (by assumption))))) HY.out.2.1 HQE.out).mono ?_;rintro e' w9 ⟨v9,rfl,ho9,hb9⟩;obtain⟨g9,c9,hv9⟩:=ho9.form (by rw[ints_length,El_length HCE.out];exact hn0);rw[ints_length,El_length HCE.out]at hv9;subst hv9;have hs9:=hb9.size;have hs98:w8.heap.size≤w9.heap.size:=(show Keep (fun _=>True) w8 w9 from(by repeat(first|exact zqK.drew|exact Keep.refl _ _|exact zqK.alloc _|exact(zqK.alloc _).drew|refine Keep.trans ?_ (Keep.of_below (by assumption))))).size)|(refine zq119 _ (by rfl) _ _ _ (by rfl) (w.heap.size+2) 24 i0 (.slice none 0 0) 1 24 Tryz.underlying25 hi hz0 hz1 hz2 rfl (by omega) _ rows2.length us8 (by rfl) ((ownsRow_keep HU8.out.1 (S:=Any) (by repeat(first|exact zqK.drew|exact Keep.refl _ _|exact zqK.alloc _|exact(zqK.alloc _).drew|refine Keep.trans ?_ (Keep.of_below (by assumption)))) (fun _ _=>trivial)).alloc _) ⟨w9.heap.size,0,none⟩ 1 1 [.slice (some ⟨g9,0,none⟩) T.length c9] (by rfl) (by rfl) (zq50 (cs:= #[.slice (some ⟨g9,0,none⟩) T.length c9]) (t:=24) (fr:=(0,0)) (zq17 w9 _)) (by simp[Value.oneCell']) (by omega) (by unfold maxLen;omega) (by omega) (by simp;omega) _ rfl ?_;intro gg cap w10 hown10 hgrow10 hat10 hlt10))
          all_goals
           have hb89:Below w8.heap.size w8 w9:=(by repeat(first|exact zq3 _ _|exact zqB.drew|refine Below.step ?_ zqN (by assumption)));have hk89:Keep (fun _=>True) w8 w9:=Keep.of_below hb89;have hq9:=ownsRow_keep HU8.out.1 (S:=Any) (Keep.alloc hk89 (.cells #[.slice (some ⟨g9,0,none⟩) T.length c9] 24)) (fun _ _=>trivial);have HS10:=hid (show St w W0 w10 (.slice (some ⟨gg,0,none⟩) (rows2.length+1) cap) (tl.set d y) (rows2++[com (mul T) (vinv T) y q]) from
            St.grow (hS2.out.below (hb89.alloc hb89.size _)) (us:=us8) hq9 HU8.out.2.1 (fun i r u hr hu=>(HU8.out.2.2 i r u hr hu).keep (S:=Any) (Keep.alloc hk89 _) (fun _ _=>trivial)) ((rowOk_of (ho9.mono (B':=w.heap.size+2) hse) (by rw[El_length HCE.out];exact hn0)).keep (S:=Any) (Keep.alloc zqK _) (fun _ _=>trivial)) hown10 hgrow10)
           have HY10:=hid (show RowOk 2 (w.heap.size+2) w10 (.slice (some ⟨gy,0,none⟩) T.length cy) y from row_grow (hY2.out.keep (S:=Any) (Keep.alloc hk89 _) (fun _ _=>trivial)) hq9 hgrow10);clear hb89 hk89 hq9 hown10 hgrow10 hat10 hlt10 ho9 hb9 hs9 hs98;go_wp2_with fail;go_roundw;case rel=>exact⟨e+1,_,by omega,by go_num,by simp;omega,HR',HS10,HY10⟩
           case measure=>simp[intOf]<;>omega
       ·obtain rfl:e=T.length:=by omega
        have hem:=emp_set HTD.out (y:=y) (fun h=>by have:=El_length HY.out.2.1;rw[h]at this;simp only[List.length_nil]at this;omega);have HME:=hid (show emp (tl.set d y)*(T.length+3)+(lr+2+(cm T tl d y T.length).length)<gk from msr2 (by rw[hem];exact HGK.out) (cm_length T tl d y T.length));have HL2:=hid (show rows2.length=lr+2+(cm T tl d y T.length).length by rw[hR2.out];simp[HLR.out];omega);have HI':=hid (show INV T im (tl.set d y) rows2 from by
         unfold INV;rw[tabF_set (by omega) (fun h=>by have:=El_length HY.out.2.1;rw[h]at this;simp only[List.length_nil]at this;omega),hR2.out];refine hINV.out.enter HF.out HIM.out HSTRIP.out hdlt HY.out.1 HY.out.2.2 (fun w hw=>by simp[hw]) (by simp) (by rw[HA.out.2.2.2];simp) (fun j z hj hz=>?_) (fun w hw=>?_)
         ·exact zq117 _ (cm_mem (hINV.out.tb j z hz).1 hj hz)
         ·rcases zq68.1 hw with h|h
          ·rcases zq68.1 h with h|h
           ·rcases zq68.1 h with h|h
            ·exact .inl h
            ·exact .inr (.inl (zq54.1 h))
           ·exact .inr (.inr (.inl (by rw[HA.out.2.2.2];exact zq54.1 h)))
          ·exact .inr (.inr (.inr (cm_inv h))))
        clear hem hBe hke hlt;go_wp2_with fail;go_roundg (emp (tl.set d y)*(T.length+3)+rows2.length);case measure=>rw[HL2.out];exact HME.out
        case rel=>exact⟨tl.set d y,rows2,by simp[htl],zq11 (zq44 (by rw[HL2.out];exact HME.out)) hg100,rfl,HI',hS2⟩
end Go.Proofs.YtlmlamcoeegkbaaGreat.SpecP
