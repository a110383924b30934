import Derived.Test.YtlmlamcoeegkbaaGreatZ0
import Derived.Test.YtlmlamcoeegkbaaGreatZr
import Derived.Deep.AppendLies
/-
  Lemmas for the law FnStandardForms, in short spelling.
-/
open Go.Lib (hid)
set_option linter.unusedVariables false
set_option linter.unusedSimpArgs false
set_option maxRecDepth 100000
set_option maxHeartbeats 40000000
namespace Go.Proofs.YtlmlamcoeegkbaaGreat.WN
open Go.RowKit Go.Proofs.YtlmlamcoeegkbaaGreat AJ Gen Dq R5 IK DL JA LD JB Nj P8 LF ABP Hf
theorem msr {gk a l:Nat}(h:gk=a+(l+1)):a+l<gk:=by omega
theorem AKB {gk a n l c:Nat}(h:gk=(a+1)*(n+3)+(l+1))(hc:c≤n):a*(n+3)+(l+2+c)<gk:=by rw[h,Nat.succ_mul];omega
def emp:List (List Nat)→Nat
 |[]=>0
 |r::tl=>(if r=[]then 1 else 0)+emp tl
theorem AAN:∀{tl:List (List Nat)} {d:Nat} {y:List Nat},tl[d]?=some []→y≠[]→emp (tl.set d y)+1=emp tl
 |[],d,y,h,_=>by simp at h
 |r::tl,0,y,h,hy=>by
  simp at h;subst h;simp[emp,hy];omega
 |r::tl,d+1,y,h,hy=>by
  have:=AAN (tl:=tl) (d:=d) (by simpa using h) hy;simp only[BB,emp];omega
noncomputable def cm (T:Tw)(tl:List (List Nat))(d:Nat)(y:List Nat):Nat→List (List Nat)
 |0=>[]
 |e+1=>cm T tl d y e++(if e=d then []else match BQ tl e with
  |none=>[]
  |some z=>[Df (mul T) (BS T) y z])
theorem yK (T:Tw)(tl:List (List Nat))(d:Nat)(y:List Nat):∀e,(cm T tl d y e).length≤e
 |0=>Ap _
 |e+1=>by
  have:=yK T tl d y e;rw[cm,Cm];split
  ·simp;omega
  ·split
   ·simp;omega
   ·simp;omega
theorem AAn {T:Tw}{tl:List (List Nat)}{d:Nat}{y:List Nat}:∀{e j:Nat} {z:List Nat},j<e→j≠d→BQ tl j=some z→Df (mul T) (BS T) y z∈cm T tl d y e
 |0,j,z,h,_,_=>absurd h (DX _)
 |e+1,j,z,h,hd,hz=>by
  rw[cm];rcases FK.1 h with h1|h1
  ·exact lg _ (AAn h1 hd hz)
  ·subst h1;rw[BU hd,hz];exact Z0 _ CE
theorem AAo {T:Tw}{tl:List (List Nat)}{d:Nat}{y w:List Nat}:∀{e:Nat},w∈cm T tl d y e→∃j z,j≠d∧BQ tl j=some z∧w=Df (mul T) (BS T) y z
 |0,h=>by simp[cm]at h
 |e+1,h=>by
  rw[cm]at h;rcases Hr.1 h with h1|h1
  ·exact AAo h1
  ·by_cases hd:e=d
   ·rw[CU hd]at h1;simp at h1
   ·rw[BU hd]at h1;cases hz:BQ tl e with
    |none=>rw[hz]at h1;simp at h1
    |some z=>
     rw[hz]at h1;simp only[Gi]at h1;exact⟨e,z,hd,hz,h1⟩
def QL (B:Nat)(w:World)(u:Value)(r:List Nat):Prop:=(r=[]∧u= .slice none 0 0)∨CL 2 B w u r
theorem QL.sl {B:Nat}{w:World}{u:Value}{r:List Nat}(h:QL B w u r):AL Any w u (ints r):=by
 rcases h with⟨rfl,rfl⟩|h
 ·exact AAM _ _
 ·exact h.sl.mono (fun _ _=>trivial)
theorem QL.keep {B:Nat}{w w':World}{u:Value}{r:List Nat}(h:QL B w u r)(hk:AA (fun k=>B≤k) w w'):QL B w' u r:=by
 rcases h with h|h
 ·exact .inl h
 ·exact .inr (h.keep hk (fun _ h=>h))
structure St (w W0 wr:World)(wv:Value)(tl rows:List (List Nat)):Prop where
 wk:Own2 24 2 (w.heap.size+2) wr wv rows
 tb:Ep (QL (w.heap.size+2)) wr (w.heap.size+1) tl
 bl:Below (w.heap.size+1) W0 wr
 sz:w.heap.size+2≤wr.heap.size
theorem St.below {w W0 wr w':World}{wv:Value}{tl rows:List (List Nat)}(h:St w W0 wr wv tl rows)(hb:Below wr.heap.size wr w'):St w W0 w' wv tl rows:=
 ⟨h.wk.of_below hb,h.tb.keep (S:=Any) (AA.of_below hb) trivial (fun _ _ hr=>hr.keep (AA.of_below hb)),h.bl.trans (hb.mono (by have:=h.sz;omega)),Ab h.sz hb.size⟩
theorem St.grow {w W0 wa w':World}{wv v' u:Value}{tl rows:List (List Nat)}{r:List Nat}{us:List Value}(h:St w W0 wa wv tl rows)
  (h1:wa.ownsRow (w.heap.size+2) 24 1 wv rows.length us) (h2:us.length=rows.length) (h4:∀(i:Nat) (r:List Nat) (u:Value),rows[i]?=some r→us[i]?=some u→CL 2 (w.heap.size+2) wa u r)
  (hu:CL 2 (w.heap.size+2) wa u r) (ho:w'.ownsRow (w.heap.size+2) 24 1 v' (rows.length+1) (us++[u])) (hg:wa.grownBy w' wv.ownBlock):St w W0 w' v' tl (rows++[r]):=by
 have hlow:∀k,wv.ownBlock=some k→w.heap.size+2≤k:=fun k hk=>(BH h1 k hk).1;have hk:AA (fun k=>k<w.heap.size+2) wa w':=AA.grown hg (fun k hk e=>by have:=hlow k e.symm;omega);have hbl:Below (w.heap.size+2) wa w':=AR.grown hg h.sz hlow;refine⟨Own2.push (by decide) rfl h1 h2 h4 hu ho hg,h.tb.keep hk (by omega) (fun v r hr=>?_),h.bl.trans (hbl.mono (by omega)),Ab h.sz hbl.size⟩;rcases hr with hr|hr
 ·exact .inl hr
 ·exact .inr ⟨hr.1,Nr hr.2 hg (JY hr.2 h1 (by decide))⟩
theorem St.put {w W0 wr:World}{wv u:Value}{tl rows:List (List Nat)}{y:List Nat}(h:St w W0 wr wv tl rows)(d:Nat)(hu:CL 2 (w.heap.size+2) wr u y):St w W0 (wr.setCell ⟨w.heap.size+1,d,none⟩ u) wv (tl.set d y) rows:=by
 have hk:AA (fun k=>w.heap.size+2≤k) wr (wr.setCell ⟨w.heap.size+1,d,none⟩ u):=AB.setCell (by simp) _;exact⟨h.wk.keep hk (fun _ h=>h),h.tb.set d (fun _ _ _ _=>trivial) (fun v r hr=>hr.keep hk) (.inr hu),h.bl.setCell (p:=⟨w.heap.size+1,d,none⟩) AQ _,by simpa using h.sz⟩
theorem St.pop {w W0 wr:World}{g c:Nat}{tl rows:List (List Nat)}{x:List Nat}(h:St w W0 wr (.slice (some ⟨g,0,none⟩) (rows++[x]).length c) tl (rows++[x])):St w W0 wr (.slice (some ⟨g,0,none⟩) rows.length c) tl rows:=
 ⟨Own2.pop h.wk,h.tb,h.bl,h.sz⟩
theorem kM {B B' n:Nat}{w w':World}{u v:Value}{r:List Nat}{us:List Value}(h:CL 2 B w u r)(h1:w.ownsRow B' 24 1 v n us)(hg:w.grownBy w' v.ownBlock):CL 2 B w' u r:=
 ⟨h.1,Nr h.2 hg (JY h.2 h1 (by decide))⟩
theorem Vj {B:Nat}{w:World}{v:Value}{y:List Nat}(h:Own B w v (ints y))(hy:0<y.length):CL 2 B w v y:=by
 obtain⟨g,c,hv⟩:=h.form (by rw[A7];exact hy);rw[A7]at hv;unfold Own at h;rw[A7]at h;exact⟨⟨g,c,hv⟩,h⟩
abbrev INV (T:Tw)(im tl rows:List (List Nat)):Prop:=Inv (El T) (mul T) (AJ.one T) T.length (oF T) fF (BS T) im (BQ tl) rows
def Zg (T:Tw)(im:List (List Nat))(w:World)(e:Ending)(w':World):Prop:=
 ∃v tl dn,e= .returned v∧N8 T im tl∧dn.length=T.length∧FD T tl dn 0∧AV Any w' v ((Ed (BQ dn) T.length 0).map ints)∧Below w.heap.size w w'
theorem AEk (T:Tw)(hT:Wf T)(hs:Small T)(hg:AJ.Good T)(hp:Pr T)(hn0:0<T.length)(w:World)(vO vP vC vi:Value)(im:List (List Nat))(hP:Aw Any w vO vP vC (AX T))(hi2:AV Any w vi (im.map ints))(him:∀x∈im,El T x)(hl:im.length≤6):
  Calls Tryz.prog 182 #[.agg #[vO,vP,vC],vi] w (Zg T im w):=by
 obtain⟨i0,hi,hz0,hz1,hz2⟩:=CO JC;obtain⟨aO,cO,aP,cP,aC,cC,rfl,rfl,rfl,Er,hP1,FP⟩:=hP.open;have HP:=hid hP;have OD:=hid him;have Ms:=hid hi2;have HG:=hid (Ba hT hg);have JP:=hid hs;have Bw:=hid hp;have HF:=hid (R6 hT hg);have AC1:=hid (fun W vt vx tl x hP ht htl hx hE hr=>AE8 T hT hs hg W (.slice aO T.length cO) (.slice aP T.length cP) (.slice aC T.length cC) vt vx tl x hP ht htl hx hE hr);have Cy:=hid (fun W va a K hK hP ha hA=>Y9 T hT hs hg W (.slice aO T.length cO) (.slice aP T.length cP) (.slice aC T.length cC) va a K hK hP ha hA);have HCM:=hid (fun W va vb a b hP ha hb hA hB=>AFz T hT hs hg W (.slice aO T.length cO) (.slice aP T.length cP) (.slice aC T.length cC) va vb a b hP ha hb hA hB);have HFU:=hid (fun W vt tl hP ht htl hc=>AF1 T hT hs hg hn0 W (.slice aO T.length cO) (.slice aP T.length cP) (.slice aC T.length cC) vt tl im hP ht htl hc);have HOW:=hid (fun W hv=>Vi W vi im hv (by omega) (fun r hr=>by rw[Af (him r hr)];have:=hs.1;omega));have hs6:=hs.1;have hmk:=mX T.length hs6;obtain⟨W0,hW0⟩:∃W0,W0=w.alloc (.cells #[.slice aO T.length cO,.slice aP T.length cP,.slice aC T.length cC] 28):=⟨_,rfl⟩;have mU:W0.heap.size=w.heap.size+1:=by rw[hW0];simp
 have HB0:=hid (show Below (w.heap.size+1) (w.alloc (.cells #[.slice aO T.length cO,.slice aP T.length cP,.slice aC T.length cC] 28)) W0 by rw[hW0];exact Ag _ _);have HD0:=hid (show Ep (QL (w.heap.size+2)) (W0.alloc (.cells (madeCells #[.slice none 0 0] T.length) 24)) (w.heap.size+1) (List.replicate T.length []) by
  have:=Ep.made (R:=QL (w.heap.size+2)) W0 T.length (by unfold maxLen;omega) (.inl ⟨rfl,rfl⟩);rw[mU]at this;exact this)
 clear hP hi2 him hT hs hg hp;go_enter Tryz.func182,Tryz.ntmps182;go_upto_region 2 with fail;rw[←hW0];clear hW0;obtain⟨e0,_,_⟩:=Cc HB0.out;go_wp2_with fail;refine(HOW.out _ (Ms.out.keep (AA.trans (DW HB0.out Any) (AB.alloc _)))).mono ?_;rintro e w1 ⟨v1,rfl,ho1,hb1⟩;have BA:=hid (show St w W0 w1 v1 (List.replicate T.length []) im from by
  have hz:(W0.alloc (.cells (madeCells #[.slice none 0 0] T.length) 24)).heap.size=w.heap.size+2:=by simp;omega
  rw[hz]at ho1 hb1;exact⟨ho1,HD0.out.keep (S:=Any) (AA.of_below (by rw[hz];exact hb1)) trivial (fun _ _ hr=>hr.keep (AA.of_below (by rw[hz];exact hb1))),(AR.alloc (by omega) _).trans (hb1.mono (by omega)),by have:=hb1.size;omega⟩)
 clear ho1 hb1 HD0 HOW Ms hmk e0;go_wp2_with fail;go_loopg [7] (T.length*(T.length+3)+im.length) (fun gk wv wr=>∃tl rows:List (List Nat),tl.length=T.length∧gk≤100∧gk=emp tl*(T.length+3)+rows.length∧Hid (INV T im tl rows)∧Hid (St w W0 wr wv tl rows));case atStart=>
  refine⟨List.replicate T.length [],im,by simp,by have:=Nat.mul_le_mul hs6 (show T.length+3≤9 by omega);omega,?_,hid (by unfold INV;rw[jP];exact Inv.start HF.out OD.out),BA⟩;have:∀n,emp (List.replicate n [])=n:=fun n=>by
   induction n with
   |zero=>rfl
   |succ n ih=>rw[List.replicate_succ,emp,ih,CU rfl];omega
  rw[this]
 case round=>
  obtain⟨tl,rows,htl,ABS,VP,QM,hST⟩:=hrel;have HST:=hid hST.out;have hBx:=HB0.out.trans hST.out.bl;have hkx:=DW hBx Any;obtain⟨e0,e1,e2⟩:=Cc hBx;have hrl:rows.length≤100:=by omega
  have Bj:=hid (HP.out.keep hkx);have R8:w.heap.size<wr.heap.size:=by have:=HST.out.sz;omega
  have TE:=hid (show AV Any wr (.slice (some ⟨w.heap.size+1,0,none⟩) T.length T.length) (tl.map ints) by
   have:=Ep.sl2 HST.out.tb (fun _ _ h=>h.sl);rwa[htl]at this)
  by_cases hr0:rows=[]
  ·subst hr0;obtain⟨aW,cW,hwv,_,_⟩:=HST.out.wk.form;simp only[List.length_nil]at hwv;subst hwv;have hd0:decide (((0:Nat):Int)>0)=false:=by simp
   have AC2:=hid (QM.out.qj HF.out OD.out);have Au:=hid (Dx hBx);clear hBx hkx hST VP;go_wp2_with fail;refine(HFU.out _ _ tl Bj.out TE.out htl AC2.out).mono ?_;rintro e w2 ⟨v2,dn,rfl,h1,h2,h3,h4⟩;have HR:=hid (show Zg T im w (.returned v2) w2 from⟨v2,tl,dn,rfl,AC2.out,h1,h2,h3,Au.out.trans (h4.mono Au.out.size)⟩);clear h1 h2 h3 h4;go_wp2_with fail;go_ret;exact HR.out
  ·obtain⟨rs,x,rfl⟩:∃rs x,rows=rs++[x]:=⟨_,_,(List.dropLast_concat_getLast hr0).symm⟩;obtain⟨gw,cw,u,hwv,AMD,AME,JQ,MG⟩:=HST.out.wk.at (i:=rs.length) (r:=x) (by simp);obtain⟨lr,hlr⟩:∃lr,rs.length=lr:=⟨_,rfl⟩;obtain⟨m,hm⟩:∃m,(rs++[x]).length=m:=⟨_,rfl⟩;have hml:m=lr+1:=by rw[←hm,←hlr];simp
   have hmc:m≤cw:=by
    obtain⟨a',c',h1,h2,_⟩:=HST.out.wk.form;rw[hwv]at h1;simp only[C8]at h1;omega
   have vK:=hid (show St w W0 wr (.slice (some ⟨gw,0,none⟩) rs.length cw) tl rs from by
    have h:=HST.out;rw[hwv]at h;exact h.pop)
   rw[hm]at hwv;rw[hlr]at JQ vK;subst hwv;have Du:El T x:=(Gen.sub HG.out OD.out).le (QM.out.wg x (Z0 _ CE));have Cw:=hid Du;have HXS:=hid (MG.sl.mono (S':=Any) (fun _ _=>trivial));obtain⟨⟨gu,cu,rfl⟩,_⟩:=MG;have HTE:=hid (show∀r∈tl,r≠[]→El T r from fun r hr hne=>by
    obtain⟨j,hj⟩:=IP hr;exact(QM.out.tb j r (NW hj hne)).2.1.1)
   have hd0:decide ((m:Int)>0)=true:=by simp;omega
   have hm0:(0:Int)<(m:Int):=by omega
   have hw1:IntKind.i64.wrap ((m:Int)-1)=(lr:Int):=by rw[AY _ (by omega)];omega
   have hlm:(lr:Int)<(m:Int):=by omega
   have hl0:(0:Int)≤(lr:Int):=by omega
   have hlc:(lr:Int)≤(cw:Int):=by omega
   have AMF:0<m:=by omega
   have AKs:lr≤100:=by omega
   have vL:=hid (show gk=emp tl*(T.length+3)+(lr+1) by rw[VP,hm,hml]);have qy:=hid hml;have Qr:=hid hlr;have Cb:=hid hBx;have hwl:wrap64 ((m:Int)-1)=(lr:Int):=(Bf.wrap_i64 (by omega) (by omega)).trans (by omega);obtain⟨d,rest,hs⟩:∃d rest,IY T tl T.length 0 x=(d,rest):=⟨_,_,rfl⟩;have uU:=hid (show Calls Tryz.prog 206 #[.agg #[.slice aO T.length cO,.slice aP T.length cP,.slice aC T.length cC],.slice (some ⟨w.heap.size+1,0,none⟩) T.length T.length,.slice (some ⟨gu,0,none⟩) x.length cu] wr fun e w'=>∃v,e= .returned (.tuple #[.int .i64 (d:Int),v])∧Own wr.heap.size w' v (ints rest)∧El T rest∧Below wr.heap.size wr w' from by
    have h:=AC1.out wr _ _ tl x Bj.out TE.out htl HXS.out Cw.out HTE.out;unfold Zt at h;rw[hs]at h;exact h)
   have hle:d≤T.length:=by
    have:=(kG (m:=mul T) (e:=AJ.one T) (f:=fF) (inv:=BS T) (BQ tl) T.length 0 x).2;rw[show strip (mul T) (AJ.one T) fF (BS T) (BQ tl) T.length 0 x=(d,rest) from hs]at this;simpa using this
   have lW:=hid hs;clear hr0 Du hBx hkx hST hml hlr hm VP hs Bj TE HXS AC1;go_wp2_with fail;refine uU.out.mono ?_;rintro e w2 ⟨v2,rfl,ho2,hE2,hb2⟩;have HW2:=hid (vK.out.below hb2);have HB2:=hid (Cb.out.trans (hb2.mono (by omega)));have AMG:=hb2.size;by_cases hdn:d=T.length
   ·have hq:((d:Int)==(T.length:Int))=true:=by simp;omega
    have vM:=hid (QM.out.member (by rw[show strip (mul T) (AJ.one T) fF (BS T) (BQ tl) T.length 0 x=(d,rest) from lW.out];exact hdn));clear ho2 hE2 hb2;go_wp2_with fail;go_roundg (emp tl*(T.length+3)+lr);case measure=>exact msr vL.out
    case rel=>exact⟨tl,rs,htl,Ab (EG (msr vL.out)) ABS,by rw[Qr.out],vM,HW2⟩
   ·have hq:((d:Int)==(T.length:Int))=false:=by simp;omega
    have XT:d<T.length:=by omega
    obtain⟨L,hL⟩:∃L,T[d]?=some L:=⟨_,AP XT⟩;have ig:=HF.out.Vv QM.out.tb T.length 0 x (by omega) ⟨Cw.out,fun j hj=>absurd hj (DX _)⟩;rw[show strip (mul T) (AJ.one T) fF (BS T) (BQ tl) T.length 0 x=(d,rest) from lW.out]at ig;have hA:=ig.1;obtain⟨hf0,htd⟩:=ig.2 XT;simp only at hA hf0 htd;obtain⟨a,ha⟩:∃a,rest[d]?=some a:=⟨_,AP (by rw[Af hE2];exact XT)⟩;have hfa:fF d rest=a:=by unfold fF;rw[Bg,ha];rfl
    have ha0:a≠0:=fun h=>hf0 (hfa.trans h);have hao:a<L.o:=by
     obtain⟨L',hL',hlt⟩:=P7 hE2 ha;rw[hL]at hL';injection hL' with hL';rw[hL'];exact hlt
    have hpr:=Bw.out L (Ar hL);have hoF:oF T d=L.o:=Ou hL;obtain⟨bO,oO,rfl,_,Ch,Bc⟩:=HP.out.ord hL;obtain⟨g2,c2,hv2⟩:=ho2.form (by rw[A7,Af hE2];exact hn0);rw[A7,Af hE2]at hv2;subst hv2;obtain⟨s2,_⟩:=ho2.cell (j:=d) (a:=(a:Int)) (by rw[Gg,ha];rfl);have hk2:=DW HB2.out Any;obtain⟨f0,f1,f2⟩:=Cc HB2.out;have Rc:=(hk2.cell (b:=bO) (o:=oO+d) trivial Ch).trans Bc;have hs2:w.heap.size+2≤w2.heap.size:=HW2.out.sz;have AMH:w.heap.size<w2.heap.size:=by omega
    have QG:bO<w2.heap.size:=by omega
    have AMI:=ho2.lt.2;have hdi:(d:Int)<(T.length:Int):=by omega
    have AMJ:(0:Int)≤(d:Int):=by omega
    have YS:=hid (HP.out.keep hk2);have HR2:=hid (ho2.sl.mono (S':=Any) (fun _ _=>trivial));have HRW:=hid (Vj (ho2.mono (B':=w.heap.size+2) (by have:=HST.out.sz;exact this)) (by rw[Af hE2];exact hn0));have HA:=hid (And.intro hA (And.intro htd (And.intro hfa hoF)));have AKC:=hid hpr;have HE2:=hid hE2;have AMK:L.o≤7:=JP.out.2 L (Ar hL);have Qd:=hid Bc;clear ig hA htd hf0 hfa hoF ha ho2 hk2 hpr hL hE2 hdn Bc e0 e1 e2 JQ;go_wp2_with fail;go_region_held3 (fun w'=>(∀b o,b<w2.heap.size→w'.cell? ⟨b,o,none⟩=w2.cell? ⟨b,o,none⟩)∧AA (fun _=>True) w2 w')
     (first|exact Aj (by repeat(first|exact AB.drew|exact AA.refl _ _|refine AA.trans ?_ (AA.of_below (by assumption)))))
     (first|(go_at_call 207;refine(AG0 a L.o AKC.out hao ha0 _).mono ?_;rintro e w5 ⟨⟨c,rfl,hcp,hc1⟩,rfl⟩)|(go_at_call 93;refine(Cy.out _ (.slice (some ⟨g2,0,none⟩) T.length c2) rest c (by omega) (YS.out.keep (by repeat(first|exact AB.drew|exact AA.refl _ _|exact AB.alloc _|exact(AB.alloc _).drew|refine AA.trans ?_ (AA.of_below (by assumption))))) (HR2.out.keep (by repeat(first|exact AB.drew|exact AA.refl _ _|exact AB.alloc _|exact(AB.alloc _).drew|refine AA.trans ?_ (AA.of_below (by assumption))))) HE2.out).mono ?_;rintro e w6 ⟨v6,rfl,Al,hb6⟩))
    have pQ:Below w2.heap.size w2 w6:=(by repeat(first|exact Ag _ _|exact AR.drew|refine Below.step ?_ AQ (by assumption)));obtain⟨y,hy⟩:∃y,y=npow (mul T) (AJ.one T) rest c:=⟨_,rfl⟩;rw[←hy]at Al;have Gc:El T y:=by rw[hy];exact HG.out.npow HE2.out c
    have hy1:fF d y=1:=by
     rw[hy,HF.out.Nf XT HA.out.1,HA.out.2.2.1,HA.out.2.2.2,Mg];exact hc1
    have HY:=hid (And.intro hy (And.intro Gc hy1));obtain⟨gy,cy,hv6⟩:=Al.form (by rw[A7,Af Gc];exact hn0);rw[A7,Af Gc]at hv6;subst hv6;have VQ:=hid (Vj (Al.mono (B':=w.heap.size+2) (by have h1:=(show AA (fun _=>True) w2 w2.drew from AB.drew).size;omega)) (by rw[Af Gc];exact hn0));have Ac:=hid (HW2.out.below pQ);have pR:tl[d]?=some []:=by
     cases htd:tl[d]? with
     |none=>have:=List.getElem?_eq_none_iff.1 htd;omega
     |some r=>cases r with
      |nil=>rfl
      |cons q r=>have h:=NW htd (by simp);rw[HA.out.2.1]at h;simp at h
    obtain⟨ut,hct,hft,_⟩:=Ac.out.tb.at pR;have iZ:=hid pR;obtain⟨w7,hw7⟩:∃w7,w7=w6.setCell ⟨w.heap.size+1,d,none⟩ (.slice (some ⟨gy,0,none⟩) T.length cy):=⟨_,rfl⟩;have EB:=hid (show St w W0 w7 _ (tl.set d y) rs by rw[hw7];exact Ac.out.put d VQ.out);have Sy:=hid (show CL 2 (w.heap.size+2) w7 (.slice (some ⟨g2,0,none⟩) T.length c2) rest by rw[hw7];exact CL.keep (CL.keep HRW.out (S:=Any) (AA.of_below pQ) (fun _ _=>trivial)) (S:=fun k=>w.heap.size+2≤k) (AB.setCell (p:=⟨w.heap.size+1,d,none⟩) (by simp) (.slice (some ⟨gy,0,none⟩) T.length cy)) (fun _ h=>h));have AC3:=hid (show CL 2 (w.heap.size+2) w7 (.slice (some ⟨gy,0,none⟩) T.length cy) y by rw[hw7];exact CL.keep VQ.out (S:=fun k=>w.heap.size+2≤k) (AB.setCell (p:=⟨w.heap.size+1,d,none⟩) (by simp) (.slice (some ⟨gy,0,none⟩) T.length cy)) (fun _ h=>h));clear hy Gc hy1 Al hb6 pQ pR Rc s2 f0 f1 f2 hb2;obtain⟨us,h1,h2,h4⟩:=EB.out.wk;rw[Qr.out]at h1;have Gz:=hid (And.intro h2 h4);have hs7:=EB.out.sz;clear h2 h4;go_upto_region 11 with fail;rw[←hw7];clear hw7 hct hft;go_wp2_with (at_builtin;(refine GQ _ rfl _ _ 25 rfl (w.heap.size+2) 24 i0 (.slice none 0 0) 1 24 Tryz.underlying25 hi hz0 hz1 hz2 rfl (by decide) _ _ _ rfl (BM h1 (S:=Any) (AB.alloc _) (fun _ _=>trivial)) ⟨w7.heap.size,0,none⟩ 1 1 [.slice (some ⟨g2,0,none⟩) T.length c2] rfl rfl ?c1 ?c2 ?c3 ?c4 ?c5 ?_));case c1=>
     intro j u hj
     match j,hj with
     |0,hj=>simp at hj;subst hj;simp[Addr.add]
    case c2=>intro u hu;simp at hu;subst hu;rfl
    case c3=>unfold maxLen;omega
    case c4=>omega
    case c5=>simp;omega
    ·intro v8 w8 hown hgrow _;have EL:=hid (show St w W0 w8 v8 (tl.set d y) (rs++[rest]) from
      St.grow (EB.out.below (AR.alloc AQ _)) (us:=us) (by rw[Qr.out];exact BM h1 (S:=Any) (AB.alloc _) (fun _ _=>trivial)) Gz.out.1 (fun i r u hr hu=>(Gz.out.2 i r u hr hu).keep (S:=Any) (AB.alloc _) (fun _ _=>trivial)) (Sy.out.keep (S:=Any) (AB.alloc _) (fun _ _=>trivial)) (by rw[Qr.out];exact hown) hgrow)
     have pV:=hid (show CL 2 (w.heap.size+2) w8 (.slice (some ⟨gy,0,none⟩) T.length cy) y from
      kM (AC3.out.keep (S:=Any) (AB.alloc _) (fun _ _=>trivial)) (BM h1 (S:=Any) (AB.alloc _) (fun _ _=>trivial)) hgrow)
     have Kj:=HB0.out.trans EL.out.bl;have Kv:=DW Kj Any;obtain⟨f0,f1,f2⟩:=Cc Kj;have AKD:=(Kv.cell (b:=bO) (o:=oO+d) trivial Ch).trans Qd.out;have Mr:=EL.out.sz;have AKE:w.heap.size<w8.heap.size:=by omega
     have AKF:bO<w8.heap.size:=by omega
     have IG:=hid (HP.out.keep Kv);have HY8:=hid (pV.out.sl.mono (S':=Any) (fun _ _=>trivial));have vN:=hid (HG.out.npow HY.out.2.1 L.o);obtain⟨Yl,q1,q2,q4⟩:=EL.out.wk;rw[show(rs++[rest]).length=lr+1 by simp[Qr.out]]at q1;have OW:=hid (And.intro q1 (And.intro q2 q4));have Et:=hid (show(rs++[rest]).length=lr+1 by simp[Qr.out]);clear hown hgrow h1 Gz Kj Kv q1 q2 q4 EB Sy AC3 Qd;go_upto_region 12 with fail;go_cut [7] (fun wv W=>Hid (St w W0 W wv (tl.set d y) (rs++[rest]++[npow (mul T) (AJ.one T) y L.o]))∧Hid (CL 2 (w.heap.size+2) W (.slice (some ⟨gy,0,none⟩) T.length cy) y));case first=>
      go_region_law
       (first|(go_simp;go_at_call 93;refine(Cy.out _ (.slice (some ⟨gy,0,none⟩) T.length cy) y L.o (by omega) (IG.out.keep (by repeat(first|exact AB.drew|exact AA.refl _ _|exact AB.alloc _|exact(AB.alloc _).drew|refine AA.trans ?_ (AA.of_below (by assumption))))) (HY8.out.keep (by repeat(first|exact AB.drew|exact AA.refl _ _|exact AB.alloc _|exact(AB.alloc _).drew|refine AA.trans ?_ (AA.of_below (by assumption))))) HY.out.2.1).mono ?_;rintro e w9 ⟨v9,rfl,MH,SS⟩;obtain⟨g9,c9,Ym⟩:=MH.form (by rw[A7,Af vN.out];exact hn0);rw[A7,Af vN.out]at Ym;subst Ym;have OM:=SS.size;have AC4:w8.heap.size≤w9.heap.size:=(show AA (fun _=>True) w8 w9 from(by repeat(first|exact AB.drew|exact AA.refl _ _|exact AB.alloc _|exact(AB.alloc _).drew|refine AA.trans ?_ (AA.of_below (by assumption))))).size)|(refine Ot _ (by rfl) _ _ _ (by rfl) (w.heap.size+2) 24 i0 (.slice none 0 0) 1 24 Tryz.underlying25 hi hz0 hz1 hz2 rfl (by omega) v8 (lr+1) Yl (by rfl) ((BM OW.out.1 (S:=Any) (by repeat(first|exact AB.drew|exact AA.refl _ _|exact AB.alloc _|exact(AB.alloc _).drew|refine AA.trans ?_ (AA.of_below (by assumption)))) (fun _ _=>trivial)).alloc _) ⟨w9.heap.size,0,none⟩ 1 1 [.slice (some ⟨g9,0,none⟩) T.length c9] (by rfl) (by rfl) (Ea (cs:= #[.slice (some ⟨g9,0,none⟩) T.length c9]) (t:=24) (fr:=(0,0)) (Av w9 _)) (by simp[Value.oneCell']) (by omega) (by unfold maxLen;omega) (by omega) (by simp;omega) _ rfl ?_;intro gg cap Co IJ EF MR Nk))
      all_goals (go_wp2_with fail;go_meet)
      all_goals
       have LV:Below w8.heap.size w8 w9:=(by repeat(first|exact Ag _ _|exact AR.drew|refine Below.step ?_ AQ (by assumption)));have QN:AA (fun _=>True) w8 w9:=AA.of_below LV;have VR:=BM OW.out.1 (S:=Any) (AA.alloc QN (.cells #[.slice (some ⟨g9,0,none⟩) T.length c9] 24)) (fun _ _=>trivial);have AKG:St w W0 Co (.slice (some ⟨gg,0,none⟩) (lr+1+1) cap) (tl.set d y) (rs++[rest]++[npow (mul T) (AJ.one T) y L.o]):=
        St.grow (EL.out.below (LV.alloc LV.size _)) (us:=Yl) (by rw[Et.out];exact VR) OW.out.2.1 (fun i r u hr hu=>(OW.out.2.2 i r u hr hu).keep (S:=Any) (AA.alloc QN _) (fun _ _=>trivial)) ((Vj (MH.mono (B':=w.heap.size+2) Mr) (by rw[Af vN.out];exact hn0)).keep (S:=Any) (AA.alloc AB _) (fun _ _=>trivial)) (by rw[Et.out];exact IJ) EF
       have AKH:CL 2 (w.heap.size+2) Co (.slice (some ⟨gy,0,none⟩) T.length cy) y:=kM (pV.out.keep (S:=Any) (AA.alloc QN _) (fun _ _=>trivial)) VR EF;exact⟨hid AKG,hid AKH⟩
     case rest=>
      obtain⟨EU,HY9⟩:=hcut;clear EL pV IG HY8 OW AKD f0 f1 f2 Mr AKE AKF Ac VQ HRW HW2 vK HB2 YS HR2 Cb;go_wp2_with fail;go_loopw [7,12] (fun wv ev wr=>∃(e:Nat) (JE:List (List Nat)),e≤T.length∧ev= .int .i64 (e:Int)∧JE.length≤lr+2+e∧Hid (JE=rs++[rest]++[npow (mul T) (AJ.one T) y L.o]++cm T tl d y e)∧Hid (St w W0 wr wv (tl.set d y) JE)∧Hid (CL 2 (w.heap.size+2) wr (.slice (some ⟨gy,0,none⟩) T.length cy) y)) (fun _ ev _=>T.length-(intOf ev).toNat);case atStart=>exact⟨0,_,AU _,rfl,by simp[Qr.out],hid (by simp[cm]),EU,HY9⟩
      case round=>
       obtain⟨e,JE,he,rfl,hrl2,hR2,hS2,hY2⟩:=hrel;have Yn:=HB0.out.trans hS2.out.bl;have hke:=DW Yn Any;obtain⟨f0,f1,f2⟩:=Cc Yn;have hse:=hS2.out.sz;have AML:w.heap.size<wr.heap.size:=by omega
       clear EU HY9;by_cases hlt:e<T.length
       ·by_cases TF:e=d
        ·have hq:((e:Int) !=(d:Int))=false:=by simp[TF]
         have Ph:=hid (show JE=rs++[rest]++[npow (mul T) (AJ.one T) y L.o]++cm T tl d y (e+1) by rw[cm,CU TF,LM];exact hR2.out);subst TF;clear Yn hke hlt;go_wp2_with fail;go_roundw;case rel=>exact⟨e+1,JE,by omega,by go_num,by omega,Ph,hS2,hY2⟩
         case measure=>simp[intOf]<;>omega
        ·have hq:((e:Int) !=(d:Int))=true:=by simp;omega
         have hei:(e:Int)<(T.length:Int):=by omega
         have AMM:(0:Int)≤(e:Int):=by omega
         obtain⟨q,Sb⟩:∃q,tl[e]?=some q:=⟨_,AP (by omega)⟩;obtain⟨uq,hcq,_,MF⟩:=hS2.out.tb.at (i:=e) (r:=q) (by rw[Pz (fun h=>TF h.symm)];exact Sb);have hRs:=MF.sl;obtain⟨aQ,cQ,rfl,_⟩:=AL.open hRs;obtain⟨lq,hlq⟩:∃lq,q.length=lq:=⟨_,rfl⟩;rw[hlq]at hcq hRs;have HQS:=hid hRs;have vQ:=hid Sb;have HED:=hid TF;have HPe:=hid (HP.out.keep hke);have HYe:=hid (hY2.out.sl.mono (S':=Any) (fun _ _=>trivial));clear MF hRs Sb Yn hke;by_cases hq0:q=[]
         ·obtain rfl:0=lq:=by rw[←hlq,hq0];rfl
          have Ki:decide (((0:Nat):Int)>0)=false:=by simp
          have Ph:=hid (show JE=rs++[rest]++[npow (mul T) (AJ.one T) y L.o]++cm T tl d y (e+1) by rw[cm,BU HED.out,Vh (by rw[vQ.out,hq0]),LM];exact hR2.out);clear hlq hq0 hlt TF;go_wp2_with fail;go_roundw;case rel=>exact⟨e+1,JE,by omega,by go_num,by omega,Ph,hS2,hY2⟩
          case measure=>simp[intOf]<;>omega
         ·have AC0:0<lq:=by
           have:q.length≠0:=fun h=>hq0 (EY h);omega
          have Ki:decide ((lq:Int)>0)=true:=by simp;omega
          have Kk:=hid (QM.out.tb e q (NW vQ.out hq0)).2.1.1;have Gu:=hid (show El T (Df (mul T) (BS T) y q) from(by
           have h1:=HG.out.cl Kk.out HY.out.2.1;have h2:=HG.out.cl HY.out.2.1 Kk.out;exact HG.out.cl (HF.out.iM h1) h2))
          have Ph:=hid (show JE++[Df (mul T) (BS T) y q]=rs++[rest]++[npow (mul T) (AJ.one T) y L.o]++cm T tl d y (e+1) by rw[cm,BU HED.out,NW vQ.out hq0,hR2.out,JF]);obtain⟨Yl,q1,q2,q4⟩:=hS2.out.wk;have OW:=hid (And.intro q1 (And.intro q2 q4));clear hlq hq0 hlt TF q1 q2 q4;go_upto_region 17 with fail;rename World=>w8;go_region_law
           (first|(go_simp;go_at_call 208;refine(HCM.out _ (.slice (some ⟨gy,0,none⟩) T.length cy) (.slice aQ lq cQ) y q (HPe.out.keep (by repeat(first|exact AB.drew|exact AA.refl _ _|exact AB.alloc _|exact(AB.alloc _).drew|refine AA.trans ?_ (AA.of_below (by assumption))))) (HYe.out.keep (by repeat(first|exact AB.drew|exact AA.refl _ _|exact AB.alloc _|exact(AB.alloc _).drew|refine AA.trans ?_ (AA.of_below (by assumption))))) (HQS.out.keep (by repeat(first|exact AB.drew|exact AA.refl _ _|exact AB.alloc _|exact(AB.alloc _).drew|refine AA.trans ?_ (AA.of_below (by assumption))))) HY.out.2.1 Kk.out).mono ?_;rintro e' w9 ⟨v9,rfl,MH,SS⟩;obtain⟨g9,c9,Ym⟩:=MH.form (by rw[A7,Af Gu.out];exact hn0);rw[A7,Af Gu.out]at Ym;subst Ym;have OM:=SS.size;have AC4:w8.heap.size≤w9.heap.size:=(show AA (fun _=>True) w8 w9 from(by repeat(first|exact AB.drew|exact AA.refl _ _|exact AB.alloc _|exact(AB.alloc _).drew|refine AA.trans ?_ (AA.of_below (by assumption))))).size)|(refine Ot _ (by rfl) _ _ _ (by rfl) (w.heap.size+2) 24 i0 (.slice none 0 0) 1 24 Tryz.underlying25 hi hz0 hz1 hz2 rfl (by omega) _ JE.length Yl (by rfl) ((BM OW.out.1 (S:=Any) (by repeat(first|exact AB.drew|exact AA.refl _ _|exact AB.alloc _|exact(AB.alloc _).drew|refine AA.trans ?_ (AA.of_below (by assumption)))) (fun _ _=>trivial)).alloc _) ⟨w9.heap.size,0,none⟩ 1 1 [.slice (some ⟨g9,0,none⟩) T.length c9] (by rfl) (by rfl) (Ea (cs:= #[.slice (some ⟨g9,0,none⟩) T.length c9]) (t:=24) (fr:=(0,0)) (Av w9 _)) (by simp[Value.oneCell']) (by omega) (by unfold maxLen;omega) (by omega) (by simp;omega) _ rfl ?_;intro gg cap Co IJ EF MR Nk))
          all_goals
           have LV:Below w8.heap.size w8 w9:=(by repeat(first|exact Ag _ _|exact AR.drew|refine Below.step ?_ AQ (by assumption)));have QN:AA (fun _=>True) w8 w9:=AA.of_below LV;have VR:=BM OW.out.1 (S:=Any) (AA.alloc QN (.cells #[.slice (some ⟨g9,0,none⟩) T.length c9] 24)) (fun _ _=>trivial);have AKI:=hid (show St w W0 Co (.slice (some ⟨gg,0,none⟩) (JE.length+1) cap) (tl.set d y) (JE++[Df (mul T) (BS T) y q]) from
            St.grow (hS2.out.below (LV.alloc LV.size _)) (us:=Yl) VR OW.out.2.1 (fun i r u hr hu=>(OW.out.2.2 i r u hr hu).keep (S:=Any) (AA.alloc QN _) (fun _ _=>trivial)) ((Vj (MH.mono (B':=w.heap.size+2) hse) (by rw[Af Gu.out];exact hn0)).keep (S:=Any) (AA.alloc AB _) (fun _ _=>trivial)) IJ EF)
           have AKJ:=hid (show CL 2 (w.heap.size+2) Co (.slice (some ⟨gy,0,none⟩) T.length cy) y from kM (hY2.out.keep (S:=Any) (AA.alloc QN _) (fun _ _=>trivial)) VR EF);clear LV QN VR IJ EF MR Nk MH SS OM AC4;go_wp2_with fail;go_roundw;case rel=>exact⟨e+1,_,by omega,by go_num,by simp;omega,Ph,AKI,AKJ⟩
           case measure=>simp[intOf]<;>omega
       ·obtain rfl:e=T.length:=by omega
        have hem:=AAN iZ.out (y:=y) (fun h=>by have:=Af HY.out.2.1;rw[h]at this;simp only[List.length_nil]at this;omega);have TC:=hid (show emp (tl.set d y)*(T.length+3)+(lr+2+(cm T tl d y T.length).length)<gk from AKB (by rw[hem];exact vL.out) (yK T tl d y T.length));have HL2:=hid (show JE.length=lr+2+(cm T tl d y T.length).length by rw[hR2.out];simp[Qr.out];omega);have vM:=hid (show INV T im (tl.set d y) JE from by
         unfold INV;rw[zJ (by omega) (fun h=>by have:=Af HY.out.2.1;rw[h]at this;simp only[List.length_nil]at this;omega),hR2.out];refine QM.out.enter HF.out OD.out lW.out XT HY.out.1 HY.out.2.2 (fun w hw=>by simp[hw]) (by simp) (by rw[HA.out.2.2.2];simp) (fun j z hj hz=>?_) (fun w hw=>?_)
         ·exact Z0 _ (AAn (QM.out.tb j z hz).1 hj hz)
         ·rcases Hr.1 hw with h|h
          ·rcases Hr.1 h with h|h
           ·rcases Hr.1 h with h|h
            ·exact .inl h
            ·exact .inr (.inl (Gi.1 h))
           ·exact .inr (.inr (.inl (by rw[HA.out.2.2.2];exact Gi.1 h)))
          ·exact .inr (.inr (.inr (AAo h))))
        clear hem Yn hke hlt;go_wp2_with fail;go_roundg (emp (tl.set d y)*(T.length+3)+JE.length);case measure=>rw[HL2.out];exact TC.out
        case rel=>exact⟨tl.set d y,JE,by simp[htl],Ab (EG (by rw[HL2.out];exact TC.out)) ABS,rfl,vM,hS2⟩
end Go.Proofs.YtlmlamcoeegkbaaGreat.WN
