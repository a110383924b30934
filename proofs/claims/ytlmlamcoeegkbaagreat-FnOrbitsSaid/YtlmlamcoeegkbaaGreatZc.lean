import Derived.Test.YtlmlamcoeegkbaaGreatZ0
import Derived.Test.YtlmlamcoeegkbaaGreatZb
import Derived.Test.YtlmlamcoeegkbaaGreatZa
import Derived.Laws.AppendOwnNone
/-
  Lemmas for the law FnOrbits, in short spelling.
-/
open Go.Lib (hid)
set_option linter.unusedVariables false
set_option linter.unusedSimpArgs false
set_option maxRecDepth 100000
set_option maxHeartbeats 40000000
namespace Go.Proofs.YtlmlamcoeegkbaaGreat.ImplB
open Go.RowKit Go.Proofs.YtlmlamcoeegkbaaGreat Tow
theorem clone_any (S:Nat→Prop)(v:Value)(l:List Int)(w:World)(hv:SlI S w v l)(hl:l.length≤1000000):
  Calls Tryz.prog 125 #[v] w (NewI l w):=by
 obtain⟨i0,hi,hz0,hz1,hz2⟩:=zq41 infoI;obtain⟨ao,c,rfl,hc,hm,hn,hx⟩:=hv;have HL:=hid hl;have HM:=hid hm;clear hl hm;have hsl:SlI S w (.slice ao l.length c) l:=⟨ao,c,rfl,hc,HM.out,hn,hx⟩;have HS:=hid hsl;have h00:=zq47 (base:=w.heap.size) (e:=2) (size:=1) w #[] 0 zqN (zq4 _) rfl;have hen:=fun(w:World) (a:Option Addr) (n c n' c':Nat)=>Lib.run_eql_slice_nil (P:=Tryz.prog) w 24 2 a n c n' c' Tryz.underlying24;clear hsl hx;cases ao with
 |none=>
  obtain rfl:c=0:=hn rfl;obtain rfl:l=[]:=zq21 (by omega);go_enter Tryz.func125,Tryz.ntmps125;go_wp2_with fail;go_ret;exact⟨_,rfl,zq56 _ _ _ _,zq3 _ _⟩
 |some ad=>
  have C1:=hid (SlI.src (w':=w.alloc (.cells #[] 2)) HS.out (zqK.alloc _));have C2:=hid (vals_one l);have C3:=hid (show 0+l.length≤maxLen from by have:=HL.out;unfold maxLen;omega);have C4:=hid (show(0+l.length)*8≤140737488355328 from by have:=HL.out;omega);have C5:=hid (show(vals l).length=l.length*1 by simp[vals]);go_enter Tryz.func125,Tryz.ntmps125;go_wp2_with (at_builtin;refine zq55 _ rfl _ _ 24 rfl w.heap.size 2 i0 (.int .i64 0) 1 8 Tryz.underlying24 hi hz0 hz1 hz2 rfl (by decide) _ _ _ rfl h00 ad l.length c (vals l) rfl C5.out C1.out C2.out C3.out C4.out (by simp) ?_);intro v' w1 hown' hgrow hnil;have hO:Own w.heap.size w1 v' l:=by simpa[Own]using hown'
  have hB:Below w.heap.size w w1:=(zqB.alloc zqN _).grown hgrow (by simp) (by intro k hk;simp[Value.ownBlock]at hk;omega);clear hown' hgrow hnil;go_wp2_with fail;go_ret;exact⟨_,rfl,hO,hB⟩
theorem grown_trans {a b c:World}{row:Option Nat}(h1:a.grownBy b row)(h2:b.grownBy c row):a.grownBy c row:=
 ⟨h2.os.trans h1.os,h2.tape.trans h1.tape,h2.output.trans h1.output,zq11 h1.size h2.size,fun k hk hr=>(h2.block k (zq7 hk h1.size) hr).trans (h1.block k hk hr)⟩
theorem grown_refl (a:World)(row:Option Nat):a.grownBy a row:=⟨rfl,rfl,rfl,zq1 _,fun _ _ _=>rfl⟩
theorem grown_below {a b:World}{row:Option Nat}(h:Below a.heap.size a b):a.grownBy b row:=⟨h.os,h.tape,h.output,h.size,fun k hk _=>h.block k hk⟩
theorem grown_drewN (a:World)(n:Nat)(row:Option Nat):a.grownBy (a.drewN n) row:=⟨rfl,rfl,rfl,zq1 _,fun _ _ _=>rfl⟩
theorem keep_grown {S:Nat→Prop}{a b:World}{g:Nat}(h:a.grownBy b (some g))(hS:¬S g):Keep S a b:=Keep.grown h (fun k hk e=>hS (by cases e;exact hk))
def InPl (B g cap:Nat)(x:List Nat)(w:World)(e:Ending)(w':World):Prop:=e= .returned (.tuple #[])∧Own B w' (.slice (some ⟨g,0,none⟩) x.length cap) (ints x)∧w.grownBy w' (some g)
def TvSpec (T:Tw)(s:Nat):Prop:=∀(S:Nat→Prop) (w:World) (b o B g cap:Nat) (vf:Value) (u e f:List Nat),PtrP S w b o (ofTw T)→SlI S w vf (ints (pad s f))→¬S g→u.length=s→El (T.drop s) e→El (T.drop s) f→
 Own B w (.slice (some ⟨g,0,none⟩) T.length cap) (ints (u++e))→
 Calls Tryz.prog 136 #[.pointer (some ⟨b,o,none⟩),.slice (some ⟨g,0,none⟩) T.length cap,vf] w (InPl B g cap (u++mul (T.drop s) e f) w)
def TgSpec (T:Tw)(j:Nat):Prop:=∀(S:Nat→Prop) (w:World) (b o B g cap:Nat) (x:List Nat),PtrP S w b o (ofTw T)→¬S g→x.length=T.length→El (T.drop j) (x.drop j)→
 Own B w (.slice (some ⟨g,0,none⟩) T.length cap) (ints x)→
 Calls Tryz.prog 141 #[.pointer (some ⟨b,o,none⟩),.slice (some ⟨g,0,none⟩) T.length cap,.int .i64 (j:Int)] w (InPl B g cap (x.take j++tg (T.drop j) (x.drop j)) w)
theorem tv_of (T:Tw)(hT:Wf T)(hs:Small T)(s:Nat)(hsl:s≤T.length)(hg:Tow.Good (T.drop s))(hTg:∀j,s≤j→j<T.length→TgSpec T j):TvSpec T s:=by
 intro S w b o B g cap vf u e f hP hf hSg hu he hfE hO;have hs6:=hs.1;obtain⟨aF,cF,rfl,hF1⟩:=hf.open;have hfl:(pad s f).length=T.length:=by rw[pad_length,El_length hfE];simp;omega
 rw[hfl]at hF1 hf ⊢;obtain⟨V,hV⟩:∃V:Nat→Nat→List Nat,V=fun j k=>vv T s u e f j k:=⟨_,rfl⟩;have HVE:=hid (show∀j k,El (T.drop s) ((V j k).drop s)∧(V j k).length=T.length from fun j k=>by rw[hV];exact⟨vv_El hT hu he f j k,vv_length hT hsl hu he f j k⟩);have HV0:=hid (show V 0 0=u++e by rw[hV];exact vv_start T s u e f);have HVk:=hid (show∀j,j<s→V (j+1) 0=V j 0 from fun j hj=>by rw[hV];exact vv_skip T s u e f j hj);have HVs:=hid (show∀j k,s≤j→j<T.length→(V j k).take j++tg (T.drop j) ((V j k).drop j)=V j (k+1) from fun j k h1 h2=>by rw[hV];exact vv_step hT hg hu he f h1 h2 k);have HVn:=hid (show∀j a,s≤j→j<T.length→f[j-s]?=some a→V j a=V (j+1) 0 from fun j a h1 h2 h3=>by rw[hV];exact vv_next h1 h2 h3);have HVz:=hid (show V T.length 0=u++mul (T.drop s) e f by rw[hV];exact vv_end hT hsl hg he hfE);have HO:=hid hO;have HP:=hid hP;have HF:=hid hf;have HTG:=hid hTg;have HSM:=hid hs;have HFE:=hid hfE;have HFL:=hid hfl;have HUL:=hid hu;clear hO hP hf hTg hV he hfE hs hfl hu;go_enter Tryz.func136,Tryz.ntmps136;go_wp2_with fail;go_loopw [10] (fun j wr=>∃m:Nat,m≤T.length∧j= .int .i64 (m:Int)∧Own B wr (.slice (some ⟨g,0,none⟩) T.length cap) (ints (V m 0))∧w.grownBy wr (some g)) (fun j _=>T.length-(intOf j).toNat);case atStart=>exact⟨0,zq4 _,rfl,by rw[HV0.out];exact HO.out,grown_refl _ _⟩
 case round=>
  obtain⟨m,hm,rfl,ho,hgr⟩:=hrel;have HOr:=hid ho;have HGr:=hid hgr;clear ho hgr;by_cases hlt:m<T.length
  ·obtain⟨a,ha⟩:∃a,(pad s f)[m]?=some a:=⟨_,zq0 (by rw[HFL.out];exact hlt)⟩;obtain⟨bF,oF,rfl,hSF,hbF,hcF⟩:=HF.out.at ha;have ha7:a<7:=by
    by_cases hms:m<s
    ·rw[pad,zq28 (by simp;omega)]at ha;simp[hms]at ha;omega
    ·exact HSM.out.lt (s:=s) (x:=pad s f) (by rw[pad_drop];exact HFE.out) (by omega) ha
   have hk:=keep_grown HGr.out hSg;have hcF2:wr.cell? ⟨bF,oF+m,none⟩=some (.int .i64 (a:Int)):=by rw[hk.cell hSF hbF];exact hcF
   have HA:=hid ha;clear ha hcF hk;go_wp2_with fail;go_loopw [16] (fun k wi=>∃q:Nat,q≤a∧k= .int .i64 (q:Int)∧Own B wi (.slice (some ⟨g,0,none⟩) T.length cap) (ints (V m q))∧w.grownBy wi (some g)) (fun k _=>a-(intOf k).toNat);case atStart=>exact⟨0,zq4 _,rfl,HOr.out,HGr.out⟩
   case round=>
    clear HOr HGr;obtain⟨q,hq,rfl,ho,hgr⟩:=hrel;have HOr:=hid ho;have HGr:=hid hgr;clear ho hgr;by_cases hqa:q<a
    ·have hsm:s≤m:=by
      apply Nat.le_of_not_lt;intro hms;have ha:=HA.out;rw[pad,zq28 (by simp;omega)]at ha;simp[hms]at ha;omega
     go_wp2_with fail;refine(HTG.out m hsm hlt S _ b o B g cap (V m q) (HP.out.keep (keep_grown HGr.out hSg)) hSg (HVE.out m q).2 (by have:=El_drop (HVE.out m q).1 (m-s);rwa[zq66,zq66,zq80 hsm]at this) HOr.out).mono ?_;rintro e' w5 ⟨rfl,ho5,hg5⟩;rw[HVs.out m q hsm hlt]at ho5;rw[show(V m (q+1)).length=T.length from(HVE.out m (q+1)).2]at ho5;have HO5:=hid ho5;have HG5:=hid (grown_trans HGr.out hg5);clear ho5 hg5;go_wp2_with fail;go_roundw;case rel=>exact⟨q+1,by omega,by go_num,HO5.out,HG5.out⟩
     case measure=>simp[intOf];omega
    ·obtain rfl:q=a:=by omega
     have HN:=hid (show V m q=V (m+1) 0 from by
      by_cases hms:m<s
      ·have ha:=HA.out;rw[pad,zq28 (by simp;omega)]at ha;simp[hms]at ha;rw[←ha,HVk.out m hms]
      ·exact HVn.out m q (by omega) hlt (by have ha:=HA.out;rw[pad,zq27 (by simp;omega)]at ha;simpa using ha))
     go_wp2_with fail;go_roundw;case rel=>exact⟨m+1,by omega,by go_num,by rw[←HN.out];exact HOr.out,HGr.out⟩
     case measure=>simp[intOf];omega
  ·obtain rfl:m=T.length:=by omega
   go_wp2_with fail;go_end0;exact⟨rfl,by rw[←HVz.out];have h1:=HOr.out;rw[show(V T.length 0).length=T.length from(HVE.out _ 0).2];exact h1,HGr.out⟩
end Go.Proofs.YtlmlamcoeegkbaaGreat.ImplB
namespace Go.Proofs.YtlmlamcoeegkbaaGreat.ImplC
open Go.RowKit Go.Proofs.YtlmlamcoeegkbaaGreat Tow ImplB
theorem Own_cap {B:Nat}{w:World}{g n cap:Nat}{x:List Int}(h:Own B w (.slice (some ⟨g,0,none⟩) n cap) x):n=x.length∧n≤cap∧cap≤maxLen∧g<w.heap.size:=by
 rcases h.2 with⟨e,_⟩|⟨g',cap',cur,e,_,hh,h1,h2,_⟩
 ·simp at e
 ·simp only[zq40,zq42,zq96,and_true,true_and]at e;obtain⟨rfl,rfl,rfl⟩:=e;exact⟨rfl,h1,h2,(h.lt).2⟩
theorem Own_tail {B:Nat}{w:World}{g n cap:Nat}{x:List Nat}(h:Own B w (.slice (some ⟨g,0,none⟩) n cap) (ints x))(s:Nat)(hs:s≤n):SlI (fun _=>True) w (.slice (some ⟨g,s,none⟩) (n-s) (cap-s)) (ints (x.drop s)):=by
 obtain⟨h1,h2,h3,h4⟩:=Own_cap h;rw[ints_length]at h1;refine⟨some ⟨g,s,none⟩,cap-s,by rw[ints_length,zq34,h1],by rw[ints_length,zq34];omega,by omega,fun e=>absurd e (by simp),fun i y hy=>⟨g,s,rfl,trivial,h4,.int .i64 y,?_,rfl⟩⟩;exact(h.cell (j:=s+i) (a:=y) (by rw[ints_get]at hy ⊢; rw[zq63]at hy;exact hy)).1
theorem SlI_none (w:World)(g:Nat):SlI (fun _=>True) w (.slice (some ⟨g,0,none⟩) 0 0) (ints []):=
 ⟨_,0,rfl,zq1 _,zq4 _,fun e=>absurd e (by simp),fun i y hy=>by simp[ints]at hy⟩
theorem tg_of (T:Tw)(hT:Wf T)(hs:Small T)(j:Nat)(L:Lv)(hL:T[j]?=some L)(hg:Tow.Good (T.drop (j+1)))(hTv:TvSpec T (j+1)):TgSpec T j:=by
 intro S w b o B g cap x hP hSg hxl hxE hO;have hj:j<T.length:=(zq2.1 hL).1;have hs6:=hs.1;have HK:=hid (lvl' hT hL);obtain⟨hc1,hc2,hgl⟩:=(Own_cap hO).2;have HC2:=hid hc2;clear hc2;obtain⟨hSb,hbl,vO,vP,vC,hp0,hp1,hp2,hV⟩:=hP;obtain⟨aO,cO,aP,cP,aC,cC,rfl,rfl,rfl,hO1,hP1,hC1⟩:=hV.open;obtain⟨bO,oO,rfl,hSO,hbO,hcO⟩:=hV.ord hL;obtain⟨bP,oP,uP,rfl,hSP,hbP,hcP,huP⟩:=hV.pow hL;obtain⟨bC,oC,a2,c2,rfl,hSC,hbC,hcC,h21,hC4⟩:=hV.con hL;obtain⟨a,ha⟩:∃a,x[j]?=some a:=⟨_,zq0 (by omega)⟩;have ha7:a<7:=hs.lt hxE zqN ha;have ho7:L.o≤7:=hs.2 L (zq5 hL);have HR:=hid (show x.drop j=a::x.drop (j+1) by rw[zq32 (by omega),(zq2.1 ha).2]);obtain⟨r,hr⟩:∃r,r=x.drop (j+1):=⟨_,rfl⟩;have hrl:r.length=T.length-(j+1):=by rw[hr,zq34,hxl]
 have hne1:¬b=g:=fun e=>hSg (e▸hSb);have hne2:¬bO=g:=fun e=>hSg (e▸hSO);have hne3:¬bP=g:=fun e=>hSg (e▸hSP);have hne4:¬bC=g:=fun e=>hSg (e▸hSC);have HCO:=hid hcO;have HCP:=hid hcP;have HCC:=hid hcC;have HPP:=hid (And.intro hp0 (And.intro hp1 hp2));have HP:=hid (show PtrP S w b o (ofTw T) from⟨hSb,hbl,_,_,_,hp0,hp1,hp2,hV⟩);have HUP:=hid huP;have HC4:=hid hC4;have HO:=hid hO;have HL:=hid hL;have HX:=hid ha;have HXL:=hid hxl;have HXE:=hid (show El (T.drop (j+1)) r by rw[hr];have:=El_drop hxE 1;rwa[zq66,zq66]at this);have HRR:=hid hr;have HRL:=hid hrl;have HTV:=hid hTv;have HG:=hid (grp HK.out.1 hg);have HSM:=hid hs;have hbg:g<w.heap.size:=hgl;have HSL:=hid (show SlI (fun _=>True) w (.slice (some ⟨g,j+1,none⟩) (T.length-(j+1)) (cap-(j+1))) (ints r) by rw[hr];exact Own_tail HO.out (j+1) (by omega));clear hcO hcP hcC hp0 hp1 hp2 huP hC4 hO hL ha hxl hxE hr hTv hg hs hV;go_enter Tryz.func141,Tryz.ntmps141;go_upto_region 0 with fail;go_cut [6] (fun v1 wx=>Own w.heap.size wx v1 (ints r)∧Below w.heap.size w wx);case first=>
  by_cases hcap:cap=j+1
  ·subst hcap;go_wp2_with fail;refine(clone_any (fun _=>True) _ (ints r) _ (by rw[show r=[] from zq21 (by omega)];exact SlI_none _ _) (by rw[ints_length];omega)).mono ?_;rintro e w5 ⟨v5,rfl,ho5,hb5⟩;have HO5:=hid ho5;have HB5:=hid hb5;clear ho5 hb5;go_wp2_with fail;go_meet;exact⟨HO5.out,HB5.out⟩
  ·have hcap2:¬j+1=cap:=fun e=>hcap e.symm;go_wp2_with fail;refine(clone_any (fun _=>True) _ (ints r) _ (HSL.out) (by rw[ints_length];omega)).mono ?_;rintro e w5 ⟨v5,rfl,ho5,hb5⟩;have HO5:=hid ho5;have HB5:=hid hb5;clear ho5 hb5;go_wp2_with fail;go_meet;exact⟨HO5.out,HB5.out⟩
 case rest=>
  obtain⟨hc1o,hc1b⟩:=hcut;obtain⟨aR,cR,rfl,hR1⟩:=hc1o.sl.open;rw[hrl]at hR1 hc1o ⊢;have HR1:=hid (show SlI (fun k=>w.heap.size≤k) wc (.slice aR (T.length-(j+1)) cR) (ints r) from hc1o.sl);have HO1':=hid (HO.out.of_below hc1b);have HG1:=hid (grown_below (row:=some g) hc1b);have HB1:=hid hc1b;clear hc1o hc1b HSL;obtain⟨Z,hZ⟩:∃Z:Nat→List Nat,Z=fun k=>x.take (j+1)++List.replicate k 0++x.drop (j+1+k):=⟨_,rfl⟩;have HZ0:=hid (show Z 0=x by rw[hZ];simp);have HZl:=hid (show∀k,k≤T.length-(j+1)→(Z k).length=T.length from fun k hk=>by rw[hZ];simp[HXL.out];omega);have HZs:=hid (show∀k,k<T.length-(j+1)→(Z k).set (j+1+k) 0=Z (k+1) from fun k hk=>by
   rw[hZ];have hl:=HXL.out;show(x.take (j+1)++List.replicate k 0++x.drop (j+1+k)).set (j+1+k) 0=x.take (j+1)++List.replicate (k+1) 0++x.drop (j+1+(k+1));rw[List.set_append_right _ _ (by simp;omega),zq32 (show j+1+k<x.length by omega)];simp only[zq31,zq75,zq29,hl];rw[show j+1+k-(min (j+1) T.length+k)=0 by omega,zq22,zq101];simp[Nat.add_assoc])
  have HZz:=hid (show Z (T.length-(j+1))=x.take j++a::Tow.one (T.drop (j+1)) from by
   rw[hZ];have hl:=HXL.out;show x.take (j+1)++List.replicate (T.length-(j+1)) 0++x.drop (j+1+(T.length-(j+1)))=_;rw[zq114 (by omega),zq95,zq69,HX.out];simp[Tow.one])
  have HZg:=hid (show∀k,k<T.length-(j+1)→∃y,(Z k)[j+1+k]?=some y from fun k hk=>⟨_,zq0 (by rw[HZl.out k (by omega)];omega)⟩);clear hZ;go_wp2_with fail;go_loopw [17] (fun kv wr=>∃k:Nat,k≤T.length-(j+1)∧kv= .int .i64 (k:Int)∧Own B wr (.slice (some ⟨g,0,none⟩) T.length cap) (ints (Z k))∧wc.grownBy wr (some g)) (fun kv _=>T.length-(intOf kv).toNat);case atStart=>exact⟨0,zq4 _,rfl,by rw[HZ0.out];exact HO1'.out,grown_refl _ _⟩
  case round=>
   obtain⟨k,hk,rfl,ho,hgr⟩:=hrel;by_cases hlt:k<T.length-(j+1)
   ·obtain⟨y,hy⟩:=HZg.out k hlt;obtain⟨s1,f1⟩:=ho.cell (j:=j+1+k) (a:=(y:Int)) (by rw[ints_get,hy];rfl);obtain⟨h1,h2⟩:=ho.set_n (j+1+k) 0;rw[HZs.out k hlt]at h1;have H1:=hid h1;have H2:=hid (grown_trans hgr h2);clear ho hgr hy h1 h2;go_wp2_with fail;go_roundw;case rel=>exact⟨k+1,by omega,by go_num,H1.out,H2.out⟩
    case measure=>simp[intOf];omega
   ·obtain rfl:k=T.length-(j+1):=by omega
    have HOr:=hid ho;have HGr:=hid hgr;clear ho hgr hlt hk;rw[HZz.out]at HOr;have hxt:(x.take j).length=j:=by rw[zq75,HXL.out];omega
    have HXT:=hid hxt;clear hxt;have hga:(x.take j++a::Tow.one (T.drop (j+1)))[j]?=some a:=by rw[zq27 (by rw[HXT.out];exact zq1 _),HXT.out];simp
    obtain⟨s1,f1⟩:=HOr.out.cell (j:=j) (a:=(a:Int)) (by rw[ints_get,hga];rfl);obtain⟨h1,h2⟩:=HOr.out.set_n j (a+1);have hset:∀y,(x.take j++a::Tow.one (T.drop (j+1))).set j y=x.take j++y::Tow.one (T.drop (j+1)):=fun y=>by
     rw[List.set_append_right _ _ (by rw[HXT.out];exact zq1 _),HXT.out,zq127,zq22]
    rw[hset]at h1;have HO2:=hid (show Own B (wr.setCell ⟨g,j,none⟩ (.int .i64 ((a:Int)+1))) (.slice (some ⟨g,0,none⟩) T.length cap) (ints (x.take j++(a+1)::Tow.one (T.drop (j+1)))) from h1);have HG2:=hid (show wc.grownBy (wr.setCell ⟨g,j,none⟩ (.int .i64 ((a:Int)+1))) (some g) from grown_trans HGr.out h2);clear hset h1 h2 hga;go_upto_region 7 with fail;clear s1 f1 HOr HGr;generalize wr.setCell ⟨g,j,none⟩ (.int .i64 ((a:Int)+1))=w3 at HO2 HG2 ⊢;obtain⟨a',ha'⟩:∃a',a'=if a+1=L.o then 0 else a+1:=⟨_,rfl⟩;obtain⟨z0,hz0⟩:∃z0,z0=if a+1=L.o then L.w else Tow.one (T.drop (j+1)):=⟨_,rfl⟩;have HA':=hid ha';have HZ0':=hid hz0;have HZE:=hid (show El (T.drop (j+1)) z0 by rw[hz0];split;exact HK.out.2.2.2.1;exact El_one HK.out.1);clear ha' hz0;have hk3:=Keep.trans (Keep.of_below (S:=S) HB1.out) (keep_grown HG2.out hSg);have hp0:w3.cell? ⟨b,o,none⟩=some (.slice (some ⟨bO,oO,none⟩) T.length cO):=by rw[hk3.cell hSb hbl];exact HPP.out.1
    have hp1:w3.cell? ⟨b,o+1,none⟩=some (.slice (some ⟨bP,oP,none⟩) T.length cP):=by rw[hk3.cell hSb hbl];exact HPP.out.2.1
    have hcO:w3.cell? ⟨bO,oO+j,none⟩=some (.int .i64 (L.o:Int)):=by rw[hk3.cell hSO hbO];exact HCO.out
    have hcP:w3.cell? ⟨bP,oP+j,none⟩=some uP:=by rw[hk3.cell hSP hbP];exact HCP.out
    obtain⟨s1,f1⟩:=HO2.out.cell (j:=j) (a:=(a:Int)+1) (by rw[ints_get,zq27 (by rw[HXT.out];exact zq1 _),HXT.out];simp);have w6:(j:Int)<(T.length:Int):=by omega
    have w7:(0:Int)≤(j:Int):=by omega
    have HP3:=hid (HP.out.keep hk3);have HUP3:=hid (HUP.out.keep hk3);clear hk3;by_cases hcar:a+1=L.o
    ·have hci:((a:Int)+1==(L.o:Int))=true:=by simp;omega
     have HCAR:=hid hcar;clear hcar;go_wp2_with fail;go_quiet (fail);obtain⟨h1,h2⟩:=(HO2.out.drewN nq).set_n j 0;have hset:(x.take j++(a+1)::Tow.one (T.drop (j+1))).set j 0=(x.take j++[0])++Tow.one (T.drop (j+1)):=by
      rw[List.set_append_right _ _ (by rw[HXT.out];exact zq1 _),HXT.out,zq127,zq22];simp
     rw[hset]at h1;have HO4:=hid h1;have HG4:=hid h2;clear hset h1 h2;go_wp2_with fail;refine(HTV.out S _ b o B g cap uP (x.take j++[0]) (Tow.one (T.drop (j+1))) L.w (HP3.out.keep ((zqK.drewN nq).setCell hSg _)) (HUP3.out.keep ((zqK.drewN nq).setCell hSg _)) hSg (by rw[zq31,HXT.out];rfl) (El_one HK.out.1) HK.out.2.2.2.1 HO4.out).mono ?_;rintro e w5 ⟨rfl,ho5,hg5⟩;rw[HG.out.eL HK.out.2.2.2.1]at ho5;have HOS:=hid (show Own B w5 (.slice (some ⟨g,0,none⟩) T.length cap) (ints (x.take j++a'::z0)) from by
      rw[HA'.out,HZ0'.out,zq57 HCAR.out,zq57 HCAR.out];have e1:(x.take j++[0]++L.w).length=T.length:=by rw[zq31,zq31,HXT.out,El_length HK.out.2.2.2.1,zq34];simp;omega
      rw[e1]at ho5;simpa using ho5)
     have HGS:=hid (grown_trans HG2.out (grown_trans (grown_drewN _ nq _) (grown_trans HG4.out hg5)));clear ho5 hg5 s1 f1 hp0 hp1 hcO hcP HO2 HG2 HO4 HG4 HP3 HUP3;go_wp2_with fail;have hxu:(x.take j++[a']).length=j+1:=by rw[zq31,HXT.out];rfl
     have HXU:=hid hxu;have HY7:=hid (show∀k y,r[k]?=some y→y<7 from fun k y hy=>HSM.out.lt (s:=j+1) (x:=x) (by rw[←HRR.out];exact HXE.out) (j:=j+1+k) (by omega) (by rw[HRR.out,zq63]at hy;exact hy));obtain⟨V,hV⟩:∃V:Nat→Nat→List Nat,V=fun m q=>prR (mul (T.drop (j+1))) z0 (Tow.one (T.drop (j+1))) L.c r m q:=⟨_,rfl⟩;have HVE:=hid (show∀m q,El (T.drop (j+1)) (V m q) from fun m q=>by rw[hV];exact prR_inv (El _) (mul _) (fun _ _ p q=>El_mul HK.out.1 p q) _ _ _ _ HZE.out (El_one HK.out.1) HK.out.2.2.1 m q);have HV0:=hid (show V 0 0=z0 by rw[hV];exact prR_zero _ _ _ _ _);have HVs:=hid (show∀m q y,L.c[m]?=some y→mul (T.drop (j+1)) (V m q) y=V m (q+1) from fun m q y hy=>by rw[hV];simp only[prR_step];rw[zq9,hy];rfl);have HVn:=hid (show∀m y,m<T.length-(j+1)→r[m]?=some y→V m y=V (m+1) 0 from fun m y hm hy=>by rw[hV];exact prR_next _ _ _ _ _ _ _ (by rw[HK.out.2.1];omega) hy);have HVz:=hid (show a'::V (T.length-(j+1)) 0=tg (T.drop j) (x.drop j) from by
      rw[hV];simp only[];rw[prR_end _ _ _ _ _ _ (by rw[HK.out.2.1];exact zq1 _) (by rw[HRL.out];exact zq1 _),drop_cons' HL.out,HR.out,←HRR.out,tg,←HA'.out,←HZ0'.out])
     clear hV hxu;go_loopw [60] (fun kv wr=>∃m:Nat,m≤T.length-(j+1)∧kv= .int .i64 (m:Int)∧Own B wr (.slice (some ⟨g,0,none⟩) T.length cap) (ints (x.take j++a'::V m 0))∧wc.grownBy wr (some g)) (fun kv _=>T.length-(intOf kv).toNat);case atStart=>exact⟨0,zq4 _,rfl,by rw[HV0.out];exact HOS.out,HGS.out⟩
     case round=>
      clear HOS HGS;obtain⟨m,hm,rfl,ho,hgr⟩:=hrel;have HOr:=hid ho;have HGr:=hid hgr;clear ho hgr;by_cases hlt:m<T.length-(j+1)
      ·obtain⟨y,hy⟩:∃y,r[m]?=some y:=⟨_,zq0 (by omega)⟩;obtain⟨bR,oR,rfl,hSR,hbR,hcR⟩:=HR1.out.at hy;obtain⟨c,hc⟩:∃c,L.c[m]?=some c:=⟨_,zq0 (by rw[HK.out.2.1];omega)⟩;obtain⟨b2,o2,uc,rfl,hS2,hb2,hc2c,huc⟩:=HC4.out m c hc;have hy7:=HY7.out m y hy;have hbRg:¬bR=g:=by omega
       have hcR2:wr.cell? ⟨bR,oR+m,none⟩=some (.int .i64 (y:Int)):=by rw[(keep_grown (S:=fun k=>¬k=g) HGr.out (by simp)).cell hbRg hbR];exact hcR
       have hd:decide ((m:Int)<((T.length-(j+1):Nat):Int))=true:=by simp;omega
       have HY:=hid hy;have HC:=hid hc;have HC2C:=hid hc2c;have HUC:=hid huc;have HCE:=hid (HK.out.2.2.1 c (zq5 hc));have hcl:L.c.length=T.length-(j+1):=HK.out.2.1;clear hy hc hc2c huc hcR;go_wp2_with fail;go_loopw [66] (fun qv wi=>∃q:Nat,q≤y∧qv= .int .i64 (q:Int)∧Own B wi (.slice (some ⟨g,0,none⟩) T.length cap) (ints (x.take j++a'::V m q))∧wc.grownBy wi (some g)) (fun qv _=>y-(intOf qv).toNat);case atStart=>exact⟨0,zq4 _,rfl,HOr.out,HGr.out⟩
       case round=>
        clear HOr HGr;obtain⟨q,hq,rfl,ho,hgr⟩:=hrel;have HOr:=hid ho;have HGr:=hid hgr;clear ho hgr;by_cases hqy:q<y
        ·have hk4:=Keep.trans (Keep.of_below (S:=S) HB1.out) (keep_grown HGr.out hSg);have g0:wr.cell? ⟨b,o,none⟩=some (.slice (some ⟨bO,oO,none⟩) T.length cO):=by rw[hk4.cell hSb hbl];exact HPP.out.1
         have g2:wr.cell? ⟨b,o+2,none⟩=some (.slice (some ⟨bC,oC,none⟩) T.length cC):=by rw[hk4.cell hSb hbl];exact HPP.out.2.2
         have g3:wr.cell? ⟨bC,oC+j,none⟩=some (.slice (some ⟨b2,o2,none⟩) L.c.length c2):=by rw[hk4.cell hSC hbC];exact HCC.out
         have g4:wr.cell? ⟨b2,o2+m,none⟩=some uc:=by rw[hk4.cell hS2 hb2];exact HC2C.out
         have HP4:=hid (HP.out.keep hk4);have HUC4:=hid (HUC.out.keep hk4);clear hk4;go_wp2_with fail;refine(HTV.out S _ b o B g cap uc (x.take j++[a']) (V m q) c HP4.out HUC4.out hSg HXU.out (HVE.out m q) HCE.out (by simpa using HOr.out)).mono ?_;rintro e w5 ⟨rfl,ho5,hg5⟩;rw[HVs.out m q c HC.out]at ho5;have HO5:=hid (show Own B w5 (.slice (some ⟨g,0,none⟩) T.length cap) (ints (x.take j++a'::V m (q+1))) from by
          have e1:(x.take j++[a']++V m (q+1)).length=T.length:=by rw[zq31,HXU.out,El_length (HVE.out m (q+1)),zq34];omega
          rw[e1]at ho5;simpa using ho5)
         have HG5:=hid (grown_trans HGr.out hg5);clear ho5 hg5;go_wp2_with fail;go_roundw;case rel=>exact⟨q+1,by omega,by go_num,HO5.out,HG5.out⟩
         case measure=>simp[intOf];omega
        ·obtain rfl:q=y:=by omega
         go_wp2_with fail;go_roundw;case rel=>exact⟨m+1,by omega,by go_num,by rw[←HVn.out m q (by omega) HY.out];exact HOr.out,HGr.out⟩
         case measure=>simp[intOf];omega
      ·obtain rfl:m=T.length-(j+1):=by omega
       go_wp2_with fail;go_end0;refine⟨rfl,?_,grown_trans HG1.out HGr.out⟩;rw[←HVz.out];have e1:(x.take j++a'::V (T.length-(j+1)) 0).length=T.length:=by rw[zq31,HXT.out,zq58,El_length (HVE.out _ 0),zq34];omega
       rw[e1];exact HOr.out
    ·have hci:((a:Int)+1==(L.o:Int))=false:=by simp;omega
     have HCAR:=hid hcar;clear hcar;go_wp2_with fail;go_quiet (fail);have HOS:=hid (show Own B (w3.drewN nq) (.slice (some ⟨g,0,none⟩) T.length cap) (ints (x.take j++a'::z0)) from by
      rw[HA'.out,HZ0'.out,zq37 HCAR.out,zq37 HCAR.out];exact HO2.out.drewN nq)
     have HGS:=hid (grown_trans HG2.out (grown_drewN _ nq _));clear s1 f1 hp0 hp1 hcO hcP HO2 HG2 HP3 HUP3;go_wp2_with fail;have hxu:(x.take j++[a']).length=j+1:=by rw[zq31,HXT.out];rfl
     have HXU:=hid hxu;have HY7:=hid (show∀k y,r[k]?=some y→y<7 from fun k y hy=>HSM.out.lt (s:=j+1) (x:=x) (by rw[←HRR.out];exact HXE.out) (j:=j+1+k) (by omega) (by rw[HRR.out,zq63]at hy;exact hy));obtain⟨V,hV⟩:∃V:Nat→Nat→List Nat,V=fun m q=>prR (mul (T.drop (j+1))) z0 (Tow.one (T.drop (j+1))) L.c r m q:=⟨_,rfl⟩;have HVE:=hid (show∀m q,El (T.drop (j+1)) (V m q) from fun m q=>by rw[hV];exact prR_inv (El _) (mul _) (fun _ _ p q=>El_mul HK.out.1 p q) _ _ _ _ HZE.out (El_one HK.out.1) HK.out.2.2.1 m q);have HV0:=hid (show V 0 0=z0 by rw[hV];exact prR_zero _ _ _ _ _);have HVs:=hid (show∀m q y,L.c[m]?=some y→mul (T.drop (j+1)) (V m q) y=V m (q+1) from fun m q y hy=>by rw[hV];simp only[prR_step];rw[zq9,hy];rfl);have HVn:=hid (show∀m y,m<T.length-(j+1)→r[m]?=some y→V m y=V (m+1) 0 from fun m y hm hy=>by rw[hV];exact prR_next _ _ _ _ _ _ _ (by rw[HK.out.2.1];omega) hy);have HVz:=hid (show a'::V (T.length-(j+1)) 0=tg (T.drop j) (x.drop j) from by
      rw[hV];simp only[];rw[prR_end _ _ _ _ _ _ (by rw[HK.out.2.1];exact zq1 _) (by rw[HRL.out];exact zq1 _),drop_cons' HL.out,HR.out,←HRR.out,tg,←HA'.out,←HZ0'.out])
     clear hV hxu;go_loopw [60] (fun kv wr=>∃m:Nat,m≤T.length-(j+1)∧kv= .int .i64 (m:Int)∧Own B wr (.slice (some ⟨g,0,none⟩) T.length cap) (ints (x.take j++a'::V m 0))∧wc.grownBy wr (some g)) (fun kv _=>T.length-(intOf kv).toNat);case atStart=>exact⟨0,zq4 _,rfl,by rw[HV0.out];exact HOS.out,HGS.out⟩
     case round=>
      clear HOS HGS;obtain⟨m,hm,rfl,ho,hgr⟩:=hrel;have HOr:=hid ho;have HGr:=hid hgr;clear ho hgr;by_cases hlt:m<T.length-(j+1)
      ·obtain⟨y,hy⟩:∃y,r[m]?=some y:=⟨_,zq0 (by omega)⟩;obtain⟨bR,oR,rfl,hSR,hbR,hcR⟩:=HR1.out.at hy;obtain⟨c,hc⟩:∃c,L.c[m]?=some c:=⟨_,zq0 (by rw[HK.out.2.1];omega)⟩;obtain⟨b2,o2,uc,rfl,hS2,hb2,hc2c,huc⟩:=HC4.out m c hc;have hy7:=HY7.out m y hy;have hbRg:¬bR=g:=by omega
       have hcR2:wr.cell? ⟨bR,oR+m,none⟩=some (.int .i64 (y:Int)):=by rw[(keep_grown (S:=fun k=>¬k=g) HGr.out (by simp)).cell hbRg hbR];exact hcR
       have hd:decide ((m:Int)<((T.length-(j+1):Nat):Int))=true:=by simp;omega
       have HY:=hid hy;have HC:=hid hc;have HC2C:=hid hc2c;have HUC:=hid huc;have HCE:=hid (HK.out.2.2.1 c (zq5 hc));have hcl:L.c.length=T.length-(j+1):=HK.out.2.1;clear hy hc hc2c huc hcR;go_wp2_with fail;go_loopw [66] (fun qv wi=>∃q:Nat,q≤y∧qv= .int .i64 (q:Int)∧Own B wi (.slice (some ⟨g,0,none⟩) T.length cap) (ints (x.take j++a'::V m q))∧wc.grownBy wi (some g)) (fun qv _=>y-(intOf qv).toNat);case atStart=>exact⟨0,zq4 _,rfl,HOr.out,HGr.out⟩
       case round=>
        clear HOr HGr;obtain⟨q,hq,rfl,ho,hgr⟩:=hrel;have HOr:=hid ho;have HGr:=hid hgr;clear ho hgr;by_cases hqy:q<y
        ·have hk4:=Keep.trans (Keep.of_below (S:=S) HB1.out) (keep_grown HGr.out hSg);have g0:wr.cell? ⟨b,o,none⟩=some (.slice (some ⟨bO,oO,none⟩) T.length cO):=by rw[hk4.cell hSb hbl];exact HPP.out.1
         have g2:wr.cell? ⟨b,o+2,none⟩=some (.slice (some ⟨bC,oC,none⟩) T.length cC):=by rw[hk4.cell hSb hbl];exact HPP.out.2.2
         have g3:wr.cell? ⟨bC,oC+j,none⟩=some (.slice (some ⟨b2,o2,none⟩) L.c.length c2):=by rw[hk4.cell hSC hbC];exact HCC.out
         have g4:wr.cell? ⟨b2,o2+m,none⟩=some uc:=by rw[hk4.cell hS2 hb2];exact HC2C.out
         have HP4:=hid (HP.out.keep hk4);have HUC4:=hid (HUC.out.keep hk4);clear hk4;go_wp2_with fail;refine(HTV.out S _ b o B g cap uc (x.take j++[a']) (V m q) c HP4.out HUC4.out hSg HXU.out (HVE.out m q) HCE.out (by simpa using HOr.out)).mono ?_;rintro e w5 ⟨rfl,ho5,hg5⟩;rw[HVs.out m q c HC.out]at ho5;have HO5:=hid (show Own B w5 (.slice (some ⟨g,0,none⟩) T.length cap) (ints (x.take j++a'::V m (q+1))) from by
          have e1:(x.take j++[a']++V m (q+1)).length=T.length:=by rw[zq31,HXU.out,El_length (HVE.out m (q+1)),zq34];omega
          rw[e1]at ho5;simpa using ho5)
         have HG5:=hid (grown_trans HGr.out hg5);clear ho5 hg5;go_wp2_with fail;go_roundw;case rel=>exact⟨q+1,by omega,by go_num,HO5.out,HG5.out⟩
         case measure=>simp[intOf];omega
        ·obtain rfl:q=y:=by omega
         go_wp2_with fail;go_roundw;case rel=>exact⟨m+1,by omega,by go_num,by rw[←HVn.out m q (by omega) HY.out];exact HOr.out,HGr.out⟩
         case measure=>simp[intOf];omega
      ·obtain rfl:m=T.length-(j+1):=by omega
       go_wp2_with fail;go_end0;refine⟨rfl,?_,grown_trans HG1.out HGr.out⟩;rw[←HVz.out];have e1:(x.take j++a'::V (T.length-(j+1)) 0).length=T.length:=by rw[zq31,HXT.out,zq58,El_length (HVE.out _ 0),zq34];omega
       rw[e1];exact HOr.out
end Go.Proofs.YtlmlamcoeegkbaaGreat.ImplC
namespace Go.Proofs.YtlmlamcoeegkbaaGreat.ImplD
open Go.RowKit Go.Proofs.YtlmlamcoeegkbaaGreat Tow ImplB ImplC
theorem tvg_any (T:Tw)(hT:Wf T)(hs:Small T)(m:Nat):∀s,s≤T.length→T.length-s≤m→Tow.Good (T.drop s)→TvSpec T s∧(s<T.length→TgSpec T s):=by
 induction m with
 |zero=>
  intro s h1 h2 hg;exact⟨tv_of T hT hs s h1 hg (fun j a b=>by omega),fun h=>by omega⟩
 |succ m ih=>
  intro s h1 h2 hg;have hg1:Tow.Good (T.drop (s+1)):=by have:=Good_drop hg 1;rwa[zq66]at this
  have hTg:s<T.length→TgSpec T s:=fun hlt=>
   tg_of T hT hs s _ (zq0 hlt) hg1 (ih (s+1) (by omega) (by omega) hg1).1
  refine⟨tv_of T hT hs s h1 hg (fun j a b=>?_),hTg⟩;by_cases hj:j=s
  ·subst hj;exact hTg b
  ·exact(ih j (by omega) (by omega) (by have:=Good_drop hg (j-s);rwa[zq66,zq80 a]at this)).2 b
theorem tv_any (T:Tw)(hT:Wf T)(hs:Small T)(s:Nat)(h:s≤T.length)(hg:Tow.Good (T.drop s)):TvSpec T s:=(tvg_any T hT hs _ s h zqN hg).1
theorem tg_any (T:Tw)(hT:Wf T)(hs:Small T)(s:Nat)(h:s<T.length)(hg:Tow.Good (T.drop s)):TgSpec T s:=(tvg_any T hT hs _ s (zq44 h) zqN hg).2 h
def NN (v:Value):Prop:=∀n c,v≠.slice none n c
theorem SlI_lt {S:Nat→Prop}{w:World}{v:Value}{l:List Int}(h:SlI S w v l):SlI (fun k=>k<w.heap.size) w v l:=by
 obtain⟨ao,c,h1,h2,h3,h0,h4⟩:=h;exact⟨ao,c,h1,h2,h3,h0,fun i x hx=>by obtain⟨b,o,e1,_,e3,e4⟩:=h4 i x hx;exact⟨b,o,e1,e3,e3,e4⟩⟩
theorem Sl2_lt {S:Nat→Prop}{w:World}{v:Value}{l:List (List Int)}(h:Sl2 S w v l):Sl2 (fun k=>k<w.heap.size) w v l:=by
 obtain⟨ao,c,h1,h2,h3,h0,h4⟩:=h;exact⟨ao,c,h1,h2,h3,h0,fun i x hx=>by obtain⟨b,o,e1,_,e3,u,e4,e5⟩:=h4 i x hx;exact⟨b,o,e1,e3,e3,u,e4,SlI_lt e5⟩⟩
theorem Sl3_lt {S:Nat→Prop}{w:World}{v:Value}{l:List (List (List Int))}(h:Sl3 S w v l):Sl3 (fun k=>k<w.heap.size) w v l:=by
 obtain⟨ao,c,h1,h2,h3,h0,h4⟩:=h;exact⟨ao,c,h1,h2,h3,h0,fun i x hx=>by obtain⟨b,o,e1,_,e3,u,e4,e5⟩:=h4 i x hx;exact⟨b,o,e1,e3,e3,u,e4,Sl2_lt e5⟩⟩
theorem PtrP_lt {S:Nat→Prop}{w:World}{b o:Nat}{P:Pres}(h:PtrP S w b o P):PtrP (fun k=>k<w.heap.size) w b o P:=by
 obtain⟨h1,h2,vO,vP,vC,c1,c2,c3,hv⟩:=h;exact⟨h2,h2,vO,vP,vC,c1,c2,c3,⟨SlI_lt hv.os,Sl2_lt hv.ps,Sl3_lt hv.cs⟩⟩
theorem NN_of {S:Nat→Prop}{w:World}{v:Value}{x:List Nat}(h:SlI S w v (ints x))(hx:0<x.length):NN v:=by
 obtain⟨ao,c,rfl,_,_,_,h4⟩:=h;obtain⟨b,o,rfl,_⟩:=h4 0 (x[0]:Int) (by rw[ints_get,zq0 hx];rfl);intro n c e;simp at e
theorem NN_some (g cap n:Nat):NN (.slice (some ⟨g,0,none⟩) n cap):=fun n c e=>by simp at e
theorem clone_some (S:Nat→Prop)(v:Value)(l:List Int)(w:World)(hv:SlI S w v l)(hn:NN v)(hl:l.length≤1000000):
  Calls Tryz.prog 125 #[v] w (NewS l w):=by
 obtain⟨i0,hi,hz0,hz1,hz2⟩:=zq41 infoI;obtain⟨ao,c,rfl,hc,hm,_,hx⟩:=hv;have HL:=hid hl;have HM:=hid hm;clear hl hm;have hsl:SlI S w (.slice ao l.length c) l:=⟨ao,c,rfl,hc,HM.out,by assumption,hx⟩;have HS:=hid hsl;have h00:=zq47 (base:=w.heap.size) (e:=2) (size:=1) w #[] 0 zqN (zq4 _) rfl;have hen:=fun(w:World) (a:Option Addr) (n c n' c':Nat)=>Lib.run_eql_slice_nil (P:=Tryz.prog) w 24 2 a n c n' c' Tryz.underlying24;cases ao with
 |none=>exact absurd rfl (hn _ _)
 |some ad=>
  have C1:=hid (SlI.src (w':=w.alloc (.cells #[] 2)) HS.out (zqK.alloc _));have C2:=hid (vals_one l);have C3:=hid (show 0+l.length≤maxLen from by have:=HL.out;unfold maxLen;omega);have C4:=hid (show(0+l.length)*8≤140737488355328 from by have:=HL.out;omega);have C5:=hid (show(vals l).length=l.length*1 by simp[vals]);clear hsl hx hn;go_enter Tryz.func125,Tryz.ntmps125;go_wp2_with (at_builtin;refine zq55 _ rfl _ _ 24 rfl w.heap.size 2 i0 (.int .i64 0) 1 8 Tryz.underlying24 hi hz0 hz1 hz2 rfl (by decide) _ _ _ rfl h00 ad l.length c (vals l) rfl C5.out C1.out C2.out C3.out C4.out (by simp) ?_);intro v' w1 hown' hgrow hnil;have hO:Own w.heap.size w1 v' l:=by simpa[Own]using hown'
  have hB:Below w.heap.size w w1:=(zqB.alloc zqN _).grown hgrow (by simp) (by intro k hk;simp[Value.ownBlock]at hk;omega);have hne:v'≠.slice none 0 0:=hnil;clear hown' hgrow hnil;go_wp2_with fail;go_ret;obtain⟨g,cap,rfl⟩:=hO.head hne;exact⟨g,cap,rfl,hO,hB⟩
abbrev Any:Nat→Prop:=fun _=>True
theorem multiply_any (T:Tw)(hT:Wf T)(hs:Small T)(s:Nat)(h:s≤T.length)(hg:Tow.Good (T.drop s))(w:World)(b o:Nat)(va vb:Value)(x y:List Nat)(hP:PtrP Any w b o (ofTw T))(ha:SlI Any w va (ints (pad s x)))(hn:NN va)(hb:SlI Any w vb (ints (pad s y)))
  (hx:El (T.drop s) x) (hy:El (T.drop s) y):
  Calls Tryz.prog 89 #[.pointer (some ⟨b,o,none⟩),va,vb] w (NewS (ints (pad s (mul (T.drop s) x y))) w):=by
 have HTV:=hid (tv_any T hT hs s h hg);have hl:(ints (pad s x)).length=T.length:=by rw[ints_length,pad_length,El_length hx,zq34];omega
 have HL:=hid hl;have HP:=hid hP;have HA:=hid ha;have HB:=hid hb;have HN:=hid hn;have hs6:=hs.1;clear hP ha hb hn hl;go_enter Tryz.func89,Tryz.ntmps89;go_wp2_with fail;refine(clone_some Any _ _ _ HA.out HN.out (by rw[HL.out];omega)).mono ?_;rintro e w1 ⟨g,cap,rfl,ho,hbw⟩;rw[HL.out]at ho ⊢;have HO:=hid ho;have HBW:=hid hbw;have hlt:=ho.lt;clear ho hbw;go_wp2_with fail;have hP1:=(PtrP_lt HP.out).keep (Keep.of_below HBW.out);have hB1:=HB.out.keep (Keep.of_below HBW.out);refine(HTV.out (fun k=>k<w.heap.size) _ b o w.heap.size g cap vb (List.replicate s 0) x y hP1 ((SlI_lt HB.out).keep (Keep.of_below HBW.out)) (by omega) (by simp) hx hy HO.out).mono ?_;rintro e w2 ⟨rfl,ho2,hg2⟩;have HO2:=hid ho2;have HB2:=hid (HBW.out.grown hg2 (by have:=HBW.out.size;omega) (by intro k hk;cases hk;omega));clear ho2 hg2 hP1 hB1;go_wp2_with fail;go_ret;have e1:(ints (pad s (mul (T.drop s) x y))).length=T.length:=by rw[ints_length,pad_length,El_length (El_mul (Wf_drop hT s) hx hy),zq34];omega
 have e2:(List.replicate s 0++mul (T.drop s) x y).length=T.length:=by rw[←ints_length];exact e1
 have h3:=HO2.out;rw[e2]at h3;exact⟨g,cap,by rw[e1];rfl,by rw[e1];exact h3,HB2.out⟩
end Go.Proofs.YtlmlamcoeegkbaaGreat.ImplD
namespace Go.Proofs.YtlmlamcoeegkbaaGreat.ImplE
open Go.RowKit Go.Proofs.YtlmlamcoeegkbaaGreat Tow ImplB ImplC ImplD
theorem mk22 (n:Nat)(hn:n≤6)(w:World):(Instr.makeSlice 24 (.int .i64 (n:Int)) (.int .i64 (n:Int))).run Tryz.prog w= .ok (.slice (some ⟨w.heap.size,0,none⟩) n n) (w.alloc (.cells (madeCells #[.int .i64 0] n) 2)):=
 run_make_row' (P:=Tryz.prog) 24 2 (.int .i64 0) 8 Tryz.underlying24 infoI rfl .i64 .i64 n (by omega) (by omega) w
theorem power_any (T:Tw)(hT:Wf T)(hs:Small T)(s:Nat)(h:s≤T.length)(hg:Tow.Good (T.drop s))(w:World)(b o:Nat)(va:Value)(x:List Nat)(K:Nat)(hK:K≤1000)(hP:PtrP Any w b o (ofTw T))(ha:SlI Any w va (ints (pad s x)))
  (hx:El (T.drop s) x):
  Calls Tryz.prog 85 #[.pointer (some ⟨b,o,none⟩),va,.int .i64 (K:Int)] w (NewS (ints (pad s (npow (mul (T.drop s)) (Tow.one (T.drop s)) x K))) w):=by
 have HTV:=hid (tv_any T hT hs s h hg);have HG:=hid (grp (Wf_drop hT s) hg);have hl:(pad s x).length=T.length:=by rw[pad_length,El_length hx,zq34];omega
 have HL:=hid hl;have hs6:=hs.1;have hmk:=mk22 T.length hs6;have HP:=hid hP;obtain⟨aA,cA,rfl,hA1⟩:=ha.open;rw[hl]at hA1 ha ⊢;have HA:=hid ha;have HX:=hid hx;have HO:=hid (Own.made (B:=w.heap.size) w T.length zqN (by unfold maxLen;omega));clear hP ha hl hx;go_enter Tryz.func85,Tryz.ntmps85;go_wp2_with fail;go_loopw [12] (fun kv wr=>∃k:Nat,k≤K∧kv= .int .i64 (k:Int)∧Own w.heap.size wr (.slice (some ⟨w.heap.size,0,none⟩) T.length T.length) (ints (pad s (npow (mul (T.drop s)) (Tow.one (T.drop s)) x k)))∧Below w.heap.size w wr∧w.heap.size<wr.heap.size) (fun kv _=>K-(intOf kv).toNat);case atStart=>
  refine⟨0,zq4 _,rfl,?_,zqB.alloc zqN _,by simp⟩;have:=HO.out;rw[ints_replicate]at this;rw[npow_zero,one_pad T s h];exact this
 case round=>
  obtain⟨k,hk,rfl,ho,hb,hsz⟩:=hrel;have HOr:=hid ho;have HBr:=hid hb;clear ho hb;by_cases hlt:k<K
  ·go_wp2_with fail;refine(HTV.out (fun k=>k<w.heap.size) _ b o w.heap.size w.heap.size T.length (.slice aA T.length cA) (List.replicate s 0) (npow (mul (T.drop s)) (Tow.one (T.drop s)) x k) x ((PtrP_lt HP.out).keep (Keep.of_below HBr.out)) ((SlI_lt HA.out).keep (Keep.of_below HBr.out)) (by omega) (by simp) (HG.out.npow HX.out k) HX.out HOr.out).mono ?_;rintro e w2 ⟨rfl,ho2,hg2⟩;have e2:(List.replicate s 0++mul (T.drop s) (npow (mul (T.drop s)) (Tow.one (T.drop s)) x k) x).length=T.length:=by
    rw[zq31,El_length (HG.out.cl (HG.out.npow HX.out k) HX.out),zq34,zq29];omega
   rw[e2,←npow_succ (mul (T.drop s))]at ho2;have HO2:=hid ho2;have HB2:=hid (HBr.out.grown hg2 (by omega) (by intro k hk;cases hk;omega));have hsz2:w.heap.size<w2.heap.size:=zq7 hsz hg2.size;clear ho2 hg2 e2;go_wp2_with fail;go_roundw;case rel=>exact⟨k+1,by omega,by go_num,HO2.out,HB2.out,hsz2⟩
   case measure=>simp[intOf];omega
  ·obtain rfl:k=K:=by omega
   go_wp2_with fail;go_ret;have e1:(ints (pad s (npow (mul (T.drop s)) (Tow.one (T.drop s)) x k))).length=T.length:=by rw[ints_length,pad_length,El_length (HG.out.npow HX.out k),zq34];omega
   exact⟨w.heap.size,T.length,by rw[e1];rfl,by rw[e1];exact HOr.out,HBr.out⟩
theorem imageBy_any (T:Tw)(hT:Wf T)(hs:Small T)(i:Nat)(L:Lv)(hL:T[i]?=some L)(hg:Tow.Good (T.drop (i+1)))(w:World)(b o:Nat)(vx:Value)(x:List Nat)(hP:PtrP Any w b o (ofTw T))(hx:SlI Any w vx (ints x))
  (hxl:x.length=T.length) (hxE:El (T.drop (i+1)) (x.drop (i+1))):
  Calls Tryz.prog 152 #[.pointer (some ⟨b,o,none⟩),.int .i64 (i:Int),vx] w (NewS (ints (pad (i+1) (img (T.drop (i+1)) L.c (x.drop (i+1))))) w):=by
 have hi:i<T.length:=(zq2.1 hL).1;have HTV:=hid (tv_any T hT hs (i+1) (by omega) hg);have hs6:=hs.1;have hmk:=mk22 T.length hs6;have HK:=hid (lvl' hT hL);have HP:=hid hP;obtain⟨hSb,hbl,vO,vP,vC,hp0,hp1,hp2,hV⟩:=hP;obtain⟨aO,cO,aP,cP,aC,cC,rfl,rfl,rfl,hO1,hP1,hC1⟩:=hV.open;obtain⟨bC,oC,a2,c2,rfl,hSC,hbC,hcC,h21,hC4⟩:=hV.con hL;obtain⟨aX,cX,rfl,hX1⟩:=hx.open;rw[hxl]at hX1 hx ⊢;have hcl:L.c.length=T.length-(i+1):=HK.out.2.1;have HX:=hid hx;have HC4:=hid hC4;have HSM:=hid hs;have HXE:=hid hxE;have HXL:=hid hxl;have HO:=hid (Own.made (B:=w.heap.size) w T.length zqN (by unfold maxLen;omega));obtain⟨V,hVV⟩:∃V:Nat→Nat→List Nat,V=fun m q=>prR (mul (T.drop (i+1))) (Tow.one (T.drop (i+1))) (Tow.one (T.drop (i+1))) L.c (x.drop (i+1)) m q:=⟨_,rfl⟩;have HVE:=hid (show∀m q,El (T.drop (i+1)) (V m q) from fun m q=>by rw[hVV];exact prR_inv (El _) (mul _) (fun _ _ p q=>El_mul HK.out.1 p q) _ _ _ _ (El_one HK.out.1) (El_one HK.out.1) HK.out.2.2.1 m q);have HV0:=hid (show V 0 0=Tow.one (T.drop (i+1)) by rw[hVV];exact prR_zero _ _ _ _ _);have HVs:=hid (show∀m q y,L.c[m]?=some y→mul (T.drop (i+1)) (V m q) y=V m (q+1) from fun m q y hy=>by rw[hVV];simp only[prR_step];rw[zq9,hy];rfl);have HVn:=hid (show∀m y,m<T.length-(i+1)→x[i+1+m]?=some y→V m y=V (m+1) 0 from fun m y hm hy=>by rw[hVV];exact prR_next _ _ _ _ _ _ _ (by rw[HK.out.2.1];omega) (by rw[zq63];exact hy));have HVz:=hid (show V (T.length-(i+1)) 0=img (T.drop (i+1)) L.c (x.drop (i+1)) from by rw[hVV];exact prR_end _ _ _ _ _ _ (by rw[HK.out.2.1];exact zq1 _) (by rw[zq34,hxl];exact zq1 _));clear hx hxE hxl hs hC4 hV hVV hL hT hg;go_enter Tryz.func152,Tryz.ntmps152;go_wp2_with fail;go_loopw [21] (fun jv wr=>∃m:Nat,m≤T.length-(i+1)∧jv= .int .i64 (m:Int)∧Own w.heap.size wr (.slice (some ⟨w.heap.size,0,none⟩) T.length T.length) (ints (pad (i+1) (V m 0)))∧Below w.heap.size w wr∧w.heap.size<wr.heap.size) (fun jv _=>T.length-(intOf jv).toNat);case atStart=>
  refine⟨0,zq4 _,rfl,?_,zqB.alloc zqN _,by simp⟩;have:=HO.out;rw[ints_replicate]at this;rw[HV0.out,one_pad T (i+1) (by omega)];exact this
 case round=>
  obtain⟨m,hm,rfl,ho,hb,hsz⟩:=hrel;have HOr:=hid ho;have HBr:=hid hb;have HKr:=hid (Keep.of_below (S:=Any) hb);clear ho hb;by_cases hlt:m<T.length-(i+1)
  ·obtain⟨y,hy⟩:∃y,x[i+1+m]?=some y:=⟨_,zq0 (by rw[HXL.out];omega)⟩;obtain⟨bX,oX,rfl,_,hbX,hcX⟩:=HX.out.at hy;obtain⟨c,hc⟩:∃c,L.c[m]?=some c:=⟨_,zq0 (by omega)⟩;obtain⟨b2,o2,uc,rfl,_,hb2,hc2c,huc⟩:=HC4.out m c hc;have hy7:y<7:=HSM.out.lt HXE.out (by omega) hy;have hcx:wr.cell? ⟨bX,oX+(i+1+m),none⟩=some (.int .i64 (y:Int)):=by rw[HKr.out.cell trivial hbX];exact hcX
   have hcc:wr.cell? ⟨b2,o2+m,none⟩=some uc:=by rw[HKr.out.cell trivial hb2];exact hc2c
   have hd:decide ((m:Int)<((T.length-(i+1):Nat):Int))=true:=by simp;omega
   have HY:=hid hy;have HC:=hid hc;have HUC:=hid huc;have HCE:=hid (HK.out.2.2.1 c (zq5 hc));clear hy hc huc hcX hc2c;go_wp2_with fail;go_loopw [33] (fun qv wi=>∃q:Nat,q≤y∧qv= .int .i64 (q:Int)∧Own w.heap.size wi (.slice (some ⟨w.heap.size,0,none⟩) T.length T.length) (ints (pad (i+1) (V m q)))∧Below w.heap.size w wi∧w.heap.size<wi.heap.size) (fun qv _=>y-(intOf qv).toNat);case atStart=>exact⟨0,zq4 _,rfl,HOr.out,HBr.out,hsz⟩
   case round=>
    clear HOr HBr HKr hcx hcc;obtain⟨q,hq,rfl,ho,hb,hsz⟩:=hrel;have HOr:=hid ho;have HBr:=hid hb;clear ho hb;by_cases hqy:q<y
    ·go_wp2_with fail;refine(HTV.out (fun k=>k<w.heap.size) _ b o w.heap.size w.heap.size T.length uc (List.replicate (i+1) 0) (V m q) c ((PtrP_lt HP.out).keep (Keep.of_below HBr.out)) ((SlI_lt HUC.out).keep (Keep.of_below HBr.out)) (by omega) (by simp) (HVE.out m q) HCE.out HOr.out).mono ?_;rintro e w2 ⟨rfl,ho2,hg2⟩;rw[HVs.out m q c HC.out]at ho2;have e2:(List.replicate (i+1) 0++V m (q+1)).length=T.length:=by
      rw[zq31,El_length (HVE.out m (q+1)),zq34,zq29];omega
     rw[e2]at ho2;have HO2:=hid ho2;have HB2:=hid (HBr.out.grown hg2 (by omega) (by intro k hk;cases hk;omega));have hsz2:w.heap.size<w2.heap.size:=zq7 hsz hg2.size;clear ho2 hg2 e2;go_wp2_with fail;go_roundw;case rel=>exact⟨q+1,by omega,by go_num,HO2.out,HB2.out,hsz2⟩
     case measure=>simp[intOf];omega
    ·obtain rfl:q=y:=by omega
     go_wp2_with fail;go_roundw;case rel=>exact⟨m+1,by omega,by go_num,by rw[←HVn.out m q (by omega) HY.out];exact HOr.out,HBr.out,hsz⟩
     case measure=>simp[intOf];omega
  ·obtain rfl:m=T.length-(i+1):=by omega
   go_wp2_with fail;go_ret;rw[←HVz.out];have e1:(ints (pad (i+1) (V (T.length-(i+1)) 0))).length=T.length:=by rw[ints_length,pad_length,El_length (HVE.out _ 0),zq34];omega
   exact⟨w.heap.size,T.length,by rw[e1];rfl,by rw[e1];exact HOr.out,HBr.out⟩
end Go.Proofs.YtlmlamcoeegkbaaGreat.ImplE
namespace Go.Proofs.YtlmlamcoeegkbaaGreat.ImplF
open Go.RowKit Go.Proofs.YtlmlamcoeegkbaaGreat Tow ImplB ImplC ImplD ImplE
theorem tg_step {T:Tw}(h:Wf T){s j:Nat}(hj:s≤j)(hjn:j<T.length)(hg:Tow.Good (T.drop (j+1))){v:List Nat}(hv:El (T.drop s) v):
  (pad s v).take j++tg (T.drop j) ((pad s v).drop j)=pad s (mul (T.drop s) v (unit (T.drop s) (j-s)))∧mul (T.drop s) v (unit (T.drop s) (j-s))=v.take (j-s)++tg (T.drop j) (v.drop (j-s)):=by
 obtain⟨t,rfl⟩:∃t,j=s+t:=⟨j-s,by omega⟩;rw[Nat.add_sub_cancel_left];have hwf:=Wf_drop h s;have hd:(T.drop s).drop t=T.drop (s+t):=by rw[zq66]
 have hL:T.drop (s+t)=T[s+t]::T.drop (s+t+1):=zq32 hjn;have hvd:=El_drop hv t;rw[hd]at hvd;have e0:mul (T.drop s) v (unit (T.drop s) t)=v.take t++tg (T.drop (s+t)) (v.drop t):=by
  rw[show unit (T.drop s) t=pad t (unit ((T.drop s).drop t) 0) from(unit_pad (T.drop s) t 0 (by simp;omega)).symm,mul_pad hwf t hv (El_unit (Wf_drop hwf t) 0) (by simp;omega),hd];rw[hL]at hvd ⊢;rw[tg_mul (by rw[←hL];exact Wf_drop h (s+t)) hg hvd]
 refine⟨?_,e0⟩;have e1:(pad s v).take (s+t)=List.replicate s 0++v.take t:=by simp[pad,List.take_append]
 have e2:(pad s v).drop (s+t)=v.drop t:=by simp[pad,List.drop_append]
 rw[e1,e2,zq74,e0];rfl
def InvR (T:Tw)(s:Nat)(x:List Nat)(w:World)(e:Ending)(w':World):Prop:=∃y,(El (T.drop s) y∧mul (T.drop s) x y=Tow.one (T.drop s))∧NewS (ints (pad s y)) w e w'
theorem inv_next {T:Tw}{i:Nat}{L:Lv}(hL:T[i]?=some L){s:Nat}(hs:s≤i){R:List Nat}{a:Nat}(ha:R[i-s]?=some a):
  (R.take (i-s)++tg (T.drop i) (R.drop (i-s)))[i-s]?=some (if a+1=L.o then 0 else a+1)∧(R.take (i-s)++tg (T.drop i) (R.drop (i-s))).take (i-s)=R.take (i-s):=by
 have hlt:i-s<R.length:=(zq2.1 ha).1;have hl:(R.take (i-s)).length=i-s:=by rw[zq75];omega
 rw[drop_cons' hL,zq32 hlt,(zq2.1 ha).2,tg];constructor
 ·rw[zq27 (by omega),hl,zq127];rfl
 ·rw[List.take_append_of_le_length (by omega),zq90 (by omega)]
def left (o a:Nat):Nat:=if a=0 then 0 else o-a
theorem invert_any (T:Tw)(hT:Wf T)(hs:Small T)(s:Nat)(h:s≤T.length)(hg:Tow.Good (T.drop s))(w:World)(b o:Nat)(va:Value)(x:List Nat)(hP:PtrP Any w b o (ofTw T))(ha:SlI Any w va (ints (pad s x)))(hn:NN va)
  (hx:El (T.drop s) x):
  Calls Tryz.prog 90 #[.pointer (some ⟨b,o,none⟩),va] w (InvR T s x w):=by
 have hgj:∀j,s≤j→Tow.Good (T.drop j):=fun j hj=>by have:=Good_drop hg (j-s);rwa[zq66,zq80 hj]at this
 have HTG:=hid (fun j (h1:s≤j) (h2:j<T.length)=>tg_any T hT hs j h2 (hgj j h1));have HST:=hid (fun j (h1:s≤j) (h2:j<T.length) {v:List Nat} (hv:El (T.drop s) v)=>tg_step hT h1 h2 (hgj (j+1) (by omega)) hv);have HG:=hid (grp (Wf_drop hT s) hg);have hl:(pad s x).length=T.length:=by rw[pad_length,El_length hx,zq34];omega
 have HL:=hid (show(ints (pad s x)).length=T.length by rw[ints_length];exact hl);have hs6:=hs.1;have hmk:=mk22 T.length hs6;have HP:=hid hP;have HN:=hid hn;obtain⟨aA,cA,rfl,hA1⟩:=ha.open;rw[hl]at hA1 ha ⊢;rw[hl]at HN;have HA:=hid ha;have HX:=hid hx;have HSM:=hid hs;have HT:=hid hT;have HGJ:=hid hgj;clear hP ha hl hx hn hs hT hg hgj;go_enter Tryz.func90,Tryz.ntmps90;go_wp2_with fail;refine(clone_some Any _ (ints (pad s x)) _ HA.out HN.out (by rw[HL.out];omega)).mono ?_;rintro e w1 ⟨g1,c1,rfl,ho1,hb1⟩;rw[HL.out]at ho1 ⊢;have hlt1:=ho1.lt;have HO1:=hid (ho1.alloc (.cells (madeCells #[.int .i64 0] T.length) 2));have HO2:=hid (Own.made (B:=w.heap.size) w1 T.length hb1.size (by unfold maxLen;omega));have HB1:=hid (hb1.alloc hb1.size (.cells (madeCells #[.int .i64 0] T.length) 2));have hz1:=hb1.size;clear ho1 hb1;go_wp2_with fail;go_loopw [15] (fun iv wr=>∃i:Nat,i≤T.length∧iv= .int .i64 (i:Int)∧∃R O:List Nat,Own w.heap.size wr (.slice (some ⟨g1,0,none⟩) T.length c1) (ints (pad s R))∧Own w.heap.size wr (.slice (some ⟨w1.heap.size,0,none⟩) T.length T.length) (ints (pad s O))∧
   Hid (El (T.drop s) R∧El (T.drop s) O∧mul (T.drop s) x O=R∧R.take (i-s)=List.replicate (i-s) 0)∧Below w.heap.size w wr∧w1.heap.size<wr.heap.size) (fun iv _=>T.length-(intOf iv).toNat)
 case atStart=>
  refine⟨0,zq4 _,rfl,x,Tow.one (T.drop s),HO1.out,?_,hid ⟨HX.out,HG.out.me,HG.out.eR HX.out,by simp⟩,HB1.out,by simp⟩;have:=HO2.out;rw[ints_replicate]at this;rw[one_pad T s h];exact this
 case round=>
  obtain⟨i,hi,rfl,R,O,hoR,hoO,hR,hb,hsz⟩:=hrel;have HOR:=hid hoR;have HOO:=hid hoO;have HBr:=hid hb;clear hoR hoO hb HO1 HO2 HB1;by_cases hlt:i<T.length
  ·have hd:decide ((i:Int)<(T.length:Int))=true:=by simp;omega
   obtain⟨L,hL⟩:∃L,T[i]?=some L:=⟨_,zq0 hlt⟩;have ho7:L.o≤7:=HSM.out.2 L (zq5 hL);have HLL:=hid hL;clear hL;go_wp2_with fail;go_loopg [18] (left L.o ((pad s R).getD i 0)) (fun k _ wi=>∃R O:List Nat,Own w.heap.size wi (.slice (some ⟨g1,0,none⟩) T.length c1) (ints (pad s R))∧Own w.heap.size wi (.slice (some ⟨w1.heap.size,0,none⟩) T.length T.length) (ints (pad s O))∧
    Hid (El (T.drop s) R∧El (T.drop s) O∧mul (T.drop s) x O=R∧R.take (i-s)=List.replicate (i-s) 0∧k=left L.o ((pad s R).getD i 0))∧Below w.heap.size w wi∧w1.heap.size<wi.heap.size)
   case atStart=>exact⟨R,O,HOR.out,HOO.out,hid ⟨hR.out.1,hR.out.2.1,hR.out.2.2.1,hR.out.2.2.2,rfl⟩,HBr.out,hsz⟩
   case round=>
    clear HOR HOO HBr hR;obtain⟨R,O,hoR,hoO,hR,hb,hsz⟩:=hrel;have hRl:(pad s R).length=T.length:=by rw[pad_length,El_length hR.out.1,zq34];omega
    obtain⟨a,ha⟩:∃a,(pad s R)[i]?=some a:=⟨_,zq0 (by omega)⟩;obtain⟨s1,f1⟩:=hoR.cell (j:=i) (a:=(a:Int)) (by rw[ints_get,ha];rfl);have hleft:(pad s R).getD i 0=a:=by rw[zq9,ha];rfl
    have HLE:=hid hleft;have HA:=hid ha;have HOR:=hid hoR;have HOO:=hid hoO;have HBr:=hid hb;clear hoR hoO hb ha hleft hRl;by_cases h0:a=0
    ·subst h0;have HRT:=hid (show R.take (i+1-s)=List.replicate (i+1-s) 0 from by
      by_cases hsi:i<s
      ·rw[show i+1-s=0 by omega];rfl
      ·have ha:=HA.out;rw[pad,zq27 (by simp;omega)]at ha;simp only[zq29]at ha;rw[show i+1-s=(i-s)+1 by omega,zq69,hR.out.2.2.2.1,ha,zq101];rfl)
     go_wp2_with fail;go_roundw;case rel=>exact⟨i+1,by omega,by go_num,R,O,HOR.out,HOO.out,hid ⟨hR.out.1,hR.out.2.1,hR.out.2.2.1,HRT.out⟩,HBr.out,hsz⟩
     case measure=>simp[intOf];omega
    ·have h1:((a:Int) !=0)=true:=by simpa using h0
     have hsi:s≤i:=by
      apply Nat.le_of_not_lt;intro hsi;have ha:=HA.out;rw[pad,zq28 (by simp;omega)]at ha;simp[hsi]at ha;omega
     have hat:R[i-s]?=some a:=by
      have ha:=HA.out;rw[pad,zq27 (by simp;omega)]at ha;simpa using ha
     have hao:a<L.o:=by
      obtain⟨L',hL',hlt'⟩:=El_lt hR.out.1 hat;rw[zq63,zq80 hsi,HLL.out]at hL';cases hL';exact hlt'
     have HAT:=hid hat;have hA2:=(HST.out i hsi hlt hR.out.1);have hO2:=(HST.out i hsi hlt hR.out.2.1);obtain⟨U,hU⟩:∃U,U=unit (T.drop s) (i-s):=⟨_,rfl⟩;rw[←hU]at hA2 hO2;have HUE:=hid (show El (T.drop s) U by rw[hU];exact El_unit (Wf_drop HT.out s) _);have HNX:=hid (inv_next HLL.out hsi hat);have HA2:=hid hA2;have HO2:=hid hO2;have HZS:=hid (show∀X:List Nat,El (T.drop s) X→(pad s X).length=T.length from fun X hX=>by rw[pad_length,El_length hX,zq34];omega);clear hat hA2 hO2 hU;go_wp2_with fail;refine(HTG.out i hsi hlt (fun k=>k<w.heap.size) _ b o w.heap.size g1 c1 (pad s R) ((PtrP_lt HP.out).keep (Keep.of_below HBr.out)) (by omega) (HZS.out R hR.out.1) (by have:=El_drop hR.out.1 (i-s);rw[zq66,zq80 hsi]at this;rw[show(pad s R).drop i=R.drop (i-s) by simp[pad,List.drop_append];omega];exact this) HOR.out).mono ?_;rintro e w2 ⟨rfl,ho2,hg2⟩;rw[HA2.out.1,HZS.out _ (HG.out.cl hR.out.1 HUE.out)]at ho2;have HOR2:=hid ho2;have HOO2:=hid (HOO.out.keep (S:=fun k=>¬k=g1) (Keep.grown hg2 (fun k hk e=>hk (zq102 e))) (fun k hk=>by simp[Value.ownBlock]at hk;omega));have HB2:=hid (HBr.out.grown hg2 (by omega) (by intro k hk;cases hk;omega));have hsz2:w1.heap.size<w2.heap.size:=zq7 hsz hg2.size;clear ho2 hg2 s1 f1;go_wp2_with fail;refine(HTG.out i hsi hlt (fun k=>k<w.heap.size) _ b o w.heap.size w1.heap.size T.length (pad s O) ((PtrP_lt HP.out).keep (Keep.of_below HB2.out)) (by omega) (HZS.out O hR.out.2.1) (by have:=El_drop hR.out.2.1 (i-s);rw[zq66,zq80 hsi]at this;rw[show(pad s O).drop i=O.drop (i-s) by simp[pad,List.drop_append];omega];exact this) HOO2.out).mono ?_;rintro e w3 ⟨rfl,ho3,hg3⟩;rw[HO2.out.1,HZS.out _ (HG.out.cl hR.out.2.1 HUE.out)]at ho3;have HOO3:=hid ho3;have HOR3:=hid (HOR2.out.keep (S:=fun k=>¬k=w1.heap.size) (Keep.grown hg3 (fun k hk e=>hk (zq102 e))) (fun k hk=>by simp[Value.ownBlock]at hk;omega));have HB3:=hid (HB2.out.grown hg3 (by omega) (by intro k hk;cases hk;omega));have hsz3:w1.heap.size<w3.heap.size:=zq7 hsz2 hg3.size;clear ho3 hg3;go_wp2_with fail;go_roundg (left L.o ((pad s (mul (T.drop s) R U)).getD i 0));case measure=>
      have ha':(pad s (mul (T.drop s) R U)).getD i 0=if a+1=L.o then 0 else a+1:=by
       rw[zq9,pad,zq27 (by simp;omega),zq29,HA2.out.2,HNX.out.1];rfl
      rw[hR.out.2.2.2.2,HLE.out,ha'];unfold left;by_cases hc:a+1=L.o
      ·rw[zq57 hc,zq57 rfl,zq37 h0];omega
      ·rw[zq37 hc,zq37 (by omega),zq37 h0];omega
     case rel=>
      exact⟨mul (T.drop s) R U,mul (T.drop s) O U,HOR3.out,HOO3.out,hid ⟨HG.out.cl hR.out.1 HUE.out,HG.out.cl hR.out.2.1 HUE.out,by rw[←HG.out.asc HX.out hR.out.2.1 HUE.out,hR.out.2.2.1],by rw[HA2.out.2,HNX.out.2];exact hR.out.2.2.2.1,rfl⟩,HB3.out,hsz3⟩
  ·obtain rfl:i=T.length:=by omega
   go_wp2_with fail;go_ret;have e1:(ints (pad s O)).length=T.length:=by rw[ints_length,pad_length,El_length hR.out.2.1,zq34];omega
   have e2:R=Tow.one (T.drop s):=by
    have:=hR.out.2.2.2;rw[zq90 (by rw[El_length hR.out.1,zq34];exact zq1 _)]at this;rw[this];simp[Tow.one]
   exact⟨O,⟨hR.out.2.1,by rw[hR.out.2.2.1,e2]⟩,w1.heap.size,T.length,by rw[e1];rfl,by rw[e1];exact HOO.out,HBr.out⟩
end Go.Proofs.YtlmlamcoeegkbaaGreat.ImplF
namespace Go.Proofs.YtlmlamcoeegkbaaGreat.ImplG
open Go.RowKit Go.Proofs.YtlmlamcoeegkbaaGreat Tow ImplB ImplC ImplD ImplE ImplF
def EqR (a b:List Int)(w:World)(e:Ending)(w':World):Prop:=e= .returned (.bool (decide (a=b)))∧∃n,w'=w.drewN n
def CjR (T:Tw)(s:Nat)(a c:List Nat)(w:World)(e:Ending)(w':World):Prop:=∃z,(El (T.drop s) z∧mul (T.drop s) c z=mul (T.drop s) a c)∧NewS (ints (pad s z)) w e w'
theorem conjugate_any (T:Tw)(hT:Wf T)(hs:Small T)(s:Nat)(h:s≤T.length)(hg:Tow.Good (T.drop s))(w:World)(b o:Nat)(va vc:Value)(x y:List Nat)(hP:PtrP Any w b o (ofTw T))(ha:SlI Any w va (ints (pad s x)))(hn:NN va)(hb:SlI Any w vc (ints (pad s y)))(hnc:NN vc)
  (hx:El (T.drop s) x) (hy:El (T.drop s) y):
  Calls Tryz.prog 51 #[.pointer (some ⟨b,o,none⟩),va,vc] w (CjR T s x y w):=by
 have G:=grp (Wf_drop hT s) hg;have HI:=hid (fun W hP ha hn=>invert_any T hT hs s h hg W b o vc y hP ha hn hy);have HM:=hid (fun W va vb x y hP ha hn hb hx hy=>multiply_any T hT hs s h hg W b o va vb x y hP ha hn hb hx hy);have HG:=hid G;have HP:=hid hP;have HA:=hid ha;have HB:=hid hb;have HN:=hid (And.intro hn hnc);clear hP ha hb hn hnc G;go_enter Tryz.func51,Tryz.ntmps51;go_wp2_with fail;refine(HI.out _ HP.out HB.out HN.out.2).mono ?_;rintro e w1 ⟨z,⟨hz1,hz2⟩,g1,c1,rfl,ho1,hb1⟩;have HO1:=hid ho1;have HB1:=hid hb1;have HZ:=hid (And.intro hz1 hz2);clear ho1 hb1 hz1 hz2;go_wp2_with fail;refine(HM.out _ va vc x y (HP.out.keep (Keep.of_below HB1.out)) (HA.out.keep (Keep.of_below HB1.out)) HN.out.1 (HB.out.keep (Keep.of_below HB1.out)) hx hy).mono ?_;rintro e w2 ⟨g2,c2,rfl,ho2,hb2⟩;have HO2:=hid ho2;have HB2:=hid (HB1.out.trans (hb2.mono HB1.out.size));have HO12:=hid (HO1.out.of_below hb2);clear ho2 hb2;go_wp2_with fail;refine(HM.out _ _ _ z (mul (T.drop s) x y) (HP.out.keep (Keep.of_below HB2.out)) (HO12.out.sl.mono (fun _ _=>trivial)) (NN_some _ _ _) (HO2.out.sl.mono (fun _ _=>trivial)) HZ.out.1 (HG.out.cl hx hy)).mono ?_;rintro e w3 ⟨g3,c3,rfl,ho3,hb3⟩;have HO3:=hid (ho3.mono (B':=w.heap.size) HB2.out.size);have HB3:=hid (HB2.out.trans (hb3.mono HB2.out.size));clear ho3 hb3;go_wp2_with fail;go_ret;exact⟨mul (T.drop s) z (mul (T.drop s) x y),⟨HG.out.cl HZ.out.1 (HG.out.cl hx hy),by rw[←HG.out.asc hy HZ.out.1 (HG.out.cl hx hy),HZ.out.2,HG.out.eL (HG.out.cl hx hy)]⟩,g3,c3,rfl,HO3.out,HB3.out⟩
theorem unitVector_any (n k:Nat)(hn:n≤6)(hk:k<n)(w:World):
  Calls Tryz.prog 126 #[.int .i64 (n:Int),.int .i64 (k:Int)] w (NewS (ints ((List.replicate n 0).set k 1)) w):=by
 have hmk:=mk22 n hn;have HO:=Own.made (B:=w.heap.size) w n zqN (by unfold maxLen;omega);obtain⟨s1,f1⟩:=HO.cell (j:=k) (a:=0) (by simp[hk]);have hl:=zq98 (base:=w.heap.size) (e:=2) (size:=1) w ((madeCells #[.int .i64 0] n).setIfInBounds k (.int .i64 1)) n zqN (by unfold maxLen;omega) (by simp[madeCells]);have HFF:=hid (show Own w.heap.size (w.alloc (.cells ((madeCells #[.int .i64 0] n).setIfInBounds k (.int .i64 1)) 2)) (.slice (some ⟨w.heap.size,0,none⟩) n n) (ints ((List.replicate n 0).set k 1)) from by
  unfold Own;rw[Array.toList_setIfInBounds,zq108]at hl;simpa[vals,ints]using hl)
 clear HO hl;go_enter Tryz.func126,Tryz.ntmps126;go_wp2_with fail;go_ret;have e1:(ints ((List.replicate n 0).set k 1)).length=n:=by simp[ints]
 exact⟨w.heap.size,n,by rw[e1];rfl,by rw[e1];exact HFF.out,zqB.alloc zqN _⟩
theorem equal_any (w:World)(va vb:Value)(a b:List Int)(ha:SlI Any w va a)(hb:SlI Any w vb b):
  Calls Tryz.prog 151 #[va,vb] w (EqR a b w):=by
 obtain⟨aA,cA,rfl,_,hmA,_,hA⟩:=ha;obtain⟨aB,cB,rfl,_,hmB,_,hB⟩:=hb;unfold maxLen at hmA hmB;have hA63:(a.length:Int)≤9223372036854775807:=by omega
 have HMA:=hid hmA;have HMB:=hid hmB;clear hmA hmB;by_cases hl:a.length=b.length
 ·have hl2:((a.length:Int) !=(b.length:Int))=false:=by simp;omega
  have HA:=hid hA;have HB:=hid hB;have HL:=hid hl;clear hA hB hl;go_enter Tryz.func151,Tryz.ntmps151;go_wp2_with fail;go_loopw [13] (fun i wr=>∃k:Nat,k≤a.length∧i= .int .i64 (k:Int)∧Hid ((∀j,j<k→a[j]?=b[j]?)∧∃n,wr=w.drewN n)) (fun i _=>a.length-(intOf i).toNat);case atStart=>exact⟨0,zq4 _,rfl,hid ⟨fun j h=>absurd h (zq33 _),0,rfl⟩⟩
  case round=>
   obtain⟨k,hk,rfl,hR⟩:=hrel;obtain⟨m,hw⟩:=hR.out.2;subst hw;by_cases hlt:k<a.length
   ·obtain⟨x,hx⟩:∃x,a[k]?=some x:=⟨_,zq0 hlt⟩;obtain⟨y,hy⟩:∃y,b[k]?=some y:=⟨_,zq0 (by rw[←HL.out];exact hlt)⟩;obtain⟨bA,oA,rfl,_,hbA,u,hcA,rfl⟩:=HA.out k x hx;obtain⟨bB,oB,rfl,_,hbB,u,hcB,rfl⟩:=HB.out k y hy;have hk2:k<b.length:=by rw[←HL.out];exact hlt
    have HX:=hid hx;have HY:=hid hy;have w4:(k:Int)<(a.length:Int):=by omega
    have w5:(0:Int)≤(k:Int):=by omega
    have w6:(k:Int)<(b.length:Int):=by omega
    clear hx hy;by_cases hxy:x=y
    ·have h2:(x !=y)=false:=by simp[hxy]
     have HXY:=hid hxy;clear hxy;go_wp2_with fail;go_quiet (fail);go_wp2_with fail;go_roundw;case rel=>exact⟨k+1,by omega,by go_num,hid ⟨fun j hj=>by
       rcases zq30.1 hj with h|h
       ·exact hR.out.1 j h
       ·subst h;rw[HX.out,HY.out,HXY.out],m+nq,by first|rfl|rw[zq113]⟩⟩
     case measure=>simp[intOf];omega
    ·have h2:(x !=y)=true:=by simpa using hxy
     have HXY:=hid hxy;clear hxy;go_wp2_with fail;go_quiet (fail);go_wp2_with fail;go_ret;refine⟨ret_b ?_,m+nq,by first|rfl|rw[zq113]⟩
     symm
     rw[decide_eq_false_iff_not];intro e;rw[e,HY.out]at HX;exact HXY.out (zq102 HX.out).symm
   ·obtain rfl:k=a.length:=by omega
    go_wp2_with fail;go_ret;refine⟨ret_b ?_,m,rfl⟩
    symm
    rw[zq78];apply zq99;intro j;by_cases hj:j<a.length
    ·exact hR.out.1 j hj
    ·rw[zq51 (by omega),zq51 (by rw[←HL.out];omega)]
 ·have hl2:((a.length:Int) !=(b.length:Int))=true:=by simp;omega
  clear hA hB;go_enter Tryz.func151,Tryz.ntmps151;go_wp2_with fail;go_ret;refine⟨ret_b ?_,0,rfl⟩
  symm
  rw[decide_eq_false_iff_not];intro e;exact hl (by rw[e])
end Go.Proofs.YtlmlamcoeegkbaaGreat.ImplG
