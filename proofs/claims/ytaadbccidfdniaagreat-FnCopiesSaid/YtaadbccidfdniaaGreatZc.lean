import Derived.Test.YtaadbccidfdniaaGreatZ0
import Derived.Test.YtaadbccidfdniaaGreatZb
import Derived.Test.YtaadbccidfdniaaGreatZa
import Derived.Laws.AppendOwnNone
/-
  Lemmas for the law FnCopies, in short spelling.
-/
open Go.Lib (hid)
set_option linter.unusedVariables false
set_option linter.unusedSimpArgs false
set_option maxRecDepth 100000
set_option maxHeartbeats 40000000
namespace Go.Proofs.YtaadbccidfdniaaGreat.Gp
open Go.RowKit Go.Proofs.YtaadbccidfdniaaGreat AB
theorem AAu (S:Nat→Prop)(v:Value)(l:List Int)(w:World)(hv:AL S w v l)(hl:l.length≤1000000):
  Calls Tryz.prog 109 #[v] w (Kk l w):=by
 obtain⟨i0,hi,hz0,hz1,hz2⟩:=Bt FX;obtain⟨ao,c,rfl,hc,hm,hn,hx⟩:=hv;have HL:=hid hl;have HM:=hid hm;clear hl hm;have hsl:AL S w (.slice ao l.length c) l:=⟨ao,c,rfl,hc,HM.out,hn,hx⟩;have HS:=hid hsl;have h00:=Fb (base:=w.heap.size) (e:=2) (size:=1) w #[] 0 AR (AU _) rfl;have hen:=fun(w:World) (a:Option Addr) (n c n' c':Nat)=>Lib.run_eql_slice_nil (P:=Tryz.prog) w 24 2 a n c n' c' Tryz.underlying24;clear hsl hx;cases ao with
 |none=>
  obtain rfl:c=0:=hn rfl;obtain rfl:l=[]:=D8 (by omega);go_enter Tryz.func109,Tryz.ntmps109;go_wp2_with fail;go_ret;exact⟨_,rfl,F7 _ _ _ _,A7 _ _⟩
 |some ad=>
  have C1:=hid (AL.src (w':=w.alloc (.cells #[] 2)) HS.out (AJ.alloc _));have C2:=hid (Qy l);have C3:=hid (show 0+l.length≤maxLen from by have:=HL.out;unfold maxLen;omega);have C4:=hid (show(0+l.length)*8≤140737488355328 from by have:=HL.out;omega);have C5:=hid (show(vals l).length=l.length*1 by simp[vals]);go_enter Tryz.func109,Tryz.ntmps109;go_wp2_with (at_builtin;refine Fz _ rfl _ _ 24 rfl w.heap.size 2 i0 (.int .i64 0) 1 8 Tryz.underlying24 hi hz0 hz1 hz2 rfl (by decide) _ _ _ rfl h00 ad l.length c (vals l) rfl C5.out C1.out C2.out C3.out C4.out (by simp) ?_);intro v' w1 hown' hgrow hnil;have hO:Own w.heap.size w1 v' l:=by simpa[Own]using hown'
  have hB:Below w.heap.size w w1:=(AX.alloc AR _).grown hgrow (by simp) (by intro k hk;simp[Value.ownBlock]at hk;omega);clear hown' hgrow hnil;go_wp2_with fail;go_ret;exact⟨_,rfl,hO,hB⟩
theorem JJ {a b c:World}{row:Option Nat}(h1:a.grownBy b row)(h2:b.grownBy c row):a.grownBy c row:=
 ⟨h2.os.trans h1.os,h2.tape.trans h1.tape,h2.output.trans h1.output,Ad h1.size h2.size,fun k hk hr=>(h2.block k (Ai hk h1.size) hr).trans (h1.block k hk hr)⟩
theorem dz (a:World)(row:Option Nat):a.grownBy a row:=⟨rfl,rfl,rfl,Av _,fun _ _ _=>rfl⟩
theorem Xo {a b:World}{row:Option Nat}(h:Below a.heap.size a b):a.grownBy b row:=⟨h.os,h.tape,h.output,h.size,fun k hk _=>h.block k hk⟩
theorem AAU (a:World)(n:Nat)(row:Option Nat):a.grownBy (a.drewN n) row:=⟨rfl,rfl,rfl,Av _,fun _ _ _=>rfl⟩
theorem Qu {S:Nat→Prop}{a b:World}{g:Nat}(h:a.grownBy b (some g))(hS:¬S g):AA S a b:=AA.grown h (fun k hk e=>hS (by cases e;exact hk))
def sj (B g cap:Nat)(x:List Nat)(w:World)(e:Ending)(w':World):Prop:=e= .returned (.tuple #[])∧Own B w' (.slice (some ⟨g,0,none⟩) x.length cap) (ints x)∧w.grownBy w' (some g)
def iD (T:Tw)(s:Nat):Prop:=∀(S:Nat→Prop) (w:World) (b o B g cap:Nat) (vf:Value) (u e f:List Nat),BN S w b o (AQ T)→AL S w vf (ints (pad s f))→¬S g→u.length=s→El (T.drop s) e→El (T.drop s) f→
 Own B w (.slice (some ⟨g,0,none⟩) T.length cap) (ints (u++e))→
 Calls Tryz.prog 87 #[.pointer (some ⟨b,o,none⟩),.slice (some ⟨g,0,none⟩) T.length cap,vf] w (sj B g cap (u++mul (T.drop s) e f) w)
def YI (T:Tw)(j:Nat):Prop:=∀(S:Nat→Prop) (w:World) (b o B g cap:Nat) (x:List Nat),BN S w b o (AQ T)→¬S g→x.length=T.length→El (T.drop j) (x.drop j)→
 Own B w (.slice (some ⟨g,0,none⟩) T.length cap) (ints x)→
 Calls Tryz.prog 123 #[.pointer (some ⟨b,o,none⟩),.slice (some ⟨g,0,none⟩) T.length cap,.int .i64 (j:Int)] w (sj B g cap (x.take j++tg (T.drop j) (x.drop j)) w)
theorem ADO (T:Tw)(hT:Wf T)(hs:Small T)(s:Nat)(hsl:s≤T.length)(hg:AB.Good (T.drop s))(Zg:∀j,s≤j→j<T.length→YI T j):iD T s:=by
 intro S w b o B g cap vf u e f hP hf Jc hu he kV hO;have hs6:=hs.1;obtain⟨aF,cF,rfl,hF1⟩:=hf.open;have hfl:(pad s f).length=T.length:=by rw[Bg,AZ kV];simp;omega
 rw[hfl]at hF1 hf ⊢;obtain⟨V,hV⟩:∃V:Nat→Nat→List Nat,V=fun j k=>vv T s u e f j k:=⟨_,rfl⟩;have En:=hid (show∀j k,El (T.drop s) ((V j k).drop s)∧(V j k).length=T.length from fun j k=>by rw[hV];exact⟨ALR hT hu he f j k,AHj hT hsl hu he f j k⟩);have QJ:=hid (show V 0 0=u++e by rw[hV];exact AIL T s u e f);have HVk:=hid (show∀j,j<s→V (j+1) 0=V j 0 from fun j hj=>by rw[hV];exact AJc T s u e f j hj);have QK:=hid (show∀j k,s≤j→j<T.length→(V j k).take j++tg (T.drop j) ((V j k).drop j)=V j (k+1) from fun j k h1 h2=>by rw[hV];exact AJd hT hg hu he f h1 h2 k);have UK:=hid (show∀j a,s≤j→j<T.length→f[j-s]?=some a→V j a=V (j+1) 0 from fun j a h1 h2 h3=>by rw[hV];exact AJe h1 h2 h3);have QL:=hid (show V T.length 0=u++mul (T.drop s) e f by rw[hV];exact AKp hT hsl hg he kV);have HO:=hid hO;have HP:=hid hP;have HF:=hid hf;have kW:=hid Zg;have FB:=hid hs;have HFE:=hid kV;have Zh:=hid hfl;have KH:=hid hu;clear hO hP hf Zg hV he kV hs hfl hu;go_enter Tryz.func87,Tryz.ntmps87;go_wp2_with fail;go_loopw [10] (fun j wr=>∃m:Nat,m≤T.length∧j= .int .i64 (m:Int)∧Own B wr (.slice (some ⟨g,0,none⟩) T.length cap) (ints (V m 0))∧w.grownBy wr (some g)) (fun j _=>T.length-(intOf j).toNat);case atStart=>exact⟨0,AU _,rfl,by rw[QJ.out];exact HO.out,dz _ _⟩
 case round=>
  obtain⟨m,hm,rfl,ho,hgr⟩:=hrel;have HOr:=hid ho;have EL:=hid hgr;clear ho hgr;by_cases hlt:m<T.length
  ·obtain⟨a,ha⟩:∃a,(pad s f)[m]?=some a:=⟨_,AO (by rw[Zh.out];exact hlt)⟩;obtain⟨bF,oF,rfl,hSF,hbF,hcF⟩:=HF.out.at ha;have Zi:a<7:=by
    by_cases hms:m<s
    ·rw[pad,EA (by simp;omega)]at ha;simp[hms]at ha;omega
    ·exact FB.out.lt (s:=s) (x:=pad s f) (by rw[BJ];exact HFE.out) (by omega) ha
   have hk:=Qu EL.out Jc;have API:wr.cell? ⟨bF,oF+m,none⟩=some (.int .i64 (a:Int)):=by rw[hk.cell hSF hbF];exact hcF
   have HA:=hid ha;clear ha hcF hk;go_wp2_with fail;go_loopw [16] (fun k wi=>∃q:Nat,q≤a∧k= .int .i64 (q:Int)∧Own B wi (.slice (some ⟨g,0,none⟩) T.length cap) (ints (V m q))∧w.grownBy wi (some g)) (fun k _=>a-(intOf k).toNat);case atStart=>exact⟨0,AU _,rfl,HOr.out,EL.out⟩
   case round=>
    clear HOr EL;obtain⟨q,hq,rfl,ho,hgr⟩:=hrel;have HOr:=hid ho;have EL:=hid hgr;clear ho hgr;by_cases UL:q<a
    ·have hsm:s≤m:=by
      apply Nat.le_of_not_lt;intro hms;have ha:=HA.out;rw[pad,EA (by simp;omega)]at ha;simp[hms]at ha;omega
     go_wp2_with fail;refine(kW.out m hsm hlt S _ b o B g cap (V m q) (HP.out.keep (Qu EL.out Jc)) Jc (En.out m q).2 (by have:=KY (En.out m q).1 (m-s);rwa[Fe,Fe,Kg hsm]at this) HOr.out).mono ?_;rintro e' w5 ⟨rfl,Aw,hg5⟩;rw[QK.out m q hsm hlt]at Aw;rw[show(V m (q+1)).length=T.length from(En.out m (q+1)).2]at Aw;have Ch:=hid Aw;have Kt:=hid (JJ EL.out hg5);clear Aw hg5;go_wp2_with fail;go_roundw;case rel=>exact⟨q+1,by omega,by go_num,Ch.out,Kt.out⟩
     case measure=>simp[intOf];omega
    ·obtain rfl:q=a:=by omega
     have HN:=hid (show V m q=V (m+1) 0 from by
      by_cases hms:m<s
      ·have ha:=HA.out;rw[pad,EA (by simp;omega)]at ha;simp[hms]at ha;rw[←ha,HVk.out m hms]
      ·exact UK.out m q (by omega) hlt (by have ha:=HA.out;rw[pad,D9 (by simp;omega)]at ha;simpa using ha))
     go_wp2_with fail;go_roundw;case rel=>exact⟨m+1,by omega,by go_num,by rw[←HN.out];exact HOr.out,EL.out⟩
     case measure=>simp[intOf];omega
  ·obtain rfl:m=T.length:=by omega
   go_wp2_with fail;go_end0;exact⟨rfl,by rw[←QL.out];have h1:=HOr.out;rw[show(V T.length 0).length=T.length from(En.out _ 0).2];exact h1,EL.out⟩
end Go.Proofs.YtaadbccidfdniaaGreat.Gp
namespace Go.Proofs.YtaadbccidfdniaaGreat.Vr
open Go.RowKit Go.Proofs.YtaadbccidfdniaaGreat AB Gp
theorem AB9 {B:Nat}{w:World}{g n cap:Nat}{x:List Int}(h:Own B w (.slice (some ⟨g,0,none⟩) n cap) x):n=x.length∧n≤cap∧cap≤maxLen∧g<w.heap.size:=by
 rcases h.2 with⟨e,_⟩|⟨g',cap',cur,e,_,hh,h1,h2,_⟩
 ·simp at e
 ·simp only[EY,Eg,Kj,and_true,true_and]at e;obtain⟨rfl,rfl,rfl⟩:=e;exact⟨rfl,h1,h2,(h.lt).2⟩
theorem AIQ {B:Nat}{w:World}{g n cap:Nat}{x:List Nat}(h:Own B w (.slice (some ⟨g,0,none⟩) n cap) (ints x))(s:Nat)(hs:s≤n):AL (fun _=>True) w (.slice (some ⟨g,s,none⟩) (n-s) (cap-s)) (ints (x.drop s)):=by
 obtain⟨h1,h2,h3,h4⟩:=AB9 h;rw[BL]at h1;refine⟨some ⟨g,s,none⟩,cap-s,by rw[BL,Cx,h1],by rw[BL,Cx];omega,by omega,fun e=>absurd e (by simp),fun i y hy=>⟨g,s,rfl,trivial,h4,.int .i64 y,?_,rfl⟩⟩;exact(h.cell (j:=s+i) (a:=y) (by rw[Fx]at hy ⊢; rw[Ho]at hy;exact hy)).1
theorem AIR (w:World)(g:Nat):AL (fun _=>True) w (.slice (some ⟨g,0,none⟩) 0 0) (ints []):=
 ⟨_,0,rfl,Av _,AU _,fun e=>absurd e (by simp),fun i y hy=>by simp[ints]at hy⟩
theorem ALS (T:Tw)(hT:Wf T)(hs:Small T)(j:Nat)(L:Lv)(hL:T[j]?=some L)(hg:AB.Good (T.drop (j+1)))(hTv:iD T (j+1)):YI T j:=by
 intro S w b o B g cap x hP Jc hxl C9 hO;have hj:j<T.length:=(Ag.1 hL).1;have hs6:=hs.1;have HK:=hid (lvl' hT hL);obtain⟨hc1,hc2,hgl⟩:=(AB9 hO).2;have KI:=hid hc2;clear hc2;obtain⟨hSb,hbl,vO,vP,vC,hp0,hp1,hp2,hV⟩:=hP;obtain⟨aO,cO,aP,cP,aC,cC,rfl,rfl,rfl,Eo,hP1,FC⟩:=hV.open;obtain⟨bO,oO,rfl,hSO,CQ,BS⟩:=hV.ord hL;obtain⟨bP,oP,uP,rfl,hSP,FE,hcP,Et⟩:=hV.pow hL;obtain⟨bC,oC,a2,c2,rfl,kX,hbC,hcC,h21,Ir⟩:=hV.Mt hL;obtain⟨a,ha⟩:∃a,x[j]?=some a:=⟨_,AO (by omega)⟩;have Zi:a<7:=hs.lt C9 AR ha;have Cr:L.o≤7:=hs.2 L (Ak hL);have HR:=hid (show x.drop j=a::x.drop (j+1) by rw[EX (by omega),(Ag.1 ha).2]);obtain⟨r,hr⟩:∃r,r=x.drop (j+1):=⟨_,rfl⟩;have hrl:r.length=T.length-(j+1):=by rw[hr,Cx,hxl]
 have hne1:¬b=g:=fun e=>Jc (e▸hSb);have hne2:¬bO=g:=fun e=>Jc (e▸hSO);have APJ:¬bP=g:=fun e=>Jc (e▸hSP);have su:¬bC=g:=fun e=>Jc (e▸kX);have M0:=hid BS;have Rj:=hid hcP;have DC:=hid hcC;have Ci:=hid (And.intro hp0 (And.intro hp1 hp2));have HP:=hid (show BN S w b o (AQ T) from⟨hSb,hbl,_,_,_,hp0,hp1,hp2,hV⟩);have GD:=hid Et;have Gg:=hid Ir;have HO:=hid hO;have HL:=hid hL;have HX:=hid ha;have Rk:=hid hxl;have DN:=hid (show El (T.drop (j+1)) r by rw[hr];have:=KY C9 1;rwa[Fe,Fe]at this);have HRR:=hid hr;have Zj:=hid hrl;have Eu:=hid hTv;have HG:=hid (BO HK.out.1 hg);have FB:=hid hs;have hbg:g<w.heap.size:=hgl;have Ay:=hid (show AL (fun _=>True) w (.slice (some ⟨g,j+1,none⟩) (T.length-(j+1)) (cap-(j+1))) (ints r) by rw[hr];exact AIQ HO.out (j+1) (by omega));clear BS hcP hcC hp0 hp1 hp2 Et Ir hO hL ha hxl C9 hr hTv hg hs hV;go_enter Tryz.func123,Tryz.ntmps123;go_upto_region 0 with fail;go_cut [6] (fun v1 wx=>Own w.heap.size wx v1 (ints r)∧Below w.heap.size w wx);case first=>
  by_cases hcap:cap=j+1
  ·subst hcap;go_wp2_with fail;refine(AAu (fun _=>True) _ (ints r) _ (by rw[show r=[] from D8 (by omega)];exact AIR _ _) (by rw[BL];omega)).mono ?_;rintro e w5 ⟨v5,rfl,Aw,hb5⟩;have Ch:=hid Aw;have Aa:=hid hb5;clear Aw hb5;go_wp2_with fail;go_meet;exact⟨Ch.out,Aa.out⟩
  ·have hcap2:¬j+1=cap:=fun e=>hcap e.symm;go_wp2_with fail;refine(AAu (fun _=>True) _ (ints r) _ (Ay.out) (by rw[BL];omega)).mono ?_;rintro e w5 ⟨v5,rfl,Aw,hb5⟩;have Ch:=hid Aw;have Aa:=hid hb5;clear Aw hb5;go_wp2_with fail;go_meet;exact⟨Ch.out,Aa.out⟩
 case rest=>
  obtain⟨jJ,jK⟩:=hcut;obtain⟨aR,cR,rfl,M3⟩:=jJ.sl.open;rw[hrl]at M3 jJ ⊢;have HR1:=hid (show AL (fun k=>w.heap.size≤k) wc (.slice aR (T.length-(j+1)) cR) (ints r) from jJ.sl);have AMG:=hid (HO.out.of_below jK);have Eb:=hid (Xo (row:=some g) jK);have HB1:=hid jK;clear jJ jK Ay;obtain⟨Z,hZ⟩:∃Z:Nat→List Nat,Z=fun k=>x.take (j+1)++List.replicate k 0++x.drop (j+1+k):=⟨_,rfl⟩;have HZ0:=hid (show Z 0=x by rw[hZ];simp);have kY:=hid (show∀k,k≤T.length-(j+1)→(Z k).length=T.length from fun k hk=>by rw[hZ];simp[Rk.out];omega);have xB:=hid (show∀k,k<T.length-(j+1)→(Z k).set (j+1+k) 0=Z (k+1) from fun k hk=>by
   rw[hZ];have hl:=Rk.out;show(x.take (j+1)++List.replicate k 0++x.drop (j+1+k)).set (j+1+k) 0=x.take (j+1)++List.replicate (k+1) 0++x.drop (j+1+(k+1));rw[List.set_append_right _ _ (by simp;omega),EX (show j+1+k<x.length by omega)];simp only[Cs,JX,DK,hl];rw[show j+1+k-(min (j+1) T.length+k)=0 by omega,CE,Pp];simp[Nat.add_assoc])
  have HZz:=hid (show Z (T.length-(j+1))=x.take j++a::AB.one (T.drop (j+1)) from by
   rw[hZ];have hl:=Rk.out;show x.take (j+1)++List.replicate (T.length-(j+1)) 0++x.drop (j+1+(T.length-(j+1)))=_;rw[TJ (by omega),La,IJ,HX.out];simp[AB.one])
  have HZg:=hid (show∀k,k<T.length-(j+1)→∃y,(Z k)[j+1+k]?=some y from fun k hk=>⟨_,AO (by rw[kY.out k (by omega)];omega)⟩);clear hZ;go_wp2_with fail;go_loopw [17] (fun kv wr=>∃k:Nat,k≤T.length-(j+1)∧kv= .int .i64 (k:Int)∧Own B wr (.slice (some ⟨g,0,none⟩) T.length cap) (ints (Z k))∧wc.grownBy wr (some g)) (fun kv _=>T.length-(intOf kv).toNat);case atStart=>exact⟨0,AU _,rfl,by rw[HZ0.out];exact AMG.out,dz _ _⟩
  case round=>
   obtain⟨k,hk,rfl,ho,hgr⟩:=hrel;by_cases hlt:k<T.length-(j+1)
   ·obtain⟨y,hy⟩:=HZg.out k hlt;obtain⟨s1,f1⟩:=ho.cell (j:=j+1+k) (a:=(y:Int)) (by rw[Fx,hy];rfl);obtain⟨h1,h2⟩:=ho.Nh (j+1+k) 0;rw[xB.out k hlt]at h1;have H1:=hid h1;have H2:=hid (JJ hgr h2);clear ho hgr hy h1 h2;go_wp2_with fail;go_roundw;case rel=>exact⟨k+1,by omega,by go_num,H1.out,H2.out⟩
    case measure=>simp[intOf];omega
   ·obtain rfl:k=T.length-(j+1):=by omega
    have HOr:=hid ho;have EL:=hid hgr;clear ho hgr hlt hk;rw[HZz.out]at HOr;have hxt:(x.take j).length=j:=by rw[JX,Rk.out];omega
    have Ku:=hid hxt;clear hxt;have hga:(x.take j++a::AB.one (T.drop (j+1)))[j]?=some a:=by rw[D9 (by rw[Ku.out];exact Av _),Ku.out];simp
    obtain⟨s1,f1⟩:=HOr.out.cell (j:=j) (a:=(a:Int)) (by rw[Fx,hga];rfl);obtain⟨h1,h2⟩:=HOr.out.Nh j (a+1);have hset:∀y,(x.take j++a::AB.one (T.drop (j+1))).set j y=x.take j++y::AB.one (T.drop (j+1)):=fun y=>by
     rw[List.set_append_right _ _ (by rw[Ku.out];exact Av _),Ku.out,Nf,CE]
    rw[hset]at h1;have EM:=hid (show Own B (wr.setCell ⟨g,j,none⟩ (.int .i64 ((a:Int)+1))) (.slice (some ⟨g,0,none⟩) T.length cap) (ints (x.take j++(a+1)::AB.one (T.drop (j+1)))) from h1);have HG2:=hid (show wc.grownBy (wr.setCell ⟨g,j,none⟩ (.int .i64 ((a:Int)+1))) (some g) from JJ EL.out h2);clear hset h1 h2 hga;go_upto_region 7 with fail;clear s1 f1 HOr EL;generalize wr.setCell ⟨g,j,none⟩ (.int .i64 ((a:Int)+1))=w3 at EM HG2 ⊢;obtain⟨a',ha'⟩:∃a',a'=if a+1=L.o then 0 else a+1:=⟨_,rfl⟩;obtain⟨z0,hz0⟩:∃z0,z0=if a+1=L.o then L.w else AB.one (T.drop (j+1)):=⟨_,rfl⟩;have Wm:=hid ha';have jL:=hid hz0;have Kv:=hid (show El (T.drop (j+1)) z0 by rw[hz0];split;exact HK.out.2.2.2.1;exact D5 HK.out.1);clear ha' hz0;have hk3:=AA.trans (AA.of_below (S:=S) HB1.out) (Qu HG2.out Jc);have hp0:w3.cell? ⟨b,o,none⟩=some (.slice (some ⟨bO,oO,none⟩) T.length cO):=by rw[hk3.cell hSb hbl];exact Ci.out.1
    have hp1:w3.cell? ⟨b,o+1,none⟩=some (.slice (some ⟨bP,oP,none⟩) T.length cP):=by rw[hk3.cell hSb hbl];exact Ci.out.2.1
    have BS:w3.cell? ⟨bO,oO+j,none⟩=some (.int .i64 (L.o:Int)):=by rw[hk3.cell hSO CQ];exact M0.out
    have hcP:w3.cell? ⟨bP,oP+j,none⟩=some uP:=by rw[hk3.cell hSP FE];exact Rj.out
    obtain⟨s1,f1⟩:=EM.out.cell (j:=j) (a:=(a:Int)+1) (by rw[Fx,D9 (by rw[Ku.out];exact Av _),Ku.out];simp);have w6:(j:Int)<(T.length:Int):=by omega
    have w7:(0:Int)≤(j:Int):=by omega
    have Ev:=hid (HP.out.keep hk3);have tC:=hid (GD.out.keep hk3);clear hk3;by_cases hcar:a+1=L.o
    ·have hci:((a:Int)+1==(L.o:Int))=true:=by simp;omega
     have Yr:=hid hcar;clear hcar;go_wp2_with fail;go_quiet (fail);obtain⟨h1,h2⟩:=(EM.out.drewN nq).Nh j 0;have hset:(x.take j++(a+1)::AB.one (T.drop (j+1))).set j 0=(x.take j++[0])++AB.one (T.drop (j+1)):=by
      rw[List.set_append_right _ _ (by rw[Ku.out];exact Av _),Ku.out,Nf,CE];simp
     rw[hset]at h1;have Iu:=hid h1;have Zk:=hid h2;clear hset h1 h2;go_wp2_with fail;refine(Eu.out S _ b o B g cap uP (x.take j++[0]) (AB.one (T.drop (j+1))) L.w (Ev.out.keep ((AJ.drewN nq).setCell Jc _)) (tC.out.keep ((AJ.drewN nq).setCell Jc _)) Jc (by rw[Cs,Ku.out];rfl) (D5 HK.out.1) HK.out.2.2.2.1 Iu.out).mono ?_;rintro e w5 ⟨rfl,Aw,hg5⟩;rw[HG.out.eL HK.out.2.2.2.1]at Aw;have M4:=hid (show Own B w5 (.slice (some ⟨g,0,none⟩) T.length cap) (ints (x.take j++a'::z0)) from by
      rw[Wm.out,jL.out,Bo Yr.out,Bo Yr.out];have e1:(x.take j++[0]++L.w).length=T.length:=by rw[Cs,Cs,Ku.out,AZ HK.out.2.2.2.1,Cx];simp;omega
      rw[e1]at Aw;simpa using Aw)
     have M5:=hid (JJ HG2.out (JJ (AAU _ nq _) (JJ Zk.out hg5)));clear Aw hg5 s1 f1 hp0 hp1 BS hcP EM HG2 Iu Zk Ev tC;go_wp2_with fail;have hxu:(x.take j++[a']).length=j+1:=by rw[Cs,Ku.out];rfl
     have Zl:=hid hxu;have UM:=hid (show∀k y,r[k]?=some y→y<7 from fun k y hy=>FB.out.lt (s:=j+1) (x:=x) (by rw[←HRR.out];exact DN.out) (j:=j+1+k) (by omega) (by rw[HRR.out,Ho]at hy;exact hy));obtain⟨V,hV⟩:∃V:Nat→Nat→List Nat,V=fun m q=>Iq (mul (T.drop (j+1))) z0 (AB.one (T.drop (j+1))) L.c r m q:=⟨_,rfl⟩;have En:=hid (show∀m q,El (T.drop (j+1)) (V m q) from fun m q=>by rw[hV];exact VU (El _) (mul _) (fun _ _ p q=>C8 HK.out.1 p q) _ _ _ _ Kv.out (D5 HK.out.1) HK.out.2.2.1 m q);have QJ:=hid (show V 0 0=z0 by rw[hV];exact Sv _ _ _ _ _);have QK:=hid (show∀m q y,L.c[m]?=some y→mul (T.drop (j+1)) (V m q) y=V m (q+1) from fun m q y hy=>by rw[hV];simp only[VO];rw[BV,hy];rfl);have UK:=hid (show∀m y,m<T.length-(j+1)→r[m]?=some y→V m y=V (m+1) 0 from fun m y hm hy=>by rw[hV];exact VP _ _ _ _ _ _ _ (by rw[HK.out.2.1];omega) hy);have QL:=hid (show a'::V (T.length-(j+1)) 0=tg (T.drop j) (x.drop j) from by
      rw[hV];simp only[];rw[VT _ _ _ _ _ _ (by rw[HK.out.2.1];exact Av _) (by rw[Zj.out];exact Av _),Fw HL.out,HR.out,←HRR.out,tg,←Wm.out,←jL.out])
     clear hV hxu;go_loopw [60] (fun kv wr=>∃m:Nat,m≤T.length-(j+1)∧kv= .int .i64 (m:Int)∧Own B wr (.slice (some ⟨g,0,none⟩) T.length cap) (ints (x.take j++a'::V m 0))∧wc.grownBy wr (some g)) (fun kv _=>T.length-(intOf kv).toNat);case atStart=>exact⟨0,AU _,rfl,by rw[QJ.out];exact M4.out,M5.out⟩
     case round=>
      clear M4 M5;obtain⟨m,hm,rfl,ho,hgr⟩:=hrel;have HOr:=hid ho;have EL:=hid hgr;clear ho hgr;by_cases hlt:m<T.length-(j+1)
      ·obtain⟨y,hy⟩:∃y,r[m]?=some y:=⟨_,AO (by omega)⟩;obtain⟨bR,oR,rfl,hSR,hbR,hcR⟩:=HR1.out.at hy;obtain⟨c,hc⟩:∃c,L.c[m]?=some c:=⟨_,AO (by rw[HK.out.2.1];omega)⟩;obtain⟨b2,o2,uc,rfl,hS2,hb2,RN,huc⟩:=Gg.out m c hc;have Wn:=UM.out m y hy;have tF:¬bR=g:=by omega
       have AMH:wr.cell? ⟨bR,oR+m,none⟩=some (.int .i64 (y:Int)):=by rw[(Qu (S:=fun k=>¬k=g) EL.out (by simp)).cell tF hbR];exact hcR
       have hd:decide ((m:Int)<((T.length-(j+1):Nat):Int))=true:=by simp;omega
       have HY:=hid hy;have HC:=hid hc;have tH:=hid RN;have UN:=hid huc;have Lr:=hid (HK.out.2.2.1 c (Ak hc));have hcl:L.c.length=T.length-(j+1):=HK.out.2.1;clear hy hc RN huc hcR;go_wp2_with fail;go_loopw [66] (fun qv wi=>∃q:Nat,q≤y∧qv= .int .i64 (q:Int)∧Own B wi (.slice (some ⟨g,0,none⟩) T.length cap) (ints (x.take j++a'::V m q))∧wc.grownBy wi (some g)) (fun qv _=>y-(intOf qv).toNat);case atStart=>exact⟨0,AU _,rfl,HOr.out,EL.out⟩
       case round=>
        clear HOr EL;obtain⟨q,hq,rfl,ho,hgr⟩:=hrel;have HOr:=hid ho;have EL:=hid hgr;clear ho hgr;by_cases Zm:q<y
        ·have hk4:=AA.trans (AA.of_below (S:=S) HB1.out) (Qu EL.out Jc);have g0:wr.cell? ⟨b,o,none⟩=some (.slice (some ⟨bO,oO,none⟩) T.length cO):=by rw[hk4.cell hSb hbl];exact Ci.out.1
         have g2:wr.cell? ⟨b,o+2,none⟩=some (.slice (some ⟨bC,oC,none⟩) T.length cC):=by rw[hk4.cell hSb hbl];exact Ci.out.2.2
         have g3:wr.cell? ⟨bC,oC+j,none⟩=some (.slice (some ⟨b2,o2,none⟩) L.c.length c2):=by rw[hk4.cell kX hbC];exact DC.out
         have g4:wr.cell? ⟨b2,o2+m,none⟩=some uc:=by rw[hk4.cell hS2 hb2];exact tH.out
         have BP:=hid (HP.out.keep hk4);have tJ:=hid (UN.out.keep hk4);clear hk4;go_wp2_with fail;refine(Eu.out S _ b o B g cap uc (x.take j++[a']) (V m q) c BP.out tJ.out Jc Zl.out (En.out m q) Lr.out (by simpa using HOr.out)).mono ?_;rintro e w5 ⟨rfl,Aw,hg5⟩;rw[QK.out m q c HC.out]at Aw;have Ch:=hid (show Own B w5 (.slice (some ⟨g,0,none⟩) T.length cap) (ints (x.take j++a'::V m (q+1))) from by
          have e1:(x.take j++[a']++V m (q+1)).length=T.length:=by rw[Cs,Zl.out,AZ (En.out m (q+1)),Cx];omega
          rw[e1]at Aw;simpa using Aw)
         have Kt:=hid (JJ EL.out hg5);clear Aw hg5;go_wp2_with fail;go_roundw;case rel=>exact⟨q+1,by omega,by go_num,Ch.out,Kt.out⟩
         case measure=>simp[intOf];omega
        ·obtain rfl:q=y:=by omega
         go_wp2_with fail;go_roundw;case rel=>exact⟨m+1,by omega,by go_num,by rw[←UK.out m q (by omega) HY.out];exact HOr.out,EL.out⟩
         case measure=>simp[intOf];omega
      ·obtain rfl:m=T.length-(j+1):=by omega
       go_wp2_with fail;go_end0;refine⟨rfl,?_,JJ Eb.out EL.out⟩;rw[←QL.out];have e1:(x.take j++a'::V (T.length-(j+1)) 0).length=T.length:=by rw[Cs,Ku.out,Hl,AZ (En.out _ 0),Cx];omega
       rw[e1];exact HOr.out
    ·have hci:((a:Int)+1==(L.o:Int))=false:=by simp;omega
     have Yr:=hid hcar;clear hcar;go_wp2_with fail;go_quiet (fail);have M4:=hid (show Own B (w3.drewN nq) (.slice (some ⟨g,0,none⟩) T.length cap) (ints (x.take j++a'::z0)) from by
      rw[Wm.out,jL.out,BD Yr.out,BD Yr.out];exact EM.out.drewN nq)
     have M5:=hid (JJ HG2.out (AAU _ nq _));clear s1 f1 hp0 hp1 BS hcP EM HG2 Ev tC;go_wp2_with fail;have hxu:(x.take j++[a']).length=j+1:=by rw[Cs,Ku.out];rfl
     have Zl:=hid hxu;have UM:=hid (show∀k y,r[k]?=some y→y<7 from fun k y hy=>FB.out.lt (s:=j+1) (x:=x) (by rw[←HRR.out];exact DN.out) (j:=j+1+k) (by omega) (by rw[HRR.out,Ho]at hy;exact hy));obtain⟨V,hV⟩:∃V:Nat→Nat→List Nat,V=fun m q=>Iq (mul (T.drop (j+1))) z0 (AB.one (T.drop (j+1))) L.c r m q:=⟨_,rfl⟩;have En:=hid (show∀m q,El (T.drop (j+1)) (V m q) from fun m q=>by rw[hV];exact VU (El _) (mul _) (fun _ _ p q=>C8 HK.out.1 p q) _ _ _ _ Kv.out (D5 HK.out.1) HK.out.2.2.1 m q);have QJ:=hid (show V 0 0=z0 by rw[hV];exact Sv _ _ _ _ _);have QK:=hid (show∀m q y,L.c[m]?=some y→mul (T.drop (j+1)) (V m q) y=V m (q+1) from fun m q y hy=>by rw[hV];simp only[VO];rw[BV,hy];rfl);have UK:=hid (show∀m y,m<T.length-(j+1)→r[m]?=some y→V m y=V (m+1) 0 from fun m y hm hy=>by rw[hV];exact VP _ _ _ _ _ _ _ (by rw[HK.out.2.1];omega) hy);have QL:=hid (show a'::V (T.length-(j+1)) 0=tg (T.drop j) (x.drop j) from by
      rw[hV];simp only[];rw[VT _ _ _ _ _ _ (by rw[HK.out.2.1];exact Av _) (by rw[Zj.out];exact Av _),Fw HL.out,HR.out,←HRR.out,tg,←Wm.out,←jL.out])
     clear hV hxu;go_loopw [60] (fun kv wr=>∃m:Nat,m≤T.length-(j+1)∧kv= .int .i64 (m:Int)∧Own B wr (.slice (some ⟨g,0,none⟩) T.length cap) (ints (x.take j++a'::V m 0))∧wc.grownBy wr (some g)) (fun kv _=>T.length-(intOf kv).toNat);case atStart=>exact⟨0,AU _,rfl,by rw[QJ.out];exact M4.out,M5.out⟩
     case round=>
      clear M4 M5;obtain⟨m,hm,rfl,ho,hgr⟩:=hrel;have HOr:=hid ho;have EL:=hid hgr;clear ho hgr;by_cases hlt:m<T.length-(j+1)
      ·obtain⟨y,hy⟩:∃y,r[m]?=some y:=⟨_,AO (by omega)⟩;obtain⟨bR,oR,rfl,hSR,hbR,hcR⟩:=HR1.out.at hy;obtain⟨c,hc⟩:∃c,L.c[m]?=some c:=⟨_,AO (by rw[HK.out.2.1];omega)⟩;obtain⟨b2,o2,uc,rfl,hS2,hb2,RN,huc⟩:=Gg.out m c hc;have Wn:=UM.out m y hy;have tF:¬bR=g:=by omega
       have AMH:wr.cell? ⟨bR,oR+m,none⟩=some (.int .i64 (y:Int)):=by rw[(Qu (S:=fun k=>¬k=g) EL.out (by simp)).cell tF hbR];exact hcR
       have hd:decide ((m:Int)<((T.length-(j+1):Nat):Int))=true:=by simp;omega
       have HY:=hid hy;have HC:=hid hc;have tH:=hid RN;have UN:=hid huc;have Lr:=hid (HK.out.2.2.1 c (Ak hc));have hcl:L.c.length=T.length-(j+1):=HK.out.2.1;clear hy hc RN huc hcR;go_wp2_with fail;go_loopw [66] (fun qv wi=>∃q:Nat,q≤y∧qv= .int .i64 (q:Int)∧Own B wi (.slice (some ⟨g,0,none⟩) T.length cap) (ints (x.take j++a'::V m q))∧wc.grownBy wi (some g)) (fun qv _=>y-(intOf qv).toNat);case atStart=>exact⟨0,AU _,rfl,HOr.out,EL.out⟩
       case round=>
        clear HOr EL;obtain⟨q,hq,rfl,ho,hgr⟩:=hrel;have HOr:=hid ho;have EL:=hid hgr;clear ho hgr;by_cases Zm:q<y
        ·have hk4:=AA.trans (AA.of_below (S:=S) HB1.out) (Qu EL.out Jc);have g0:wr.cell? ⟨b,o,none⟩=some (.slice (some ⟨bO,oO,none⟩) T.length cO):=by rw[hk4.cell hSb hbl];exact Ci.out.1
         have g2:wr.cell? ⟨b,o+2,none⟩=some (.slice (some ⟨bC,oC,none⟩) T.length cC):=by rw[hk4.cell hSb hbl];exact Ci.out.2.2
         have g3:wr.cell? ⟨bC,oC+j,none⟩=some (.slice (some ⟨b2,o2,none⟩) L.c.length c2):=by rw[hk4.cell kX hbC];exact DC.out
         have g4:wr.cell? ⟨b2,o2+m,none⟩=some uc:=by rw[hk4.cell hS2 hb2];exact tH.out
         have BP:=hid (HP.out.keep hk4);have tJ:=hid (UN.out.keep hk4);clear hk4;go_wp2_with fail;refine(Eu.out S _ b o B g cap uc (x.take j++[a']) (V m q) c BP.out tJ.out Jc Zl.out (En.out m q) Lr.out (by simpa using HOr.out)).mono ?_;rintro e w5 ⟨rfl,Aw,hg5⟩;rw[QK.out m q c HC.out]at Aw;have Ch:=hid (show Own B w5 (.slice (some ⟨g,0,none⟩) T.length cap) (ints (x.take j++a'::V m (q+1))) from by
          have e1:(x.take j++[a']++V m (q+1)).length=T.length:=by rw[Cs,Zl.out,AZ (En.out m (q+1)),Cx];omega
          rw[e1]at Aw;simpa using Aw)
         have Kt:=hid (JJ EL.out hg5);clear Aw hg5;go_wp2_with fail;go_roundw;case rel=>exact⟨q+1,by omega,by go_num,Ch.out,Kt.out⟩
         case measure=>simp[intOf];omega
        ·obtain rfl:q=y:=by omega
         go_wp2_with fail;go_roundw;case rel=>exact⟨m+1,by omega,by go_num,by rw[←UK.out m q (by omega) HY.out];exact HOr.out,EL.out⟩
         case measure=>simp[intOf];omega
      ·obtain rfl:m=T.length-(j+1):=by omega
       go_wp2_with fail;go_end0;refine⟨rfl,?_,JJ Eb.out EL.out⟩;rw[←QL.out];have e1:(x.take j++a'::V (T.length-(j+1)) 0).length=T.length:=by rw[Cs,Ku.out,Hl,AZ (En.out _ 0),Cx];omega
       rw[e1];exact HOr.out
end Go.Proofs.YtaadbccidfdniaaGreat.Vr
namespace Go.Proofs.YtaadbccidfdniaaGreat.FY
open Go.RowKit Go.Proofs.YtaadbccidfdniaaGreat AB Gp Vr
theorem ACA (T:Tw)(hT:Wf T)(hs:Small T)(m:Nat):∀s,s≤T.length→T.length-s≤m→AB.Good (T.drop s)→iD T s∧(s<T.length→YI T s):=by
 induction m with
 |zero=>
  intro s h1 h2 hg;exact⟨ADO T hT hs s h1 hg (fun j a b=>by omega),fun h=>by omega⟩
 |succ m ih=>
  intro s h1 h2 hg;have hg1:AB.Good (T.drop (s+1)):=by have:=PZ hg 1;rwa[Fe]at this
  have Zg:s<T.length→YI T s:=fun hlt=>
   ALS T hT hs s _ (AO hlt) hg1 (ih (s+1) (by omega) (by omega) hg1).1
  refine⟨ADO T hT hs s h1 hg (fun j a b=>?_),Zg⟩;by_cases hj:j=s
  ·subst hj;exact Zg b
  ·exact(ih j (by omega) (by omega) (by have:=PZ hg (j-s);rwa[Fe,Kg a]at this)).2 b
theorem iF (T:Tw)(hT:Wf T)(hs:Small T)(s:Nat)(h:s≤T.length)(hg:AB.Good (T.drop s)):iD T s:=(ACA T hT hs _ s h AR hg).1
theorem AKq (T:Tw)(hT:Wf T)(hs:Small T)(s:Nat)(h:s<T.length)(hg:AB.Good (T.drop s)):YI T s:=(ACA T hT hs _ s (DT h) AR hg).2 h
def NN (v:Value):Prop:=∀n c,v≠.slice none n c
theorem Vg {S:Nat→Prop}{w:World}{v:Value}{l:List Int}(h:AL S w v l):AL (fun k=>k<w.heap.size) w v l:=by
 obtain⟨ao,c,h1,h2,h3,h0,h4⟩:=h;exact⟨ao,c,h1,h2,h3,h0,fun i x hx=>by obtain⟨b,o,e1,_,e3,e4⟩:=h4 i x hx;exact⟨b,o,e1,e3,e3,e4⟩⟩
theorem rJ {S:Nat→Prop}{w:World}{v:Value}{l:List (List Int)}(h:AP S w v l):AP (fun k=>k<w.heap.size) w v l:=by
 obtain⟨ao,c,h1,h2,h3,h0,h4⟩:=h;exact⟨ao,c,h1,h2,h3,h0,fun i x hx=>by obtain⟨b,o,e1,_,e3,u,e4,e5⟩:=h4 i x hx;exact⟨b,o,e1,e3,e3,u,e4,Vg e5⟩⟩
theorem AKr {S:Nat→Prop}{w:World}{v:Value}{l:List (List (List Int))}(h:GA S w v l):GA (fun k=>k<w.heap.size) w v l:=by
 obtain⟨ao,c,h1,h2,h3,h0,h4⟩:=h;exact⟨ao,c,h1,h2,h3,h0,fun i x hx=>by obtain⟨b,o,e1,_,e3,u,e4,e5⟩:=h4 i x hx;exact⟨b,o,e1,e3,e3,u,e4,rJ e5⟩⟩
theorem Ph {S:Nat→Prop}{w:World}{b o:Nat}{P:Bu}(h:BN S w b o P):BN (fun k=>k<w.heap.size) w b o P:=by
 obtain⟨h1,h2,vO,vP,vC,c1,c2,c3,hv⟩:=h;exact⟨h2,h2,vO,vP,vC,c1,c2,c3,⟨Vg hv.os,rJ hv.ps,AKr hv.cs⟩⟩
theorem YW {S:Nat→Prop}{w:World}{v:Value}{x:List Nat}(h:AL S w v (ints x))(hx:0<x.length):NN v:=by
 obtain⟨ao,c,rfl,_,_,_,h4⟩:=h;obtain⟨b,o,rfl,_⟩:=h4 0 (x[0]:Int) (by rw[Fx,AO hx];rfl);intro n c e;simp at e
theorem gD (g cap n:Nat):NN (.slice (some ⟨g,0,none⟩) n cap):=fun n c e=>by simp at e
theorem oI (S:Nat→Prop)(v:Value)(l:List Int)(w:World)(hv:AL S w v l)(hn:NN v)(hl:l.length≤1000000):
  Calls Tryz.prog 109 #[v] w (Ej l w):=by
 obtain⟨i0,hi,hz0,hz1,hz2⟩:=Bt FX;obtain⟨ao,c,rfl,hc,hm,_,hx⟩:=hv;have HL:=hid hl;have HM:=hid hm;clear hl hm;have hsl:AL S w (.slice ao l.length c) l:=⟨ao,c,rfl,hc,HM.out,by assumption,hx⟩;have HS:=hid hsl;have h00:=Fb (base:=w.heap.size) (e:=2) (size:=1) w #[] 0 AR (AU _) rfl;have hen:=fun(w:World) (a:Option Addr) (n c n' c':Nat)=>Lib.run_eql_slice_nil (P:=Tryz.prog) w 24 2 a n c n' c' Tryz.underlying24;cases ao with
 |none=>exact absurd rfl (hn _ _)
 |some ad=>
  have C1:=hid (AL.src (w':=w.alloc (.cells #[] 2)) HS.out (AJ.alloc _));have C2:=hid (Qy l);have C3:=hid (show 0+l.length≤maxLen from by have:=HL.out;unfold maxLen;omega);have C4:=hid (show(0+l.length)*8≤140737488355328 from by have:=HL.out;omega);have C5:=hid (show(vals l).length=l.length*1 by simp[vals]);clear hsl hx hn;go_enter Tryz.func109,Tryz.ntmps109;go_wp2_with (at_builtin;refine Fz _ rfl _ _ 24 rfl w.heap.size 2 i0 (.int .i64 0) 1 8 Tryz.underlying24 hi hz0 hz1 hz2 rfl (by decide) _ _ _ rfl h00 ad l.length c (vals l) rfl C5.out C1.out C2.out C3.out C4.out (by simp) ?_);intro v' w1 hown' hgrow hnil;have hO:Own w.heap.size w1 v' l:=by simpa[Own]using hown'
  have hB:Below w.heap.size w w1:=(AX.alloc AR _).grown hgrow (by simp) (by intro k hk;simp[Value.ownBlock]at hk;omega);have hne:v'≠.slice none 0 0:=hnil;clear hown' hgrow hnil;go_wp2_with fail;go_ret;obtain⟨g,cap,rfl⟩:=hO.head hne;exact⟨g,cap,rfl,hO,hB⟩
abbrev Any:Nat→Prop:=fun _=>True
theorem dh (T:Tw)(hT:Wf T)(hs:Small T)(s:Nat)(h:s≤T.length)(hg:AB.Good (T.drop s))(w:World)(b o:Nat)(va vb:Value)(x y:List Nat)(hP:BN Any w b o (AQ T))(ha:AL Any w va (ints (pad s x)))(hn:NN va)(hb:AL Any w vb (ints (pad s y)))
  (hx:El (T.drop s) x) (hy:El (T.drop s) y):
  Calls Tryz.prog 70 #[.pointer (some ⟨b,o,none⟩),va,vb] w (Ej (ints (pad s (mul (T.drop s) x y))) w):=by
 have Eu:=hid (iF T hT hs s h hg);have hl:(ints (pad s x)).length=T.length:=by rw[BL,Bg,AZ hx,Cx];omega
 have HL:=hid hl;have HP:=hid hP;have HA:=hid ha;have HB:=hid hb;have HN:=hid hn;have hs6:=hs.1;clear hP ha hb hn hl;go_enter Tryz.func70,Tryz.ntmps70;go_wp2_with fail;refine(oI Any _ _ _ HA.out HN.out (by rw[HL.out];omega)).mono ?_;rintro e w1 ⟨g,cap,rfl,ho,hbw⟩;rw[HL.out]at ho ⊢;have HO:=hid ho;have A9:=hid hbw;have hlt:=ho.lt;clear ho hbw;go_wp2_with fail;have hP1:=(Ph HP.out).keep (AA.of_below A9.out);have hB1:=HB.out.keep (AA.of_below A9.out);refine(Eu.out (fun k=>k<w.heap.size) _ b o w.heap.size g cap vb (List.replicate s 0) x y hP1 ((Vg HB.out).keep (AA.of_below A9.out)) (by omega) (by simp) hx hy HO.out).mono ?_;rintro e w2 ⟨rfl,ho2,hg2⟩;have EM:=hid ho2;have HB2:=hid (A9.out.grown hg2 (by have:=A9.out.size;omega) (by intro k hk;cases hk;omega));clear ho2 hg2 hP1 hB1;go_wp2_with fail;go_ret;have e1:(ints (pad s (mul (T.drop s) x y))).length=T.length:=by rw[BL,Bg,AZ (C8 (FK hT s) hx hy),Cx];omega
 have e2:(List.replicate s 0++mul (T.drop s) x y).length=T.length:=by rw[←BL];exact e1
 have h3:=EM.out;rw[e2]at h3;exact⟨g,cap,by rw[e1];rfl,by rw[e1];exact h3,HB2.out⟩
end Go.Proofs.YtaadbccidfdniaaGreat.FY
namespace Go.Proofs.YtaadbccidfdniaaGreat.Vs
open Go.RowKit Go.Proofs.YtaadbccidfdniaaGreat AB Gp Vr FY
theorem Kl (n:Nat)(hn:n≤6)(w:World):(Instr.makeSlice 24 (.int .i64 (n:Int)) (.int .i64 (n:Int))).run Tryz.prog w= .ok (.slice (some ⟨w.heap.size,0,none⟩) n n) (w.alloc (.cells (madeCells #[.int .i64 0] n) 2)):=
 run_make_row' (P:=Tryz.prog) 24 2 (.int .i64 0) 8 Tryz.underlying24 FX rfl .i64 .i64 n (by omega) (by omega) w
theorem VL (T:Tw)(hT:Wf T)(hs:Small T)(s:Nat)(h:s≤T.length)(hg:AB.Good (T.drop s))(w:World)(b o:Nat)(va:Value)(x:List Nat)(K:Nat)(hK:K≤1000)(hP:BN Any w b o (AQ T))(ha:AL Any w va (ints (pad s x)))
  (hx:El (T.drop s) x):
  Calls Tryz.prog 45 #[.pointer (some ⟨b,o,none⟩),va,.int .i64 (K:Int)] w (Ej (ints (pad s (npow (mul (T.drop s)) (AB.one (T.drop s)) x K))) w):=by
 have Eu:=hid (iF T hT hs s h hg);have HG:=hid (BO (FK hT s) hg);have hl:(pad s x).length=T.length:=by rw[Bg,AZ hx,Cx];omega
 have HL:=hid hl;have hs6:=hs.1;have hmk:=Kl T.length hs6;have HP:=hid hP;obtain⟨aA,cA,rfl,hA1⟩:=ha.open;rw[hl]at hA1 ha ⊢;have HA:=hid ha;have HX:=hid hx;have HO:=hid (Own.made (B:=w.heap.size) w T.length AR (by unfold maxLen;omega));clear hP ha hl hx;go_enter Tryz.func45,Tryz.ntmps45;go_wp2_with fail;go_loopw [12] (fun kv wr=>∃k:Nat,k≤K∧kv= .int .i64 (k:Int)∧Own w.heap.size wr (.slice (some ⟨w.heap.size,0,none⟩) T.length T.length) (ints (pad s (npow (mul (T.drop s)) (AB.one (T.drop s)) x k)))∧Below w.heap.size w wr∧w.heap.size<wr.heap.size) (fun kv _=>K-(intOf kv).toNat);case atStart=>
  refine⟨0,AU _,rfl,?_,AX.alloc AR _,by simp⟩;have:=HO.out;rw[OX]at this;rw[JL,YA T s h];exact this
 case round=>
  obtain⟨k,hk,rfl,ho,hb,hsz⟩:=hrel;have HOr:=hid ho;have Bi:=hid hb;clear ho hb;by_cases hlt:k<K
  ·go_wp2_with fail;refine(Eu.out (fun k=>k<w.heap.size) _ b o w.heap.size w.heap.size T.length (.slice aA T.length cA) (List.replicate s 0) (npow (mul (T.drop s)) (AB.one (T.drop s)) x k) x ((Ph HP.out).keep (AA.of_below Bi.out)) ((Vg HA.out).keep (AA.of_below Bi.out)) (by omega) (by simp) (HG.out.npow HX.out k) HX.out HOr.out).mono ?_;rintro e w2 ⟨rfl,ho2,hg2⟩;have e2:(List.replicate s 0++mul (T.drop s) (npow (mul (T.drop s)) (AB.one (T.drop s)) x k) x).length=T.length:=by
    rw[Cs,AZ (HG.out.cl (HG.out.npow HX.out k) HX.out),Cx,DK];omega
   rw[e2,←Dz (mul (T.drop s))]at ho2;have EM:=hid ho2;have HB2:=hid (Bi.out.grown hg2 (by omega) (by intro k hk;cases hk;omega));have hsz2:w.heap.size<w2.heap.size:=Ai hsz hg2.size;clear ho2 hg2 e2;go_wp2_with fail;go_roundw;case rel=>exact⟨k+1,by omega,by go_num,EM.out,HB2.out,hsz2⟩
   case measure=>simp[intOf];omega
  ·obtain rfl:k=K:=by omega
   go_wp2_with fail;go_ret;have e1:(ints (pad s (npow (mul (T.drop s)) (AB.one (T.drop s)) x k))).length=T.length:=by rw[BL,Bg,AZ (HG.out.npow HX.out k),Cx];omega
   exact⟨w.heap.size,T.length,by rw[e1];rfl,by rw[e1];exact HOr.out,Bi.out⟩
theorem AG6 (T:Tw)(hT:Wf T)(hs:Small T)(i:Nat)(L:Lv)(hL:T[i]?=some L)(hg:AB.Good (T.drop (i+1)))(w:World)(b o:Nat)(vx:Value)(x:List Nat)(hP:BN Any w b o (AQ T))(hx:AL Any w vx (ints x))
  (hxl:x.length=T.length) (C9:El (T.drop (i+1)) (x.drop (i+1))):
  Calls Tryz.prog 107 #[.pointer (some ⟨b,o,none⟩),.int .i64 (i:Int),vx] w (Ej (ints (pad (i+1) (img (T.drop (i+1)) L.c (x.drop (i+1))))) w):=by
 have hi:i<T.length:=(Ag.1 hL).1;have Eu:=hid (iF T hT hs (i+1) (by omega) hg);have hs6:=hs.1;have hmk:=Kl T.length hs6;have HK:=hid (lvl' hT hL);have HP:=hid hP;obtain⟨hSb,hbl,vO,vP,vC,hp0,hp1,hp2,hV⟩:=hP;obtain⟨aO,cO,aP,cP,aC,cC,rfl,rfl,rfl,Eo,hP1,FC⟩:=hV.open;obtain⟨bC,oC,a2,c2,rfl,kX,hbC,hcC,h21,Ir⟩:=hV.Mt hL;obtain⟨aX,cX,rfl,hX1⟩:=hx.open;rw[hxl]at hX1 hx ⊢;have hcl:L.c.length=T.length-(i+1):=HK.out.2.1;have HX:=hid hx;have Gg:=hid Ir;have FB:=hid hs;have DN:=hid C9;have Rk:=hid hxl;have HO:=hid (Own.made (B:=w.heap.size) w T.length AR (by unfold maxLen;omega));obtain⟨V,Wo⟩:∃V:Nat→Nat→List Nat,V=fun m q=>Iq (mul (T.drop (i+1))) (AB.one (T.drop (i+1))) (AB.one (T.drop (i+1))) L.c (x.drop (i+1)) m q:=⟨_,rfl⟩;have En:=hid (show∀m q,El (T.drop (i+1)) (V m q) from fun m q=>by rw[Wo];exact VU (El _) (mul _) (fun _ _ p q=>C8 HK.out.1 p q) _ _ _ _ (D5 HK.out.1) (D5 HK.out.1) HK.out.2.2.1 m q);have QJ:=hid (show V 0 0=AB.one (T.drop (i+1)) by rw[Wo];exact Sv _ _ _ _ _);have QK:=hid (show∀m q y,L.c[m]?=some y→mul (T.drop (i+1)) (V m q) y=V m (q+1) from fun m q y hy=>by rw[Wo];simp only[VO];rw[BV,hy];rfl);have UK:=hid (show∀m y,m<T.length-(i+1)→x[i+1+m]?=some y→V m y=V (m+1) 0 from fun m y hm hy=>by rw[Wo];exact VP _ _ _ _ _ _ _ (by rw[HK.out.2.1];omega) (by rw[Ho];exact hy));have QL:=hid (show V (T.length-(i+1)) 0=img (T.drop (i+1)) L.c (x.drop (i+1)) from by rw[Wo];exact VT _ _ _ _ _ _ (by rw[HK.out.2.1];exact Av _) (by rw[Cx,hxl];exact Av _));clear hx C9 hxl hs Ir hV Wo hL hT hg;go_enter Tryz.func107,Tryz.ntmps107;go_wp2_with fail;go_loopw [21] (fun jv wr=>∃m:Nat,m≤T.length-(i+1)∧jv= .int .i64 (m:Int)∧Own w.heap.size wr (.slice (some ⟨w.heap.size,0,none⟩) T.length T.length) (ints (pad (i+1) (V m 0)))∧Below w.heap.size w wr∧w.heap.size<wr.heap.size) (fun jv _=>T.length-(intOf jv).toNat);case atStart=>
  refine⟨0,AU _,rfl,?_,AX.alloc AR _,by simp⟩;have:=HO.out;rw[OX]at this;rw[QJ.out,YA T (i+1) (by omega)];exact this
 case round=>
  obtain⟨m,hm,rfl,ho,hb,hsz⟩:=hrel;have HOr:=hid ho;have Bi:=hid hb;have UO:=hid (AA.of_below (S:=Any) hb);clear ho hb;by_cases hlt:m<T.length-(i+1)
  ·obtain⟨y,hy⟩:∃y,x[i+1+m]?=some y:=⟨_,AO (by rw[Rk.out];omega)⟩;obtain⟨bX,oX,rfl,_,hbX,Fh⟩:=HX.out.at hy;obtain⟨c,hc⟩:∃c,L.c[m]?=some c:=⟨_,AO (by omega)⟩;obtain⟨b2,o2,uc,rfl,_,hb2,RN,huc⟩:=Gg.out m c hc;have Wn:y<7:=FB.out.lt DN.out (by omega) hy;have hcx:wr.cell? ⟨bX,oX+(i+1+m),none⟩=some (.int .i64 (y:Int)):=by rw[UO.out.cell trivial hbX];exact Fh
   have hcc:wr.cell? ⟨b2,o2+m,none⟩=some uc:=by rw[UO.out.cell trivial hb2];exact RN
   have hd:decide ((m:Int)<((T.length-(i+1):Nat):Int))=true:=by simp;omega
   have HY:=hid hy;have HC:=hid hc;have UN:=hid huc;have Lr:=hid (HK.out.2.2.1 c (Ak hc));clear hy hc huc Fh RN;go_wp2_with fail;go_loopw [33] (fun qv wi=>∃q:Nat,q≤y∧qv= .int .i64 (q:Int)∧Own w.heap.size wi (.slice (some ⟨w.heap.size,0,none⟩) T.length T.length) (ints (pad (i+1) (V m q)))∧Below w.heap.size w wi∧w.heap.size<wi.heap.size) (fun qv _=>y-(intOf qv).toNat);case atStart=>exact⟨0,AU _,rfl,HOr.out,Bi.out,hsz⟩
   case round=>
    clear HOr Bi UO hcx hcc;obtain⟨q,hq,rfl,ho,hb,hsz⟩:=hrel;have HOr:=hid ho;have Bi:=hid hb;clear ho hb;by_cases Zm:q<y
    ·go_wp2_with fail;refine(Eu.out (fun k=>k<w.heap.size) _ b o w.heap.size w.heap.size T.length uc (List.replicate (i+1) 0) (V m q) c ((Ph HP.out).keep (AA.of_below Bi.out)) ((Vg UN.out).keep (AA.of_below Bi.out)) (by omega) (by simp) (En.out m q) Lr.out HOr.out).mono ?_;rintro e w2 ⟨rfl,ho2,hg2⟩;rw[QK.out m q c HC.out]at ho2;have e2:(List.replicate (i+1) 0++V m (q+1)).length=T.length:=by
      rw[Cs,AZ (En.out m (q+1)),Cx,DK];omega
     rw[e2]at ho2;have EM:=hid ho2;have HB2:=hid (Bi.out.grown hg2 (by omega) (by intro k hk;cases hk;omega));have hsz2:w.heap.size<w2.heap.size:=Ai hsz hg2.size;clear ho2 hg2 e2;go_wp2_with fail;go_roundw;case rel=>exact⟨q+1,by omega,by go_num,EM.out,HB2.out,hsz2⟩
     case measure=>simp[intOf];omega
    ·obtain rfl:q=y:=by omega
     go_wp2_with fail;go_roundw;case rel=>exact⟨m+1,by omega,by go_num,by rw[←UK.out m q (by omega) HY.out];exact HOr.out,Bi.out,hsz⟩
     case measure=>simp[intOf];omega
  ·obtain rfl:m=T.length-(i+1):=by omega
   go_wp2_with fail;go_ret;rw[←QL.out];have e1:(ints (pad (i+1) (V (T.length-(i+1)) 0))).length=T.length:=by rw[BL,Bg,AZ (En.out _ 0),Cx];omega
   exact⟨w.heap.size,T.length,by rw[e1];rfl,by rw[e1];exact HOr.out,Bi.out⟩
end Go.Proofs.YtaadbccidfdniaaGreat.Vs
namespace Go.Proofs.YtaadbccidfdniaaGreat.YX
open Go.RowKit Go.Proofs.YtaadbccidfdniaaGreat AB Gp Vr FY Vs
theorem AJh {T:Tw}(h:Wf T){s j:Nat}(hj:s≤j)(hjn:j<T.length)(hg:AB.Good (T.drop (j+1))){v:List Nat}(hv:El (T.drop s) v):
  (pad s v).take j++tg (T.drop j) ((pad s v).drop j)=pad s (mul (T.drop s) v (unit (T.drop s) (j-s)))∧mul (T.drop s) v (unit (T.drop s) (j-s))=v.take (j-s)++tg (T.drop j) (v.drop (j-s)):=by
 obtain⟨t,rfl⟩:∃t,j=s+t:=⟨j-s,by omega⟩;rw[Nat.add_sub_cancel_left];have hwf:=FK h s;have hd:(T.drop s).drop t=T.drop (s+t):=by rw[Fe]
 have hL:T.drop (s+t)=T[s+t]::T.drop (s+t+1):=EX hjn;have hvd:=KY hv t;rw[hd]at hvd;have e0:mul (T.drop s) v (unit (T.drop s) t)=v.take t++tg (T.drop (s+t)) (v.drop t):=by
  rw[show unit (T.drop s) t=pad t (unit ((T.drop s).drop t) 0) from(fA (T.drop s) t 0 (by simp;omega)).symm,fV hwf t hv (MV (FK hwf t) 0) (by simp;omega),hd];rw[hL]at hvd ⊢;rw[YG (by rw[←hL];exact FK h (s+t)) hg hvd]
 refine⟨?_,e0⟩;have e1:(pad s v).take (s+t)=List.replicate s 0++v.take t:=by simp[pad,List.take_append]
 have e2:(pad s v).drop (s+t)=v.drop t:=by simp[pad,List.drop_append]
 rw[e1,e2,Ih,e0];rfl
def jM (T:Tw)(s:Nat)(x:List Nat)(w:World)(e:Ending)(w':World):Prop:=∃y,(El (T.drop s) y∧mul (T.drop s) x y=AB.one (T.drop s))∧Ej (ints (pad s y)) w e w'
theorem AIS {T:Tw}{i:Nat}{L:Lv}(hL:T[i]?=some L){s:Nat}(hs:s≤i){R:List Nat}{a:Nat}(ha:R[i-s]?=some a):
  (R.take (i-s)++tg (T.drop i) (R.drop (i-s)))[i-s]?=some (if a+1=L.o then 0 else a+1)∧(R.take (i-s)++tg (T.drop i) (R.drop (i-s))).take (i-s)=R.take (i-s):=by
 have hlt:i-s<R.length:=(Ag.1 ha).1;have hl:(R.take (i-s)).length=i-s:=by rw[JX];omega
 rw[Fw hL,EX hlt,(Ag.1 ha).2,tg];constructor
 ·rw[D9 (by omega),hl,Nf];rfl
 ·rw[List.take_append_of_le_length (by omega),P6 (by omega)]
def left (o a:Nat):Nat:=if a=0 then 0 else o-a
theorem oW (T:Tw)(hT:Wf T)(hs:Small T)(s:Nat)(h:s≤T.length)(hg:AB.Good (T.drop s))(w:World)(b o:Nat)(va:Value)(x:List Nat)(hP:BN Any w b o (AQ T))(ha:AL Any w va (ints (pad s x)))(hn:NN va)
  (hx:El (T.drop s) x):
  Calls Tryz.prog 85 #[.pointer (some ⟨b,o,none⟩),va] w (jM T s x w):=by
 have hgj:∀j,s≤j→AB.Good (T.drop j):=fun j hj=>by have:=PZ hg (j-s);rwa[Fe,Kg hj]at this
 have kW:=hid (fun j (h1:s≤j) (h2:j<T.length)=>AKq T hT hs j h2 (hgj j h1));have HST:=hid (fun j (h1:s≤j) (h2:j<T.length) {v:List Nat} (hv:El (T.drop s) v)=>AJh hT h1 h2 (hgj (j+1) (by omega)) hv);have HG:=hid (BO (FK hT s) hg);have hl:(pad s x).length=T.length:=by rw[Bg,AZ hx,Cx];omega
 have HL:=hid (show(ints (pad s x)).length=T.length by rw[BL];exact hl);have hs6:=hs.1;have hmk:=Kl T.length hs6;have HP:=hid hP;have HN:=hid hn;obtain⟨aA,cA,rfl,hA1⟩:=ha.open;rw[hl]at hA1 ha ⊢;rw[hl]at HN;have HA:=hid ha;have HX:=hid hx;have FB:=hid hs;have HT:=hid hT;have HGJ:=hid hgj;clear hP ha hl hx hn hs hT hg hgj;go_enter Tryz.func85,Tryz.ntmps85;go_wp2_with fail;refine(oI Any _ (ints (pad s x)) _ HA.out HN.out (by rw[HL.out];omega)).mono ?_;rintro e w1 ⟨g1,c1,rfl,ho1,hb1⟩;rw[HL.out]at ho1 ⊢;have hlt1:=ho1.lt;have DD:=hid (ho1.alloc (.cells (madeCells #[.int .i64 0] T.length) 2));have EM:=hid (Own.made (B:=w.heap.size) w1 T.length hb1.size (by unfold maxLen;omega));have HB1:=hid (hb1.alloc hb1.size (.cells (madeCells #[.int .i64 0] T.length) 2));have hz1:=hb1.size;clear ho1 hb1;go_wp2_with fail;go_loopw [15] (fun iv wr=>∃i:Nat,i≤T.length∧iv= .int .i64 (i:Int)∧∃R O:List Nat,Own w.heap.size wr (.slice (some ⟨g1,0,none⟩) T.length c1) (ints (pad s R))∧Own w.heap.size wr (.slice (some ⟨w1.heap.size,0,none⟩) T.length T.length) (ints (pad s O))∧
   Hid (El (T.drop s) R∧El (T.drop s) O∧mul (T.drop s) x O=R∧R.take (i-s)=List.replicate (i-s) 0)∧Below w.heap.size w wr∧w1.heap.size<wr.heap.size) (fun iv _=>T.length-(intOf iv).toNat)
 case atStart=>
  refine⟨0,AU _,rfl,x,AB.one (T.drop s),DD.out,?_,hid ⟨HX.out,HG.out.me,HG.out.eR HX.out,by simp⟩,HB1.out,by simp⟩;have:=EM.out;rw[OX]at this;rw[YA T s h];exact this
 case round=>
  obtain⟨i,hi,rfl,R,O,Wp,Zn,hR,hb,hsz⟩:=hrel;have Rl:=hid Wp;have Gh:=hid Zn;have Bi:=hid hb;clear Wp Zn hb DD EM HB1;by_cases hlt:i<T.length
  ·have hd:decide ((i:Int)<(T.length:Int))=true:=by simp;omega
   obtain⟨L,hL⟩:∃L,T[i]?=some L:=⟨_,AO hlt⟩;have Cr:L.o≤7:=FB.out.2 L (Ak hL);have EN:=hid hL;clear hL;go_wp2_with fail;go_loopg [18] (left L.o ((pad s R).getD i 0)) (fun k _ wi=>∃R O:List Nat,Own w.heap.size wi (.slice (some ⟨g1,0,none⟩) T.length c1) (ints (pad s R))∧Own w.heap.size wi (.slice (some ⟨w1.heap.size,0,none⟩) T.length T.length) (ints (pad s O))∧
    Hid (El (T.drop s) R∧El (T.drop s) O∧mul (T.drop s) x O=R∧R.take (i-s)=List.replicate (i-s) 0∧k=left L.o ((pad s R).getD i 0))∧Below w.heap.size w wi∧w1.heap.size<wi.heap.size)
   case atStart=>exact⟨R,O,Rl.out,Gh.out,hid ⟨hR.out.1,hR.out.2.1,hR.out.2.2.1,hR.out.2.2.2,rfl⟩,Bi.out,hsz⟩
   case round=>
    clear Rl Gh Bi hR;obtain⟨R,O,Wp,Zn,hR,hb,hsz⟩:=hrel;have hRl:(pad s R).length=T.length:=by rw[Bg,AZ hR.out.1,Cx];omega
    obtain⟨a,ha⟩:∃a,(pad s R)[i]?=some a:=⟨_,AO (by omega)⟩;obtain⟨s1,f1⟩:=Wp.cell (j:=i) (a:=(a:Int)) (by rw[Fx,ha];rfl);have hleft:(pad s R).getD i 0=a:=by rw[BV,ha];rfl
    have Iw:=hid hleft;have HA:=hid ha;have Rl:=hid Wp;have Gh:=hid Zn;have Bi:=hid hb;clear Wp Zn hb ha hleft hRl;by_cases h0:a=0
    ·subst h0;have kZ:=hid (show R.take (i+1-s)=List.replicate (i+1-s) 0 from by
      by_cases hsi:i<s
      ·rw[show i+1-s=0 by omega];rfl
      ·have ha:=HA.out;rw[pad,D9 (by simp;omega)]at ha;simp only[DK]at ha;rw[show i+1-s=(i-s)+1 by omega,IJ,hR.out.2.2.2.1,ha,Pp];rfl)
     go_wp2_with fail;go_roundw;case rel=>exact⟨i+1,by omega,by go_num,R,O,Rl.out,Gh.out,hid ⟨hR.out.1,hR.out.2.1,hR.out.2.2.1,kZ.out⟩,Bi.out,hsz⟩
     case measure=>simp[intOf];omega
    ·have h1:((a:Int) !=0)=true:=by simpa using h0
     have hsi:s≤i:=by
      apply Nat.le_of_not_lt;intro hsi;have ha:=HA.out;rw[pad,EA (by simp;omega)]at ha;simp[hsi]at ha;omega
     have hat:R[i-s]?=some a:=by
      have ha:=HA.out;rw[pad,D9 (by simp;omega)]at ha;simpa using ha
     have hao:a<L.o:=by
      obtain⟨L',hL',hlt'⟩:=LP hR.out.1 hat;rw[Ho,Kg hsi,EN.out]at hL';cases hL';exact hlt'
     have HAT:=hid hat;have hA2:=(HST.out i hsi hlt hR.out.1);have hO2:=(HST.out i hsi hlt hR.out.2.1);obtain⟨U,hU⟩:∃U,U=unit (T.drop s) (i-s):=⟨_,rfl⟩;rw[←hU]at hA2 hO2;have EO:=hid (show El (T.drop s) U by rw[hU];exact MV (FK HT.out s) _);have FH:=hid (AIS EN.out hsi hat);have HA2:=hid hA2;have EM:=hid hO2;have Wq:=hid (show∀X:List Nat,El (T.drop s) X→(pad s X).length=T.length from fun X hX=>by rw[Bg,AZ hX,Cx];omega);clear hat hA2 hO2 hU;go_wp2_with fail;refine(kW.out i hsi hlt (fun k=>k<w.heap.size) _ b o w.heap.size g1 c1 (pad s R) ((Ph HP.out).keep (AA.of_below Bi.out)) (by omega) (Wq.out R hR.out.1) (by have:=KY hR.out.1 (i-s);rw[Fe,Kg hsi]at this;rw[show(pad s R).drop i=R.drop (i-s) by simp[pad,List.drop_append];omega];exact this) Rl.out).mono ?_;rintro e w2 ⟨rfl,ho2,hg2⟩;rw[HA2.out.1,Wq.out _ (HG.out.cl hR.out.1 EO.out)]at ho2;have AMI:=hid ho2;have AMJ:=hid (Gh.out.keep (S:=fun k=>¬k=g1) (AA.grown hg2 (fun k hk e=>hk (Mc e))) (fun k hk=>by simp[Value.ownBlock]at hk;omega));have HB2:=hid (Bi.out.grown hg2 (by omega) (by intro k hk;cases hk;omega));have hsz2:w1.heap.size<w2.heap.size:=Ai hsz hg2.size;clear ho2 hg2 s1 f1;go_wp2_with fail;refine(kW.out i hsi hlt (fun k=>k<w.heap.size) _ b o w.heap.size w1.heap.size T.length (pad s O) ((Ph HP.out).keep (AA.of_below HB2.out)) (by omega) (Wq.out O hR.out.2.1) (by have:=KY hR.out.2.1 (i-s);rw[Fe,Kg hsi]at this;rw[show(pad s O).drop i=O.drop (i-s) by simp[pad,List.drop_append];omega];exact this) AMJ.out).mono ?_;rintro e w3 ⟨rfl,ho3,hg3⟩;rw[EM.out.1,Wq.out _ (HG.out.cl hR.out.2.1 EO.out)]at ho3;have AMK:=hid ho3;have AML:=hid (AMI.out.keep (S:=fun k=>¬k=w1.heap.size) (AA.grown hg3 (fun k hk e=>hk (Mc e))) (fun k hk=>by simp[Value.ownBlock]at hk;omega));have HB3:=hid (HB2.out.grown hg3 (by omega) (by intro k hk;cases hk;omega));have Ta:w1.heap.size<w3.heap.size:=Ai hsz2 hg3.size;clear ho3 hg3;go_wp2_with fail;go_roundg (left L.o ((pad s (mul (T.drop s) R U)).getD i 0));case measure=>
      have ha':(pad s (mul (T.drop s) R U)).getD i 0=if a+1=L.o then 0 else a+1:=by
       rw[BV,pad,D9 (by simp;omega),DK,HA2.out.2,FH.out.1];rfl
      rw[hR.out.2.2.2.2,Iw.out,ha'];unfold left;by_cases hc:a+1=L.o
      ·rw[Bo hc,Bo rfl,BD h0];omega
      ·rw[BD hc,BD (by omega),BD h0];omega
     case rel=>
      exact⟨mul (T.drop s) R U,mul (T.drop s) O U,AML.out,AMK.out,hid ⟨HG.out.cl hR.out.1 EO.out,HG.out.cl hR.out.2.1 EO.out,by rw[←HG.out.Am HX.out hR.out.2.1 EO.out,hR.out.2.2.1],by rw[HA2.out.2,FH.out.2];exact hR.out.2.2.2.1,rfl⟩,HB3.out,Ta⟩
  ·obtain rfl:i=T.length:=by omega
   go_wp2_with fail;go_ret;have e1:(ints (pad s O)).length=T.length:=by rw[BL,Bg,AZ hR.out.2.1,Cx];omega
   have e2:R=AB.one (T.drop s):=by
    have:=hR.out.2.2.2;rw[P6 (by rw[AZ hR.out.1,Cx];exact Av _)]at this;rw[this];simp[AB.one]
   exact⟨O,⟨hR.out.2.1,by rw[hR.out.2.2.1,e2]⟩,w1.heap.size,T.length,by rw[e1];rfl,by rw[e1];exact Gh.out,Bi.out⟩
end Go.Proofs.YtaadbccidfdniaaGreat.YX
namespace Go.Proofs.YtaadbccidfdniaaGreat.YY
open Go.RowKit Go.Proofs.YtaadbccidfdniaaGreat AB Gp Vr FY Vs YX
def EqR (a b:List Int)(w:World)(e:Ending)(w':World):Prop:=e= .returned (.bool (decide (a=b)))∧∃n,w'=w.drewN n
def CjR (T:Tw)(s:Nat)(a c:List Nat)(w:World)(e:Ending)(w':World):Prop:=∃z,(El (T.drop s) z∧mul (T.drop s) c z=mul (T.drop s) a c)∧Ej (ints (pad s z)) w e w'
theorem ng (T:Tw)(hT:Wf T)(hs:Small T)(s:Nat)(h:s≤T.length)(hg:AB.Good (T.drop s))(w:World)(b o:Nat)(va vc:Value)(x y:List Nat)(hP:BN Any w b o (AQ T))(ha:AL Any w va (ints (pad s x)))(hn:NN va)(hb:AL Any w vc (ints (pad s y)))(hnc:NN vc)
  (hx:El (T.drop s) x) (hy:El (T.drop s) y):
  Calls Tryz.prog 46 #[.pointer (some ⟨b,o,none⟩),va,vc] w (CjR T s x y w):=by
 have G:=BO (FK hT s) hg;have HI:=hid (fun W hP ha hn=>oW T hT hs s h hg W b o vc y hP ha hn hy);have HM:=hid (fun W va vb x y hP ha hn hb hx hy=>dh T hT hs s h hg W b o va vb x y hP ha hn hb hx hy);have HG:=hid G;have HP:=hid hP;have HA:=hid ha;have HB:=hid hb;have HN:=hid (And.intro hn hnc);clear hP ha hb hn hnc G;go_enter Tryz.func46,Tryz.ntmps46;go_wp2_with fail;refine(HI.out _ HP.out HB.out HN.out.2).mono ?_;rintro e w1 ⟨z,⟨hz1,hz2⟩,g1,c1,rfl,ho1,hb1⟩;have DD:=hid ho1;have HB1:=hid hb1;have HZ:=hid (And.intro hz1 hz2);clear ho1 hb1 hz1 hz2;go_wp2_with fail;refine(HM.out _ va vc x y (HP.out.keep (AA.of_below HB1.out)) (HA.out.keep (AA.of_below HB1.out)) HN.out.1 (HB.out.keep (AA.of_below HB1.out)) hx hy).mono ?_;rintro e w2 ⟨g2,c2,rfl,ho2,hb2⟩;have EM:=hid ho2;have HB2:=hid (HB1.out.trans (hb2.mono HB1.out.size));have Yt:=hid (DD.out.of_below hb2);clear ho2 hb2;go_wp2_with fail;refine(HM.out _ _ _ z (mul (T.drop s) x y) (HP.out.keep (AA.of_below HB2.out)) (Yt.out.sl.mono (fun _ _=>trivial)) (gD _ _ _) (EM.out.sl.mono (fun _ _=>trivial)) HZ.out.1 (HG.out.cl hx hy)).mono ?_;rintro e w3 ⟨g3,c3,rfl,ho3,hb3⟩;have Rm:=hid (ho3.mono (B':=w.heap.size) HB2.out.size);have HB3:=hid (HB2.out.trans (hb3.mono HB2.out.size));clear ho3 hb3;go_wp2_with fail;go_ret;exact⟨mul (T.drop s) z (mul (T.drop s) x y),⟨HG.out.cl HZ.out.1 (HG.out.cl hx hy),by rw[←HG.out.Am hy HZ.out.1 (HG.out.cl hx hy),HZ.out.2,HG.out.eL (HG.out.cl hx hy)]⟩,g3,c3,rfl,Rm.out,HB3.out⟩
theorem AAE (n k:Nat)(hn:n≤6)(hk:k<n)(w:World):
  Calls Tryz.prog 108 #[.int .i64 (n:Int),.int .i64 (k:Int)] w (Ej (ints ((List.replicate n 0).set k 1)) w):=by
 have hmk:=Kl n hn;have HO:=Own.made (B:=w.heap.size) w n AR (by unfold maxLen;omega);obtain⟨s1,f1⟩:=HO.cell (j:=k) (a:=0) (by simp[hk]);have hl:=Nq (base:=w.heap.size) (e:=2) (size:=1) w ((madeCells #[.int .i64 0] n).setIfInBounds k (.int .i64 1)) n AR (by unfold maxLen;omega) (by simp[madeCells]);have KJ:=hid (show Own w.heap.size (w.alloc (.cells ((madeCells #[.int .i64 0] n).setIfInBounds k (.int .i64 1)) 2)) (.slice (some ⟨w.heap.size,0,none⟩) n n) (ints ((List.replicate n 0).set k 1)) from by
  unfold Own;rw[Array.toList_setIfInBounds,Q7]at hl;simpa[vals,ints]using hl)
 clear HO hl;go_enter Tryz.func108,Tryz.ntmps108;go_wp2_with fail;go_ret;have e1:(ints ((List.replicate n 0).set k 1)).length=n:=by simp[ints]
 exact⟨w.heap.size,n,by rw[e1];rfl,by rw[e1];exact KJ.out,AX.alloc AR _⟩
theorem Qv (w:World)(va vb:Value)(a b:List Int)(ha:AL Any w va a)(hb:AL Any w vb b):
  Calls Tryz.prog 97 #[va,vb] w (EqR a b w):=by
 obtain⟨aA,cA,rfl,_,Ox,_,hA⟩:=ha;obtain⟨aB,cB,rfl,_,Oy,_,hB⟩:=hb;unfold maxLen at Ox Oy;have AMM:(a.length:Int)≤9223372036854775807:=by omega
 have HMA:=hid Ox;have HMB:=hid Oy;clear Ox Oy;by_cases hl:a.length=b.length
 ·have hl2:((a.length:Int) !=(b.length:Int))=false:=by simp;omega
  have HA:=hid hA;have HB:=hid hB;have HL:=hid hl;clear hA hB hl;go_enter Tryz.func97,Tryz.ntmps97;go_wp2_with fail;go_loopw [13] (fun i wr=>∃k:Nat,k≤a.length∧i= .int .i64 (k:Int)∧Hid ((∀j,j<k→a[j]?=b[j]?)∧∃n,wr=w.drewN n)) (fun i _=>a.length-(intOf i).toNat);case atStart=>exact⟨0,AU _,rfl,hid ⟨fun j h=>absurd h (CO _),0,rfl⟩⟩
  case round=>
   obtain⟨k,hk,rfl,hR⟩:=hrel;obtain⟨m,hw⟩:=hR.out.2;subst hw;by_cases hlt:k<a.length
   ·obtain⟨x,hx⟩:∃x,a[k]?=some x:=⟨_,AO hlt⟩;obtain⟨y,hy⟩:∃y,b[k]?=some y:=⟨_,AO (by rw[←HL.out];exact hlt)⟩;obtain⟨bA,oA,rfl,_,Rn,u,hcA,rfl⟩:=HA.out k x hx;obtain⟨bB,oB,rfl,_,UQ,u,hcB,rfl⟩:=HB.out k y hy;have hk2:k<b.length:=by rw[←HL.out];exact hlt
    have HX:=hid hx;have HY:=hid hy;have w4:(k:Int)<(a.length:Int):=by omega
    have w5:(0:Int)≤(k:Int):=by omega
    have w6:(k:Int)<(b.length:Int):=by omega
    clear hx hy;by_cases hxy:x=y
    ·have h2:(x !=y)=false:=by simp[hxy]
     have Ro:=hid hxy;clear hxy;go_wp2_with fail;go_quiet (fail);go_wp2_with fail;go_roundw;case rel=>exact⟨k+1,by omega,by go_num,hid ⟨fun j hj=>by
       rcases EB.1 hj with h|h
       ·exact hR.out.1 j h
       ·subst h;rw[HX.out,HY.out,Ro.out],m+nq,by first|rfl|rw[Pt]⟩⟩
     case measure=>simp[intOf];omega
    ·have h2:(x !=y)=true:=by simpa using hxy
     have Ro:=hid hxy;clear hxy;go_wp2_with fail;go_quiet (fail);go_wp2_with fail;go_ret;refine⟨Vq ?_,m+nq,by first|rfl|rw[Pt]⟩
     symm
     rw[decide_eq_false_iff_not];intro e;rw[e,HY.out]at HX;exact Ro.out (Mc HX.out).symm
   ·obtain rfl:k=a.length:=by omega
    go_wp2_with fail;go_ret;refine⟨Vq ?_,m,rfl⟩
    symm
    rw[Yp];apply Oi;intro j;by_cases hj:j<a.length
    ·exact hR.out.1 j hj
    ·rw[J9 (by omega),J9 (by rw[←HL.out];omega)]
 ·have hl2:((a.length:Int) !=(b.length:Int))=true:=by simp;omega
  clear hA hB;go_enter Tryz.func97,Tryz.ntmps97;go_wp2_with fail;go_ret;refine⟨Vq ?_,0,rfl⟩
  symm
  rw[decide_eq_false_iff_not];intro e;exact hl (by rw[e])
end Go.Proofs.YtaadbccidfdniaaGreat.YY
