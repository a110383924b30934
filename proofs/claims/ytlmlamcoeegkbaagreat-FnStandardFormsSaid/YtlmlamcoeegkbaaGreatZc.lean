import Derived.Test.YtlmlamcoeegkbaaGreatZ0
import Derived.Test.YtlmlamcoeegkbaaGreatZb
import Derived.Test.YtlmlamcoeegkbaaGreatZa
import Derived.Laws.AppendOwnNone
/-
  Lemmas for the law FnStandardForms, in short spelling.
-/
open Go.Lib (hid)
set_option linter.unusedVariables false
set_option linter.unusedSimpArgs false
set_option maxRecDepth 100000
set_option maxHeartbeats 40000000
namespace Go.Proofs.YtlmlamcoeegkbaaGreat.P9
open Go.RowKit Go.Proofs.YtlmlamcoeegkbaaGreat AJ
theorem jm (S:Nat→Prop)(v:Value)(l:List Int)(w:World)(hv:AL S w v l)(hl:l.length≤1000000):
  Calls Tryz.prog 125 #[v] w (Jf l w):=by
 obtain⟨i0,hi,hz0,hz1,hz2⟩:=CO Fa;obtain⟨ao,c,rfl,hc,hm,hn,hx⟩:=hv;have HL:=hid hl;have HM:=hid hm;clear hl hm;have hsl:AL S w (.slice ao l.length c) l:=⟨ao,c,rfl,hc,HM.out,hn,hx⟩;have HS:=hid hsl;have h00:=FL (base:=w.heap.size) (e:=2) (size:=1) w #[] 0 AQ (AU _) rfl;have hen:=fun(w:World) (a:Option Addr) (n c n' c':Nat)=>Lib.run_eql_slice_nil (P:=Tryz.prog) w 24 2 a n c n' c' Tryz.underlying24;clear hsl hx;cases ao with
 |none=>
  obtain rfl:c=0:=hn rfl;obtain rfl:l=[]:=EY (by omega);go_enter Tryz.func125,Tryz.ntmps125;go_wp2_with fail;go_ret;exact⟨_,rfl,Jc _ _ _ _,Ag _ _⟩
 |some ad=>
  have C1:=hid (AL.src (w':=w.alloc (.cells #[] 2)) HS.out (AB.alloc _));have C2:=hid (NZ l);have C3:=hid (show 0+l.length≤maxLen from by have:=HL.out;unfold maxLen;omega);have C4:=hid (show(0+l.length)*8≤140737488355328 from by have:=HL.out;omega);have C5:=hid (show(vals l).length=l.length*1 by simp[vals]);go_enter Tryz.func125,Tryz.ntmps125;go_wp2_with (at_builtin;refine GQ _ rfl _ _ 24 rfl w.heap.size 2 i0 (.int .i64 0) 1 8 Tryz.underlying24 hi hz0 hz1 hz2 rfl (by decide) _ _ _ rfl h00 ad l.length c (vals l) rfl C5.out C1.out C2.out C3.out C4.out (by simp) ?_);intro v' w1 hown' hgrow hnil;have hO:Own w.heap.size w1 v' l:=by simpa[Own]using hown'
  have hB:Below w.heap.size w w1:=(AR.alloc AQ _).grown hgrow (by simp) (by intro k hk;simp[Value.ownBlock]at hk;omega);clear hown' hgrow hnil;go_wp2_with fail;go_ret;exact⟨_,rfl,hO,hB⟩
theorem MI {a b c:World}{row:Option Nat}(h1:a.grownBy b row)(h2:b.grownBy c row):a.grownBy c row:=
 ⟨h2.os.trans h1.os,h2.tape.trans h1.tape,h2.output.trans h1.output,Ab h1.size h2.size,fun k hk hr=>(h2.block k (Ad hk h1.size) hr).trans (h1.block k hk hr)⟩
theorem xg (a:World)(row:Option Nat):a.grownBy a row:=⟨rfl,rfl,rfl,Ap _,fun _ _ _=>rfl⟩
theorem AD6 {a b:World}{row:Option Nat}(h:Below a.heap.size a b):a.grownBy b row:=⟨h.os,h.tape,h.output,h.size,fun k hk _=>h.block k hk⟩
theorem xN (a:World)(n:Nat)(row:Option Nat):a.grownBy (a.drewN n) row:=⟨rfl,rfl,rfl,Ap _,fun _ _ _=>rfl⟩
theorem Qw {S:Nat→Prop}{a b:World}{g:Nat}(h:a.grownBy b (some g))(hS:¬S g):AA S a b:=AA.grown h (fun k hk e=>hS (by cases e;exact hk))
def ACQ (B g cap:Nat)(x:List Nat)(w:World)(e:Ending)(w':World):Prop:=e= .returned (.tuple #[])∧Own B w' (.slice (some ⟨g,0,none⟩) x.length cap) (ints x)∧w.grownBy w' (some g)
def Zn (T:Tw)(s:Nat):Prop:=∀(S:Nat→Prop) (w:World) (b o B g cap:Nat) (vf:Value) (u e f:List Nat),Cn S w b o (AX T)→AL S w vf (ints (pad s f))→¬S g→u.length=s→El (T.drop s) e→El (T.drop s) f→
 Own B w (.slice (some ⟨g,0,none⟩) T.length cap) (ints (u++e))→
 Calls Tryz.prog 136 #[.pointer (some ⟨b,o,none⟩),.slice (some ⟨g,0,none⟩) T.length cap,vf] w (ACQ B g cap (u++mul (T.drop s) e f) w)
def V7 (T:Tw)(j:Nat):Prop:=∀(S:Nat→Prop) (w:World) (b o B g cap:Nat) (x:List Nat),Cn S w b o (AX T)→¬S g→x.length=T.length→El (T.drop j) (x.drop j)→
 Own B w (.slice (some ⟨g,0,none⟩) T.length cap) (ints x)→
 Calls Tryz.prog 141 #[.pointer (some ⟨b,o,none⟩),.slice (some ⟨g,0,none⟩) T.length cap,.int .i64 (j:Int)] w (ACQ B g cap (x.take j++tg (T.drop j) (x.drop j)) w)
theorem ABC (T:Tw)(hT:Wf T)(hs:Small T)(s:Nat)(hsl:s≤T.length)(hg:AJ.Good (T.drop s))(YE:∀j,s≤j→j<T.length→V7 T j):Zn T s:=by
 intro S w b o B g cap vf u e f hP hf JO hu he fV hO;have hs6:=hs.1;obtain⟨aF,cF,rfl,hF1⟩:=hf.open;have hfl:(pad s f).length=T.length:=by rw[BZ,Af fV];simp;omega
 rw[hfl]at hF1 hf ⊢;obtain⟨V,hV⟩:∃V:Nat→Nat→List Nat,V=fun j k=>vv T s u e f j k:=⟨_,rfl⟩;have Ev:=hid (show∀j k,El (T.drop s) ((V j k).drop s)∧(V j k).length=T.length from fun j k=>by rw[hV];exact⟨AHx hT hu he f j k,AEu hT hsl hu he f j k⟩);have PV:=hid (show V 0 0=u++e by rw[hV];exact AFZ T s u e f);have HVk:=hid (show∀j,j<s→V (j+1) 0=V j 0 from fun j hj=>by rw[hV];exact AGY T s u e f j hj);have PW:=hid (show∀j k,s≤j→j<T.length→(V j k).take j++tg (T.drop j) ((V j k).drop j)=V j (k+1) from fun j k h1 h2=>by rw[hV];exact AGZ hT hg hu he f h1 h2 k);have SY:=hid (show∀j a,s≤j→j<T.length→f[j-s]?=some a→V j a=V (j+1) 0 from fun j a h1 h2 h3=>by rw[hV];exact AGa h1 h2 h3);have PY:=hid (show V T.length 0=u++mul (T.drop s) e f by rw[hV];exact AHS hT hsl hg he fV);have HO:=hid hO;have HP:=hid hP;have HF:=hid hf;have fZ:=hid YE;have JP:=hid hs;have HFE:=hid fV;have YF:=hid hfl;have HUL:=hid hu;clear hO hP hf YE hV he fV hs hfl hu;go_enter Tryz.func136,Tryz.ntmps136;go_wp2_with fail;go_loopw [10] (fun j wr=>∃m:Nat,m≤T.length∧j= .int .i64 (m:Int)∧Own B wr (.slice (some ⟨g,0,none⟩) T.length cap) (ints (V m 0))∧w.grownBy wr (some g)) (fun j _=>T.length-(intOf j).toNat);case atStart=>exact⟨0,AU _,rfl,by rw[PV.out];exact HO.out,xg _ _⟩
 case round=>
  obtain⟨m,hm,rfl,ho,hgr⟩:=hrel;have HOr:=hid ho;have ED:=hid hgr;clear ho hgr;by_cases hlt:m<T.length
  ·obtain⟨a,ha⟩:∃a,(pad s f)[m]?=some a:=⟨_,AP (by rw[YF.out];exact hlt)⟩;obtain⟨bF,oF,rfl,hSF,hbF,hcF⟩:=HF.out.at ha;have fo:a<7:=by
    by_cases hms:m<s
    ·rw[pad,GN (by simp;omega)]at ha;simp[hms]at ha;omega
    ·exact JP.out.lt (s:=s) (x:=pad s f) (by rw[BG];exact HFE.out) (by omega) ha
   have hk:=Qw ED.out JO;have ALZ:wr.cell? ⟨bF,oF+m,none⟩=some (.int .i64 (a:Int)):=by rw[hk.cell hSF hbF];exact hcF
   have HA:=hid ha;clear ha hcF hk;go_wp2_with fail;go_loopw [16] (fun k wi=>∃q:Nat,q≤a∧k= .int .i64 (q:Int)∧Own B wi (.slice (some ⟨g,0,none⟩) T.length cap) (ints (V m q))∧w.grownBy wi (some g)) (fun k _=>a-(intOf k).toNat);case atStart=>exact⟨0,AU _,rfl,HOr.out,ED.out⟩
   case round=>
    clear HOr ED;obtain⟨q,hq,rfl,ho,hgr⟩:=hrel;have HOr:=hid ho;have ED:=hid hgr;clear ho hgr;by_cases fq:q<a
    ·have hsm:s≤m:=by
      apply Nat.le_of_not_lt;intro hms;have ha:=HA.out;rw[pad,GN (by simp;omega)]at ha;simp[hms]at ha;omega
     go_wp2_with fail;refine(fZ.out m hsm hlt S _ b o B g cap (V m q) (HP.out.keep (Qw ED.out JO)) JO (Ev.out m q).2 (by have:=Jy (Ev.out m q).1 (m-s);rwa[FM,FM,Md hsm]at this) HOr.out).mono ?_;rintro e' w5 ⟨rfl,BF,hg5⟩;rw[PW.out m q hsm hlt]at BF;rw[show(V m (q+1)).length=T.length from(Ev.out m (q+1)).2]at BF;have Dc:=hid BF;have Ls:=hid (MI ED.out hg5);clear BF hg5;go_wp2_with fail;go_roundw;case rel=>exact⟨q+1,by omega,by go_num,Dc.out,Ls.out⟩
     case measure=>simp[intOf];omega
    ·obtain rfl:q=a:=by omega
     have HN:=hid (show V m q=V (m+1) 0 from by
      by_cases hms:m<s
      ·have ha:=HA.out;rw[pad,GN (by simp;omega)]at ha;simp[hms]at ha;rw[←ha,HVk.out m hms]
      ·exact SY.out m q (by omega) hlt (by have ha:=HA.out;rw[pad,Fb (by simp;omega)]at ha;simpa using ha))
     go_wp2_with fail;go_roundw;case rel=>exact⟨m+1,by omega,by go_num,by rw[←HN.out];exact HOr.out,ED.out⟩
     case measure=>simp[intOf];omega
  ·obtain rfl:m=T.length:=by omega
   go_wp2_with fail;go_end0;exact⟨rfl,by rw[←PY.out];have h1:=HOr.out;rw[show(V T.length 0).length=T.length from(Ev.out _ 0).2];exact h1,ED.out⟩
end Go.Proofs.YtlmlamcoeegkbaaGreat.P9
namespace Go.Proofs.YtlmlamcoeegkbaaGreat.UF
open Go.RowKit Go.Proofs.YtlmlamcoeegkbaaGreat AJ P9
theorem AAB {B:Nat}{w:World}{g n cap:Nat}{x:List Int}(h:Own B w (.slice (some ⟨g,0,none⟩) n cap) x):n=x.length∧n≤cap∧cap≤maxLen∧g<w.heap.size:=by
 rcases h.2 with⟨e,_⟩|⟨g',cap',cur,e,_,hh,h1,h2,_⟩
 ·simp at e
 ·simp only[C8,EN,IU,and_true,true_and]at e;obtain⟨rfl,rfl,rfl⟩:=e;exact⟨rfl,h1,h2,(h.lt).2⟩
theorem AFd {B:Nat}{w:World}{g n cap:Nat}{x:List Nat}(h:Own B w (.slice (some ⟨g,0,none⟩) n cap) (ints x))(s:Nat)(hs:s≤n):AL (fun _=>True) w (.slice (some ⟨g,s,none⟩) (n-s) (cap-s)) (ints (x.drop s)):=by
 obtain⟨h1,h2,h3,h4⟩:=AAB h;rw[A7]at h1;refine⟨some ⟨g,s,none⟩,cap-s,by rw[A7,Ct,h1],by rw[A7,Ct];omega,by omega,fun e=>absurd e (by simp),fun i y hy=>⟨g,s,rfl,trivial,h4,.int .i64 y,?_,rfl⟩⟩;exact(h.cell (j:=s+i) (a:=y) (by rw[Gg]at hy ⊢; rw[Gj]at hy;exact hy)).1
theorem AFe (w:World)(g:Nat):AL (fun _=>True) w (.slice (some ⟨g,0,none⟩) 0 0) (ints []):=
 ⟨_,0,rfl,Ap _,AU _,fun e=>absurd e (by simp),fun i y hy=>by simp[ints]at hy⟩
theorem AHz (T:Tw)(hT:Wf T)(hs:Small T)(j:Nat)(L:Lv)(hL:T[j]?=some L)(hg:AJ.Good (T.drop (j+1)))(hTv:Zn T (j+1)):V7 T j:=by
 intro S w b o B g cap x hP JO hxl Du hO;have hj:j<T.length:=(Ak.1 hL).1;have hs6:=hs.1;have HK:=hid (lvl' hT hL);obtain⟨hc1,hc2,hgl⟩:=(AAB hO).2;have Ko:=hid hc2;clear hc2;obtain⟨hSb,hbl,vO,vP,vC,hp0,hp1,hp2,hV⟩:=hP;obtain⟨aO,cO,aP,cP,aC,cC,rfl,rfl,rfl,Er,hP1,FP⟩:=hV.open;obtain⟨bO,oO,rfl,hSO,Ch,Bc⟩:=hV.ord hL;obtain⟨bP,oP,uP,rfl,hSP,EK,hcP,EA⟩:=hV.pow hL;obtain⟨bC,oC,a2,c2,rfl,fu,hbC,hcC,h21,GJ⟩:=hV.J8 hL;obtain⟨a,ha⟩:∃a,x[j]?=some a:=⟨_,AP (by omega)⟩;have fo:a<7:=hs.lt Du AQ ha;have Bz:L.o≤7:=hs.2 L (Ar hL);have HR:=hid (show x.drop j=a::x.drop (j+1) by rw[EZ (by omega),(Ak.1 ha).2]);obtain⟨r,hr⟩:∃r,r=x.drop (j+1):=⟨_,rfl⟩;have hrl:r.length=T.length-(j+1):=by rw[hr,Ct,hxl]
 have hne1:¬b=g:=fun e=>JO (e▸hSb);have hne2:¬bO=g:=fun e=>JO (e▸hSO);have bz:¬bP=g:=fun e=>JO (e▸hSP);have Wz:¬bC=g:=fun e=>JO (e▸fu);have Qd:=hid Bc;have YG:=hid hcP;have Eg:=hid hcC;have DF:=hid (And.intro hp0 (And.intro hp1 hp2));have HP:=hid (show Cn S w b o (AX T) from⟨hSb,hbl,_,_,_,hp0,hp1,hp2,hV⟩);have Ew:=hid EA;have Ij:=hid GJ;have HO:=hid hO;have HL:=hid hL;have HX:=hid ha;have Lt:=hid hxl;have Cw:=hid (show El (T.drop (j+1)) r by rw[hr];have:=Jy Du 1;rwa[FM,FM]at this);have HRR:=hid hr;have Sa:=hid hrl;have IE:=hid hTv;have HG:=hid (Ba HK.out.1 hg);have JP:=hid hs;have hbg:g<w.heap.size:=hgl;have Ay:=hid (show AL (fun _=>True) w (.slice (some ⟨g,j+1,none⟩) (T.length-(j+1)) (cap-(j+1))) (ints r) by rw[hr];exact AFd HO.out (j+1) (by omega));clear Bc hcP hcC hp0 hp1 hp2 EA GJ hO hL ha hxl Du hr hTv hg hs hV;go_enter Tryz.func141,Tryz.ntmps141;go_upto_region 0 with fail;go_cut [6] (fun v1 wx=>Own w.heap.size wx v1 (ints r)∧Below w.heap.size w wx);case first=>
  by_cases hcap:cap=j+1
  ·subst hcap;go_wp2_with fail;refine(jm (fun _=>True) _ (ints r) _ (by rw[show r=[] from EY (by omega)];exact AFe _ _) (by rw[A7];omega)).mono ?_;rintro e w5 ⟨v5,rfl,BF,hb5⟩;have Dc:=hid BF;have AZ:=hid hb5;clear BF hb5;go_wp2_with fail;go_meet;exact⟨Dc.out,AZ.out⟩
  ·have hcap2:¬j+1=cap:=fun e=>hcap e.symm;go_wp2_with fail;refine(jm (fun _=>True) _ (ints r) _ (Ay.out) (by rw[A7];omega)).mono ?_;rintro e w5 ⟨v5,rfl,BF,hb5⟩;have Dc:=hid BF;have AZ:=hid hb5;clear BF hb5;go_wp2_with fail;go_meet;exact⟨Dc.out,AZ.out⟩
 case rest=>
  obtain⟨dH,dI⟩:=hcut;obtain⟨aR,cR,rfl,Lu⟩:=dH.sl.open;rw[hrl]at Lu dH ⊢;have HR1:=hid (show AL (fun k=>w.heap.size≤k) wc (.slice aR (T.length-(j+1)) cR) (ints r) from dH.sl);have AJG:=hid (HO.out.of_below dI);have Cs:=hid (AD6 (row:=some g) dI);have HB1:=hid dI;clear dH dI Ay;obtain⟨Z,hZ⟩:∃Z:Nat→List Nat,Z=fun k=>x.take (j+1)++List.replicate k 0++x.drop (j+1+k):=⟨_,rfl⟩;have HZ0:=hid (show Z 0=x by rw[hZ];simp);have gD:=hid (show∀k,k≤T.length-(j+1)→(Z k).length=T.length from fun k hk=>by rw[hZ];simp[Lt.out];omega);have tK:=hid (show∀k,k<T.length-(j+1)→(Z k).set (j+1+k) 0=Z (k+1) from fun k hk=>by
   rw[hZ];have hl:=Lt.out;show(x.take (j+1)++List.replicate k 0++x.drop (j+1+k)).set (j+1+k) 0=x.take (j+1)++List.replicate (k+1) 0++x.drop (j+1+(k+1));rw[List.set_append_right _ _ (by simp;omega),EZ (show j+1+k<x.length by omega)];simp only[Cm,Gl,Cf,hl];rw[show j+1+k-(min (j+1) T.length+k)=0 by omega,Az,Om];simp[Nat.add_assoc])
  have HZz:=hid (show Z (T.length-(j+1))=x.take j++a::AJ.one (T.drop (j+1)) from by
   rw[hZ];have hl:=Lt.out;show x.take (j+1)++List.replicate (T.length-(j+1)) 0++x.drop (j+1+(T.length-(j+1)))=_;rw[WE (by omega),LM,Jd,HX.out];simp[AJ.one])
  have HZg:=hid (show∀k,k<T.length-(j+1)→∃y,(Z k)[j+1+k]?=some y from fun k hk=>⟨_,AP (by rw[gD.out k (by omega)];omega)⟩);clear hZ;go_wp2_with fail;go_loopw [17] (fun kv wr=>∃k:Nat,k≤T.length-(j+1)∧kv= .int .i64 (k:Int)∧Own B wr (.slice (some ⟨g,0,none⟩) T.length cap) (ints (Z k))∧wc.grownBy wr (some g)) (fun kv _=>T.length-(intOf kv).toNat);case atStart=>exact⟨0,AU _,rfl,by rw[HZ0.out];exact AJG.out,xg _ _⟩
  case round=>
   obtain⟨k,hk,rfl,ho,hgr⟩:=hrel;by_cases hlt:k<T.length-(j+1)
   ·obtain⟨y,hy⟩:=HZg.out k hlt;obtain⟨s1,f1⟩:=ho.cell (j:=j+1+k) (a:=(y:Int)) (by rw[Gg,hy];rfl);obtain⟨h1,h2⟩:=ho.MW (j+1+k) 0;rw[tK.out k hlt]at h1;have H1:=hid h1;have H2:=hid (MI hgr h2);clear ho hgr hy h1 h2;go_wp2_with fail;go_roundw;case rel=>exact⟨k+1,by omega,by go_num,H1.out,H2.out⟩
    case measure=>simp[intOf];omega
   ·obtain rfl:k=T.length-(j+1):=by omega
    have HOr:=hid ho;have ED:=hid hgr;clear ho hgr hlt hk;rw[HZz.out]at HOr;have hxt:(x.take j).length=j:=by rw[Gl,Lt.out];omega
    have KG:=hid hxt;clear hxt;have hga:(x.take j++a::AJ.one (T.drop (j+1)))[j]?=some a:=by rw[Fb (by rw[KG.out];exact Ap _),KG.out];simp
    obtain⟨s1,f1⟩:=HOr.out.cell (j:=j) (a:=(a:Int)) (by rw[Gg,hga];rfl);obtain⟨h1,h2⟩:=HOr.out.MW j (a+1);have hset:∀y,(x.take j++a::AJ.one (T.drop (j+1))).set j y=x.take j++y::AJ.one (T.drop (j+1)):=fun y=>by
     rw[List.set_append_right _ _ (by rw[KG.out];exact Ap _),KG.out,RI,Az]
    rw[hset]at h1;have Di:=hid (show Own B (wr.setCell ⟨g,j,none⟩ (.int .i64 ((a:Int)+1))) (.slice (some ⟨g,0,none⟩) T.length cap) (ints (x.take j++(a+1)::AJ.one (T.drop (j+1)))) from h1);have HG2:=hid (show wc.grownBy (wr.setCell ⟨g,j,none⟩ (.int .i64 ((a:Int)+1))) (some g) from MI ED.out h2);clear hset h1 h2 hga;go_upto_region 7 with fail;clear s1 f1 HOr ED;generalize wr.setCell ⟨g,j,none⟩ (.int .i64 ((a:Int)+1))=w3 at Di HG2 ⊢;obtain⟨a',ha'⟩:∃a',a'=if a+1=L.o then 0 else a+1:=⟨_,rfl⟩;obtain⟨z0,hz0⟩:∃z0,z0=if a+1=L.o then L.w else AJ.one (T.drop (j+1)):=⟨_,rfl⟩;have Uz:=hid ha';have dJ:=hid hz0;have Kq:=hid (show El (T.drop (j+1)) z0 by rw[hz0];split;exact HK.out.2.2.2.1;exact Dm HK.out.1);clear ha' hz0;have hk3:=AA.trans (AA.of_below (S:=S) HB1.out) (Qw HG2.out JO);have hp0:w3.cell? ⟨b,o,none⟩=some (.slice (some ⟨bO,oO,none⟩) T.length cO):=by rw[hk3.cell hSb hbl];exact DF.out.1
    have hp1:w3.cell? ⟨b,o+1,none⟩=some (.slice (some ⟨bP,oP,none⟩) T.length cP):=by rw[hk3.cell hSb hbl];exact DF.out.2.1
    have Bc:w3.cell? ⟨bO,oO+j,none⟩=some (.int .i64 (L.o:Int)):=by rw[hk3.cell hSO Ch];exact Qd.out
    have hcP:w3.cell? ⟨bP,oP+j,none⟩=some uP:=by rw[hk3.cell hSP EK];exact YG.out
    obtain⟨s1,f1⟩:=Di.out.cell (j:=j) (a:=(a:Int)+1) (by rw[Gg,Fb (by rw[KG.out];exact Ap _),KG.out];simp);have w6:(j:Int)<(T.length:Int):=by omega
    have w7:(0:Int)≤(j:Int):=by omega
    have Ei:=hid (HP.out.keep hk3);have nT:=hid (Ew.out.keep hk3);clear hk3;by_cases hcar:a+1=L.o
    ·have hci:((a:Int)+1==(L.o:Int))=true:=by simp;omega
     have XF:=hid hcar;clear hcar;go_wp2_with fail;go_quiet (fail);obtain⟨h1,h2⟩:=(Di.out.drewN nq).MW j 0;have hset:(x.take j++(a+1)::AJ.one (T.drop (j+1))).set j 0=(x.take j++[0])++AJ.one (T.drop (j+1)):=by
      rw[List.set_append_right _ _ (by rw[KG.out];exact Ap _),KG.out,RI,Az];simp
     rw[hset]at h1;have Ii:=hid h1;have YH:=hid h2;clear hset h1 h2;go_wp2_with fail;refine(IE.out S _ b o B g cap uP (x.take j++[0]) (AJ.one (T.drop (j+1))) L.w (Ei.out.keep ((AB.drewN nq).setCell JO _)) (nT.out.keep ((AB.drewN nq).setCell JO _)) JO (by rw[Cm,KG.out];rfl) (Dm HK.out.1) HK.out.2.2.2.1 Ii.out).mono ?_;rintro e w5 ⟨rfl,BF,hg5⟩;rw[HG.out.eL HK.out.2.2.2.1]at BF;have Gw:=hid (show Own B w5 (.slice (some ⟨g,0,none⟩) T.length cap) (ints (x.take j++a'::z0)) from by
      rw[Uz.out,dJ.out,CU XF.out,CU XF.out];have e1:(x.take j++[0]++L.w).length=T.length:=by rw[Cm,Cm,KG.out,Af HK.out.2.2.2.1,Ct];simp;omega
      rw[e1]at BF;simpa using BF)
     have PN:=hid (MI HG2.out (MI (xN _ nq _) (MI YH.out hg5)));clear BF hg5 s1 f1 hp0 hp1 Bc hcP Di HG2 Ii YH Ei nT;go_wp2_with fail;have hxu:(x.take j++[a']).length=j+1:=by rw[Cm,KG.out];rfl
     have YI:=hid hxu;have tL:=hid (show∀k y,r[k]?=some y→y<7 from fun k y hy=>JP.out.lt (s:=j+1) (x:=x) (by rw[←HRR.out];exact Cw.out) (j:=j+1+k) (by omega) (by rw[HRR.out,Gj]at hy;exact hy));obtain⟨V,hV⟩:∃V:Nat→Nat→List Nat,V=fun m q=>Ir (mul (T.drop (j+1))) z0 (AJ.one (T.drop (j+1))) L.c r m q:=⟨_,rfl⟩;have Ev:=hid (show∀m q,El (T.drop (j+1)) (V m q) from fun m q=>by rw[hV];exact Td (El _) (mul _) (fun _ _ p q=>Dl HK.out.1 p q) _ _ _ _ Kq.out (Dm HK.out.1) HK.out.2.2.1 m q);have PV:=hid (show V 0 0=z0 by rw[hV];exact Q5 _ _ _ _ _);have PW:=hid (show∀m q y,L.c[m]?=some y→mul (T.drop (j+1)) (V m q) y=V m (q+1) from fun m q y hy=>by rw[hV];simp only[TV];rw[Bg,hy];rfl);have SY:=hid (show∀m y,m<T.length-(j+1)→r[m]?=some y→V m y=V (m+1) 0 from fun m y hm hy=>by rw[hV];exact TW _ _ _ _ _ _ _ (by rw[HK.out.2.1];omega) hy);have PY:=hid (show a'::V (T.length-(j+1)) 0=tg (T.drop j) (x.drop j) from by
      rw[hV];simp only[];rw[Tc _ _ _ _ _ _ (by rw[HK.out.2.1];exact Ap _) (by rw[Sa.out];exact Ap _),FZ HL.out,HR.out,←HRR.out,tg,←Uz.out,←dJ.out])
     clear hV hxu;go_loopw [60] (fun kv wr=>∃m:Nat,m≤T.length-(j+1)∧kv= .int .i64 (m:Int)∧Own B wr (.slice (some ⟨g,0,none⟩) T.length cap) (ints (x.take j++a'::V m 0))∧wc.grownBy wr (some g)) (fun kv _=>T.length-(intOf kv).toNat);case atStart=>exact⟨0,AU _,rfl,by rw[PV.out];exact Gw.out,PN.out⟩
     case round=>
      clear Gw PN;obtain⟨m,hm,rfl,ho,hgr⟩:=hrel;have HOr:=hid ho;have ED:=hid hgr;clear ho hgr;by_cases hlt:m<T.length-(j+1)
      ·obtain⟨y,hy⟩:∃y,r[m]?=some y:=⟨_,AP (by omega)⟩;obtain⟨bR,oR,rfl,hSR,hbR,hcR⟩:=HR1.out.at hy;obtain⟨c,hc⟩:∃c,L.c[m]?=some c:=⟨_,AP (by rw[HK.out.2.1];omega)⟩;obtain⟨b2,o2,uc,rfl,hS2,hb2,QF,huc⟩:=Ij.out m c hc;have hy7:=tL.out m y hy;have nU:¬bR=g:=by omega
       have AJH:wr.cell? ⟨bR,oR+m,none⟩=some (.int .i64 (y:Int)):=by rw[(Qw (S:=fun k=>¬k=g) ED.out (by simp)).cell nU hbR];exact hcR
       have hd:decide ((m:Int)<((T.length-(j+1):Nat):Int))=true:=by simp;omega
       have HY:=hid hy;have HC:=hid hc;have nV:=hid QF;have PZ:=hid huc;have Gu:=hid (HK.out.2.2.1 c (Ar hc));have hcl:L.c.length=T.length-(j+1):=HK.out.2.1;clear hy hc QF huc hcR;go_wp2_with fail;go_loopw [66] (fun qv wi=>∃q:Nat,q≤y∧qv= .int .i64 (q:Int)∧Own B wi (.slice (some ⟨g,0,none⟩) T.length cap) (ints (x.take j++a'::V m q))∧wc.grownBy wi (some g)) (fun qv _=>y-(intOf qv).toNat);case atStart=>exact⟨0,AU _,rfl,HOr.out,ED.out⟩
       case round=>
        clear HOr ED;obtain⟨q,hq,rfl,ho,hgr⟩:=hrel;have HOr:=hid ho;have ED:=hid hgr;clear ho hgr;by_cases hqy:q<y
        ·have hk4:=AA.trans (AA.of_below (S:=S) HB1.out) (Qw ED.out JO);have g0:wr.cell? ⟨b,o,none⟩=some (.slice (some ⟨bO,oO,none⟩) T.length cO):=by rw[hk4.cell hSb hbl];exact DF.out.1
         have g2:wr.cell? ⟨b,o+2,none⟩=some (.slice (some ⟨bC,oC,none⟩) T.length cC):=by rw[hk4.cell hSb hbl];exact DF.out.2.2
         have g3:wr.cell? ⟨bC,oC+j,none⟩=some (.slice (some ⟨b2,o2,none⟩) L.c.length c2):=by rw[hk4.cell fu hbC];exact Eg.out
         have g4:wr.cell? ⟨b2,o2+m,none⟩=some uc:=by rw[hk4.cell hS2 hb2];exact nV.out
         have BJ:=hid (HP.out.keep hk4);have nW:=hid (PZ.out.keep hk4);clear hk4;go_wp2_with fail;refine(IE.out S _ b o B g cap uc (x.take j++[a']) (V m q) c BJ.out nW.out JO YI.out (Ev.out m q) Gu.out (by simpa using HOr.out)).mono ?_;rintro e w5 ⟨rfl,BF,hg5⟩;rw[PW.out m q c HC.out]at BF;have Dc:=hid (show Own B w5 (.slice (some ⟨g,0,none⟩) T.length cap) (ints (x.take j++a'::V m (q+1))) from by
          have e1:(x.take j++[a']++V m (q+1)).length=T.length:=by rw[Cm,YI.out,Af (Ev.out m (q+1)),Ct];omega
          rw[e1]at BF;simpa using BF)
         have Ls:=hid (MI ED.out hg5);clear BF hg5;go_wp2_with fail;go_roundw;case rel=>exact⟨q+1,by omega,by go_num,Dc.out,Ls.out⟩
         case measure=>simp[intOf];omega
        ·obtain rfl:q=y:=by omega
         go_wp2_with fail;go_roundw;case rel=>exact⟨m+1,by omega,by go_num,by rw[←SY.out m q (by omega) HY.out];exact HOr.out,ED.out⟩
         case measure=>simp[intOf];omega
      ·obtain rfl:m=T.length-(j+1):=by omega
       go_wp2_with fail;go_end0;refine⟨rfl,?_,MI Cs.out ED.out⟩;rw[←PY.out];have e1:(x.take j++a'::V (T.length-(j+1)) 0).length=T.length:=by rw[Cm,KG.out,Eb,Af (Ev.out _ 0),Ct];omega
       rw[e1];exact HOr.out
    ·have hci:((a:Int)+1==(L.o:Int))=false:=by simp;omega
     have XF:=hid hcar;clear hcar;go_wp2_with fail;go_quiet (fail);have Gw:=hid (show Own B (w3.drewN nq) (.slice (some ⟨g,0,none⟩) T.length cap) (ints (x.take j++a'::z0)) from by
      rw[Uz.out,dJ.out,BU XF.out,BU XF.out];exact Di.out.drewN nq)
     have PN:=hid (MI HG2.out (xN _ nq _));clear s1 f1 hp0 hp1 Bc hcP Di HG2 Ei nT;go_wp2_with fail;have hxu:(x.take j++[a']).length=j+1:=by rw[Cm,KG.out];rfl
     have YI:=hid hxu;have tL:=hid (show∀k y,r[k]?=some y→y<7 from fun k y hy=>JP.out.lt (s:=j+1) (x:=x) (by rw[←HRR.out];exact Cw.out) (j:=j+1+k) (by omega) (by rw[HRR.out,Gj]at hy;exact hy));obtain⟨V,hV⟩:∃V:Nat→Nat→List Nat,V=fun m q=>Ir (mul (T.drop (j+1))) z0 (AJ.one (T.drop (j+1))) L.c r m q:=⟨_,rfl⟩;have Ev:=hid (show∀m q,El (T.drop (j+1)) (V m q) from fun m q=>by rw[hV];exact Td (El _) (mul _) (fun _ _ p q=>Dl HK.out.1 p q) _ _ _ _ Kq.out (Dm HK.out.1) HK.out.2.2.1 m q);have PV:=hid (show V 0 0=z0 by rw[hV];exact Q5 _ _ _ _ _);have PW:=hid (show∀m q y,L.c[m]?=some y→mul (T.drop (j+1)) (V m q) y=V m (q+1) from fun m q y hy=>by rw[hV];simp only[TV];rw[Bg,hy];rfl);have SY:=hid (show∀m y,m<T.length-(j+1)→r[m]?=some y→V m y=V (m+1) 0 from fun m y hm hy=>by rw[hV];exact TW _ _ _ _ _ _ _ (by rw[HK.out.2.1];omega) hy);have PY:=hid (show a'::V (T.length-(j+1)) 0=tg (T.drop j) (x.drop j) from by
      rw[hV];simp only[];rw[Tc _ _ _ _ _ _ (by rw[HK.out.2.1];exact Ap _) (by rw[Sa.out];exact Ap _),FZ HL.out,HR.out,←HRR.out,tg,←Uz.out,←dJ.out])
     clear hV hxu;go_loopw [60] (fun kv wr=>∃m:Nat,m≤T.length-(j+1)∧kv= .int .i64 (m:Int)∧Own B wr (.slice (some ⟨g,0,none⟩) T.length cap) (ints (x.take j++a'::V m 0))∧wc.grownBy wr (some g)) (fun kv _=>T.length-(intOf kv).toNat);case atStart=>exact⟨0,AU _,rfl,by rw[PV.out];exact Gw.out,PN.out⟩
     case round=>
      clear Gw PN;obtain⟨m,hm,rfl,ho,hgr⟩:=hrel;have HOr:=hid ho;have ED:=hid hgr;clear ho hgr;by_cases hlt:m<T.length-(j+1)
      ·obtain⟨y,hy⟩:∃y,r[m]?=some y:=⟨_,AP (by omega)⟩;obtain⟨bR,oR,rfl,hSR,hbR,hcR⟩:=HR1.out.at hy;obtain⟨c,hc⟩:∃c,L.c[m]?=some c:=⟨_,AP (by rw[HK.out.2.1];omega)⟩;obtain⟨b2,o2,uc,rfl,hS2,hb2,QF,huc⟩:=Ij.out m c hc;have hy7:=tL.out m y hy;have nU:¬bR=g:=by omega
       have AJH:wr.cell? ⟨bR,oR+m,none⟩=some (.int .i64 (y:Int)):=by rw[(Qw (S:=fun k=>¬k=g) ED.out (by simp)).cell nU hbR];exact hcR
       have hd:decide ((m:Int)<((T.length-(j+1):Nat):Int))=true:=by simp;omega
       have HY:=hid hy;have HC:=hid hc;have nV:=hid QF;have PZ:=hid huc;have Gu:=hid (HK.out.2.2.1 c (Ar hc));have hcl:L.c.length=T.length-(j+1):=HK.out.2.1;clear hy hc QF huc hcR;go_wp2_with fail;go_loopw [66] (fun qv wi=>∃q:Nat,q≤y∧qv= .int .i64 (q:Int)∧Own B wi (.slice (some ⟨g,0,none⟩) T.length cap) (ints (x.take j++a'::V m q))∧wc.grownBy wi (some g)) (fun qv _=>y-(intOf qv).toNat);case atStart=>exact⟨0,AU _,rfl,HOr.out,ED.out⟩
       case round=>
        clear HOr ED;obtain⟨q,hq,rfl,ho,hgr⟩:=hrel;have HOr:=hid ho;have ED:=hid hgr;clear ho hgr;by_cases hqy:q<y
        ·have hk4:=AA.trans (AA.of_below (S:=S) HB1.out) (Qw ED.out JO);have g0:wr.cell? ⟨b,o,none⟩=some (.slice (some ⟨bO,oO,none⟩) T.length cO):=by rw[hk4.cell hSb hbl];exact DF.out.1
         have g2:wr.cell? ⟨b,o+2,none⟩=some (.slice (some ⟨bC,oC,none⟩) T.length cC):=by rw[hk4.cell hSb hbl];exact DF.out.2.2
         have g3:wr.cell? ⟨bC,oC+j,none⟩=some (.slice (some ⟨b2,o2,none⟩) L.c.length c2):=by rw[hk4.cell fu hbC];exact Eg.out
         have g4:wr.cell? ⟨b2,o2+m,none⟩=some uc:=by rw[hk4.cell hS2 hb2];exact nV.out
         have BJ:=hid (HP.out.keep hk4);have nW:=hid (PZ.out.keep hk4);clear hk4;go_wp2_with fail;refine(IE.out S _ b o B g cap uc (x.take j++[a']) (V m q) c BJ.out nW.out JO YI.out (Ev.out m q) Gu.out (by simpa using HOr.out)).mono ?_;rintro e w5 ⟨rfl,BF,hg5⟩;rw[PW.out m q c HC.out]at BF;have Dc:=hid (show Own B w5 (.slice (some ⟨g,0,none⟩) T.length cap) (ints (x.take j++a'::V m (q+1))) from by
          have e1:(x.take j++[a']++V m (q+1)).length=T.length:=by rw[Cm,YI.out,Af (Ev.out m (q+1)),Ct];omega
          rw[e1]at BF;simpa using BF)
         have Ls:=hid (MI ED.out hg5);clear BF hg5;go_wp2_with fail;go_roundw;case rel=>exact⟨q+1,by omega,by go_num,Dc.out,Ls.out⟩
         case measure=>simp[intOf];omega
        ·obtain rfl:q=y:=by omega
         go_wp2_with fail;go_roundw;case rel=>exact⟨m+1,by omega,by go_num,by rw[←SY.out m q (by omega) HY.out];exact HOr.out,ED.out⟩
         case measure=>simp[intOf];omega
      ·obtain rfl:m=T.length-(j+1):=by omega
       go_wp2_with fail;go_end0;refine⟨rfl,?_,MI Cs.out ED.out⟩;rw[←PY.out];have e1:(x.take j++a'::V (T.length-(j+1)) 0).length=T.length:=by rw[Cm,KG.out,Eb,Af (Ev.out _ 0),Ct];omega
       rw[e1];exact HOr.out
end Go.Proofs.YtlmlamcoeegkbaaGreat.UF
namespace Go.Proofs.YtlmlamcoeegkbaaGreat.Ov
open Go.RowKit Go.Proofs.YtlmlamcoeegkbaaGreat AJ P9 UF
theorem AAC (T:Tw)(hT:Wf T)(hs:Small T)(m:Nat):∀s,s≤T.length→T.length-s≤m→AJ.Good (T.drop s)→Zn T s∧(s<T.length→V7 T s):=by
 induction m with
 |zero=>
  intro s h1 h2 hg;exact⟨ABC T hT hs s h1 hg (fun j a b=>by omega),fun h=>by omega⟩
 |succ m ih=>
  intro s h1 h2 hg;have hg1:AJ.Good (T.drop (s+1)):=by have:=OZ hg 1;rwa[FM]at this
  have YE:s<T.length→V7 T s:=fun hlt=>
   AHz T hT hs s _ (AP hlt) hg1 (ih (s+1) (by omega) (by omega) hg1).1
  refine⟨ABC T hT hs s h1 hg (fun j a b=>?_),YE⟩;by_cases hj:j=s
  ·subst hj;exact YE b
  ·exact(ih j (by omega) (by omega) (by have:=OZ hg (j-s);rwa[FM,Md a]at this)).2 b
theorem lN (T:Tw)(hT:Wf T)(hs:Small T)(s:Nat)(h:s≤T.length)(hg:AJ.Good (T.drop s)):Zn T s:=(AAC T hT hs _ s h AQ hg).1
theorem AHU (T:Tw)(hT:Wf T)(hs:Small T)(s:Nat)(h:s<T.length)(hg:AJ.Good (T.drop s)):V7 T s:=(AAC T hT hs _ s (EG h) AQ hg).2 h
def NN (v:Value):Prop:=∀n c,v≠.slice none n c
theorem V8 {S:Nat→Prop}{w:World}{v:Value}{l:List Int}(h:AL S w v l):AL (fun k=>k<w.heap.size) w v l:=by
 obtain⟨ao,c,h1,h2,h3,h0,h4⟩:=h;exact⟨ao,c,h1,h2,h3,h0,fun i x hx=>by obtain⟨b,o,e1,_,e3,e4⟩:=h4 i x hx;exact⟨b,o,e1,e3,e3,e4⟩⟩
theorem AAa {S:Nat→Prop}{w:World}{v:Value}{l:List (List Int)}(h:AV S w v l):AV (fun k=>k<w.heap.size) w v l:=by
 obtain⟨ao,c,h1,h2,h3,h0,h4⟩:=h;exact⟨ao,c,h1,h2,h3,h0,fun i x hx=>by obtain⟨b,o,e1,_,e3,u,e4,e5⟩:=h4 i x hx;exact⟨b,o,e1,e3,e3,u,e4,V8 e5⟩⟩
theorem AHV {S:Nat→Prop}{w:World}{v:Value}{l:List (List (List Int))}(h:Fu S w v l):Fu (fun k=>k<w.heap.size) w v l:=by
 obtain⟨ao,c,h1,h2,h3,h0,h4⟩:=h;exact⟨ao,c,h1,h2,h3,h0,fun i x hx=>by obtain⟨b,o,e1,_,e3,u,e4,e5⟩:=h4 i x hx;exact⟨b,o,e1,e3,e3,u,e4,AAa e5⟩⟩
theorem Vw {S:Nat→Prop}{w:World}{b o:Nat}{P:Bq}(h:Cn S w b o P):Cn (fun k=>k<w.heap.size) w b o P:=by
 obtain⟨h1,h2,vO,vP,vC,c1,c2,c3,hv⟩:=h;exact⟨h2,h2,vO,vP,vC,c1,c2,c3,⟨V8 hv.os,AAa hv.ps,AHV hv.cs⟩⟩
theorem mG {S:Nat→Prop}{w:World}{v:Value}{x:List Nat}(h:AL S w v (ints x))(hx:0<x.length):NN v:=by
 obtain⟨ao,c,rfl,_,_,_,h4⟩:=h;obtain⟨b,o,rfl,_⟩:=h4 0 (x[0]:Int) (by rw[Gg,AP hx];rfl);intro n c e;simp at e
theorem AAD (g cap n:Nat):NN (.slice (some ⟨g,0,none⟩) n cap):=fun n c e=>by simp at e
theorem ZB (S:Nat→Prop)(v:Value)(l:List Int)(w:World)(hv:AL S w v l)(hn:NN v)(hl:l.length≤1000000):
  Calls Tryz.prog 125 #[v] w (Ec l w):=by
 obtain⟨i0,hi,hz0,hz1,hz2⟩:=CO Fa;obtain⟨ao,c,rfl,hc,hm,_,hx⟩:=hv;have HL:=hid hl;have HM:=hid hm;clear hl hm;have hsl:AL S w (.slice ao l.length c) l:=⟨ao,c,rfl,hc,HM.out,by assumption,hx⟩;have HS:=hid hsl;have h00:=FL (base:=w.heap.size) (e:=2) (size:=1) w #[] 0 AQ (AU _) rfl;have hen:=fun(w:World) (a:Option Addr) (n c n' c':Nat)=>Lib.run_eql_slice_nil (P:=Tryz.prog) w 24 2 a n c n' c' Tryz.underlying24;cases ao with
 |none=>exact absurd rfl (hn _ _)
 |some ad=>
  have C1:=hid (AL.src (w':=w.alloc (.cells #[] 2)) HS.out (AB.alloc _));have C2:=hid (NZ l);have C3:=hid (show 0+l.length≤maxLen from by have:=HL.out;unfold maxLen;omega);have C4:=hid (show(0+l.length)*8≤140737488355328 from by have:=HL.out;omega);have C5:=hid (show(vals l).length=l.length*1 by simp[vals]);clear hsl hx hn;go_enter Tryz.func125,Tryz.ntmps125;go_wp2_with (at_builtin;refine GQ _ rfl _ _ 24 rfl w.heap.size 2 i0 (.int .i64 0) 1 8 Tryz.underlying24 hi hz0 hz1 hz2 rfl (by decide) _ _ _ rfl h00 ad l.length c (vals l) rfl C5.out C1.out C2.out C3.out C4.out (by simp) ?_);intro v' w1 hown' hgrow hnil;have hO:Own w.heap.size w1 v' l:=by simpa[Own]using hown'
  have hB:Below w.heap.size w w1:=(AR.alloc AQ _).grown hgrow (by simp) (by intro k hk;simp[Value.ownBlock]at hk;omega);have hne:v'≠.slice none 0 0:=hnil;clear hown' hgrow hnil;go_wp2_with fail;go_ret;obtain⟨g,cap,rfl⟩:=hO.head hne;exact⟨g,cap,rfl,hO,hB⟩
abbrev Any:Nat→Prop:=fun _=>True
theorem xH (T:Tw)(hT:Wf T)(hs:Small T)(s:Nat)(h:s≤T.length)(hg:AJ.Good (T.drop s))(w:World)(b o:Nat)(va vb:Value)(x y:List Nat)(hP:Cn Any w b o (AX T))(ha:AL Any w va (ints (pad s x)))(hn:NN va)(hb:AL Any w vb (ints (pad s y)))
  (hx:El (T.drop s) x) (hy:El (T.drop s) y):
  Calls Tryz.prog 89 #[.pointer (some ⟨b,o,none⟩),va,vb] w (Ec (ints (pad s (mul (T.drop s) x y))) w):=by
 have IE:=hid (lN T hT hs s h hg);have hl:(ints (pad s x)).length=T.length:=by rw[A7,BZ,Af hx,Ct];omega
 have HL:=hid hl;have HP:=hid hP;have HA:=hid ha;have HB:=hid hb;have HN:=hid hn;have hs6:=hs.1;clear hP ha hb hn hl;go_enter Tryz.func89,Tryz.ntmps89;go_wp2_with fail;refine(ZB Any _ _ _ HA.out HN.out (by rw[HL.out];omega)).mono ?_;rintro e w1 ⟨g,cap,rfl,ho,hbw⟩;rw[HL.out]at ho ⊢;have HO:=hid ho;have Au:=hid hbw;have hlt:=ho.lt;clear ho hbw;go_wp2_with fail;have hP1:=(Vw HP.out).keep (AA.of_below Au.out);have hB1:=HB.out.keep (AA.of_below Au.out);refine(IE.out (fun k=>k<w.heap.size) _ b o w.heap.size g cap vb (List.replicate s 0) x y hP1 ((V8 HB.out).keep (AA.of_below Au.out)) (by omega) (by simp) hx hy HO.out).mono ?_;rintro e w2 ⟨rfl,ho2,hg2⟩;have Di:=hid ho2;have HB2:=hid (Au.out.grown hg2 (by have:=Au.out.size;omega) (by intro k hk;cases hk;omega));clear ho2 hg2 hP1 hB1;go_wp2_with fail;go_ret;have e1:(ints (pad s (mul (T.drop s) x y))).length=T.length:=by rw[A7,BZ,Af (Dl (Ex hT s) hx hy),Ct];omega
 have e2:(List.replicate s 0++mul (T.drop s) x y).length=T.length:=by rw[←A7];exact e1
 have h3:=Di.out;rw[e2]at h3;exact⟨g,cap,by rw[e1];rfl,by rw[e1];exact h3,HB2.out⟩
end Go.Proofs.YtlmlamcoeegkbaaGreat.Ov
namespace Go.Proofs.YtlmlamcoeegkbaaGreat.WS
open Go.RowKit Go.Proofs.YtlmlamcoeegkbaaGreat AJ P9 UF Ov
theorem Jg (n:Nat)(hn:n≤6)(w:World):(Instr.makeSlice 24 (.int .i64 (n:Int)) (.int .i64 (n:Int))).run Tryz.prog w= .ok (.slice (some ⟨w.heap.size,0,none⟩) n n) (w.alloc (.cells (madeCells #[.int .i64 0] n) 2)):=
 run_make_row' (P:=Tryz.prog) 24 2 (.int .i64 0) 8 Tryz.underlying24 Fa rfl .i64 .i64 n (by omega) (by omega) w
theorem Q0 (T:Tw)(hT:Wf T)(hs:Small T)(s:Nat)(h:s≤T.length)(hg:AJ.Good (T.drop s))(w:World)(b o:Nat)(va:Value)(x:List Nat)(K:Nat)(hK:K≤1000)(hP:Cn Any w b o (AX T))(ha:AL Any w va (ints (pad s x)))
  (hx:El (T.drop s) x):
  Calls Tryz.prog 85 #[.pointer (some ⟨b,o,none⟩),va,.int .i64 (K:Int)] w (Ec (ints (pad s (npow (mul (T.drop s)) (AJ.one (T.drop s)) x K))) w):=by
 have IE:=hid (lN T hT hs s h hg);have HG:=hid (Ba (Ex hT s) hg);have hl:(pad s x).length=T.length:=by rw[BZ,Af hx,Ct];omega
 have HL:=hid hl;have hs6:=hs.1;have hmk:=Jg T.length hs6;have HP:=hid hP;obtain⟨aA,cA,rfl,hA1⟩:=ha.open;rw[hl]at hA1 ha ⊢;have HA:=hid ha;have HX:=hid hx;have HO:=hid (Own.made (B:=w.heap.size) w T.length AQ (by unfold maxLen;omega));clear hP ha hl hx;go_enter Tryz.func85,Tryz.ntmps85;go_wp2_with fail;go_loopw [12] (fun kv wr=>∃k:Nat,k≤K∧kv= .int .i64 (k:Int)∧Own w.heap.size wr (.slice (some ⟨w.heap.size,0,none⟩) T.length T.length) (ints (pad s (npow (mul (T.drop s)) (AJ.one (T.drop s)) x k)))∧Below w.heap.size w wr∧w.heap.size<wr.heap.size) (fun kv _=>K-(intOf kv).toNat);case atStart=>
  refine⟨0,AU _,rfl,?_,AR.alloc AQ _,by simp⟩;have:=HO.out;rw[NT]at this;rw[Jw,Vu T s h];exact this
 case round=>
  obtain⟨k,hk,rfl,ho,hb,hsz⟩:=hrel;have HOr:=hid ho;have Cq:=hid hb;clear ho hb;by_cases hlt:k<K
  ·go_wp2_with fail;refine(IE.out (fun k=>k<w.heap.size) _ b o w.heap.size w.heap.size T.length (.slice aA T.length cA) (List.replicate s 0) (npow (mul (T.drop s)) (AJ.one (T.drop s)) x k) x ((Vw HP.out).keep (AA.of_below Cq.out)) ((V8 HA.out).keep (AA.of_below Cq.out)) (by omega) (by simp) (HG.out.npow HX.out k) HX.out HOr.out).mono ?_;rintro e w2 ⟨rfl,ho2,hg2⟩;have e2:(List.replicate s 0++mul (T.drop s) (npow (mul (T.drop s)) (AJ.one (T.drop s)) x k) x).length=T.length:=by
    rw[Cm,Af (HG.out.cl (HG.out.npow HX.out k) HX.out),Ct,Cf];omega
   rw[e2,←Dy (mul (T.drop s))]at ho2;have Di:=hid ho2;have HB2:=hid (Cq.out.grown hg2 (by omega) (by intro k hk;cases hk;omega));have hsz2:w.heap.size<w2.heap.size:=Ad hsz hg2.size;clear ho2 hg2 e2;go_wp2_with fail;go_roundw;case rel=>exact⟨k+1,by omega,by go_num,Di.out,HB2.out,hsz2⟩
   case measure=>simp[intOf];omega
  ·obtain rfl:k=K:=by omega
   go_wp2_with fail;go_ret;have e1:(ints (pad s (npow (mul (T.drop s)) (AJ.one (T.drop s)) x k))).length=T.length:=by rw[A7,BZ,Af (HG.out.npow HX.out k),Ct];omega
   exact⟨w.heap.size,T.length,by rw[e1];rfl,by rw[e1];exact HOr.out,Cq.out⟩
theorem AD7 (T:Tw)(hT:Wf T)(hs:Small T)(i:Nat)(L:Lv)(hL:T[i]?=some L)(hg:AJ.Good (T.drop (i+1)))(w:World)(b o:Nat)(vx:Value)(x:List Nat)(hP:Cn Any w b o (AX T))(hx:AL Any w vx (ints x))
  (hxl:x.length=T.length) (Du:El (T.drop (i+1)) (x.drop (i+1))):
  Calls Tryz.prog 152 #[.pointer (some ⟨b,o,none⟩),.int .i64 (i:Int),vx] w (Ec (ints (pad (i+1) (img (T.drop (i+1)) L.c (x.drop (i+1))))) w):=by
 have hi:i<T.length:=(Ak.1 hL).1;have IE:=hid (lN T hT hs (i+1) (by omega) hg);have hs6:=hs.1;have hmk:=Jg T.length hs6;have HK:=hid (lvl' hT hL);have HP:=hid hP;obtain⟨hSb,hbl,vO,vP,vC,hp0,hp1,hp2,hV⟩:=hP;obtain⟨aO,cO,aP,cP,aC,cC,rfl,rfl,rfl,Er,hP1,FP⟩:=hV.open;obtain⟨bC,oC,a2,c2,rfl,fu,hbC,hcC,h21,GJ⟩:=hV.J8 hL;obtain⟨aX,cX,rfl,hX1⟩:=hx.open;rw[hxl]at hX1 hx ⊢;have hcl:L.c.length=T.length-(i+1):=HK.out.2.1;have HX:=hid hx;have Ij:=hid GJ;have JP:=hid hs;have Cw:=hid Du;have Lt:=hid hxl;have HO:=hid (Own.made (B:=w.heap.size) w T.length AQ (by unfold maxLen;omega));obtain⟨V,U0⟩:∃V:Nat→Nat→List Nat,V=fun m q=>Ir (mul (T.drop (i+1))) (AJ.one (T.drop (i+1))) (AJ.one (T.drop (i+1))) L.c (x.drop (i+1)) m q:=⟨_,rfl⟩;have Ev:=hid (show∀m q,El (T.drop (i+1)) (V m q) from fun m q=>by rw[U0];exact Td (El _) (mul _) (fun _ _ p q=>Dl HK.out.1 p q) _ _ _ _ (Dm HK.out.1) (Dm HK.out.1) HK.out.2.2.1 m q);have PV:=hid (show V 0 0=AJ.one (T.drop (i+1)) by rw[U0];exact Q5 _ _ _ _ _);have PW:=hid (show∀m q y,L.c[m]?=some y→mul (T.drop (i+1)) (V m q) y=V m (q+1) from fun m q y hy=>by rw[U0];simp only[TV];rw[Bg,hy];rfl);have SY:=hid (show∀m y,m<T.length-(i+1)→x[i+1+m]?=some y→V m y=V (m+1) 0 from fun m y hm hy=>by rw[U0];exact TW _ _ _ _ _ _ _ (by rw[HK.out.2.1];omega) (by rw[Gj];exact hy));have PY:=hid (show V (T.length-(i+1)) 0=img (T.drop (i+1)) L.c (x.drop (i+1)) from by rw[U0];exact Tc _ _ _ _ _ _ (by rw[HK.out.2.1];exact Ap _) (by rw[Ct,hxl];exact Ap _));clear hx Du hxl hs GJ hV U0 hL hT hg;go_enter Tryz.func152,Tryz.ntmps152;go_wp2_with fail;go_loopw [21] (fun jv wr=>∃m:Nat,m≤T.length-(i+1)∧jv= .int .i64 (m:Int)∧Own w.heap.size wr (.slice (some ⟨w.heap.size,0,none⟩) T.length T.length) (ints (pad (i+1) (V m 0)))∧Below w.heap.size w wr∧w.heap.size<wr.heap.size) (fun jv _=>T.length-(intOf jv).toNat);case atStart=>
  refine⟨0,AU _,rfl,?_,AR.alloc AQ _,by simp⟩;have:=HO.out;rw[NT]at this;rw[PV.out,Vu T (i+1) (by omega)];exact this
 case round=>
  obtain⟨m,hm,rfl,ho,hb,hsz⟩:=hrel;have HOr:=hid ho;have Cq:=hid hb;have Xk:=hid (AA.of_below (S:=Any) hb);clear ho hb;by_cases hlt:m<T.length-(i+1)
  ·obtain⟨y,hy⟩:∃y,x[i+1+m]?=some y:=⟨_,AP (by rw[Lt.out];omega)⟩;obtain⟨bX,oX,rfl,_,hbX,FV⟩:=HX.out.at hy;obtain⟨c,hc⟩:∃c,L.c[m]?=some c:=⟨_,AP (by omega)⟩;obtain⟨b2,o2,uc,rfl,_,hb2,QF,huc⟩:=Ij.out m c hc;have hy7:y<7:=JP.out.lt Cw.out (by omega) hy;have hcx:wr.cell? ⟨bX,oX+(i+1+m),none⟩=some (.int .i64 (y:Int)):=by rw[Xk.out.cell trivial hbX];exact FV
   have hcc:wr.cell? ⟨b2,o2+m,none⟩=some uc:=by rw[Xk.out.cell trivial hb2];exact QF
   have hd:decide ((m:Int)<((T.length-(i+1):Nat):Int))=true:=by simp;omega
   have HY:=hid hy;have HC:=hid hc;have PZ:=hid huc;have Gu:=hid (HK.out.2.2.1 c (Ar hc));clear hy hc huc FV QF;go_wp2_with fail;go_loopw [33] (fun qv wi=>∃q:Nat,q≤y∧qv= .int .i64 (q:Int)∧Own w.heap.size wi (.slice (some ⟨w.heap.size,0,none⟩) T.length T.length) (ints (pad (i+1) (V m q)))∧Below w.heap.size w wi∧w.heap.size<wi.heap.size) (fun qv _=>y-(intOf qv).toNat);case atStart=>exact⟨0,AU _,rfl,HOr.out,Cq.out,hsz⟩
   case round=>
    clear HOr Cq Xk hcx hcc;obtain⟨q,hq,rfl,ho,hb,hsz⟩:=hrel;have HOr:=hid ho;have Cq:=hid hb;clear ho hb;by_cases hqy:q<y
    ·go_wp2_with fail;refine(IE.out (fun k=>k<w.heap.size) _ b o w.heap.size w.heap.size T.length uc (List.replicate (i+1) 0) (V m q) c ((Vw HP.out).keep (AA.of_below Cq.out)) ((V8 PZ.out).keep (AA.of_below Cq.out)) (by omega) (by simp) (Ev.out m q) Gu.out HOr.out).mono ?_;rintro e w2 ⟨rfl,ho2,hg2⟩;rw[PW.out m q c HC.out]at ho2;have e2:(List.replicate (i+1) 0++V m (q+1)).length=T.length:=by
      rw[Cm,Af (Ev.out m (q+1)),Ct,Cf];omega
     rw[e2]at ho2;have Di:=hid ho2;have HB2:=hid (Cq.out.grown hg2 (by omega) (by intro k hk;cases hk;omega));have hsz2:w.heap.size<w2.heap.size:=Ad hsz hg2.size;clear ho2 hg2 e2;go_wp2_with fail;go_roundw;case rel=>exact⟨q+1,by omega,by go_num,Di.out,HB2.out,hsz2⟩
     case measure=>simp[intOf];omega
    ·obtain rfl:q=y:=by omega
     go_wp2_with fail;go_roundw;case rel=>exact⟨m+1,by omega,by go_num,by rw[←SY.out m q (by omega) HY.out];exact HOr.out,Cq.out,hsz⟩
     case measure=>simp[intOf];omega
  ·obtain rfl:m=T.length-(i+1):=by omega
   go_wp2_with fail;go_ret;rw[←PY.out];have e1:(ints (pad (i+1) (V (T.length-(i+1)) 0))).length=T.length:=by rw[A7,BZ,Af (Ev.out _ 0),Ct];omega
   exact⟨w.heap.size,T.length,by rw[e1];rfl,by rw[e1];exact HOr.out,Cq.out⟩
end Go.Proofs.YtlmlamcoeegkbaaGreat.WS
namespace Go.Proofs.YtlmlamcoeegkbaaGreat.mH
open Go.RowKit Go.Proofs.YtlmlamcoeegkbaaGreat AJ P9 UF Ov WS
theorem AGf {T:Tw}(h:Wf T){s j:Nat}(hj:s≤j)(hjn:j<T.length)(hg:AJ.Good (T.drop (j+1))){v:List Nat}(hv:El (T.drop s) v):
  (pad s v).take j++tg (T.drop j) ((pad s v).drop j)=pad s (mul (T.drop s) v (unit (T.drop s) (j-s)))∧mul (T.drop s) v (unit (T.drop s) (j-s))=v.take (j-s)++tg (T.drop j) (v.drop (j-s)):=by
 obtain⟨t,rfl⟩:∃t,j=s+t:=⟨j-s,by omega⟩;rw[Nat.add_sub_cancel_left];have hwf:=Ex h s;have hd:(T.drop s).drop t=T.drop (s+t):=by rw[FM]
 have hL:T.drop (s+t)=T[s+t]::T.drop (s+t+1):=EZ hjn;have hvd:=Jy hv t;rw[hd]at hvd;have e0:mul (T.drop s) v (unit (T.drop s) t)=v.take t++tg (T.drop (s+t)) (v.drop t):=by
  rw[show unit (T.drop s) t=pad t (unit ((T.drop s).drop t) 0) from(ZN (T.drop s) t 0 (by simp;omega)).symm,ZW hwf t hv (LB (Ex hwf t) 0) (by simp;omega),hd];rw[hL]at hvd ⊢;rw[V6 (by rw[←hL];exact Ex h (s+t)) hg hvd]
 refine⟨?_,e0⟩;have e1:(pad s v).take (s+t)=List.replicate s 0++v.take t:=by simp[pad,List.take_append]
 have e2:(pad s v).drop (s+t)=v.drop t:=by simp[pad,List.drop_append]
 rw[e1,e2,JF,e0];rfl
def AJI (T:Tw)(s:Nat)(x:List Nat)(w:World)(e:Ending)(w':World):Prop:=∃y,(El (T.drop s) y∧mul (T.drop s) x y=AJ.one (T.drop s))∧Ec (ints (pad s y)) w e w'
theorem AFf {T:Tw}{i:Nat}{L:Lv}(hL:T[i]?=some L){s:Nat}(hs:s≤i){R:List Nat}{a:Nat}(ha:R[i-s]?=some a):
  (R.take (i-s)++tg (T.drop i) (R.drop (i-s)))[i-s]?=some (if a+1=L.o then 0 else a+1)∧(R.take (i-s)++tg (T.drop i) (R.drop (i-s))).take (i-s)=R.take (i-s):=by
 have hlt:i-s<R.length:=(Ak.1 ha).1;have hl:(R.take (i-s)).length=i-s:=by rw[Gl];omega
 rw[FZ hL,EZ hlt,(Ak.1 ha).2,tg];constructor
 ·rw[Fb (by omega),hl,RI];rfl
 ·rw[List.take_append_of_le_length (by omega),Mf (by omega)]
def left (o a:Nat):Nat:=if a=0 then 0 else o-a
theorem AEK (T:Tw)(hT:Wf T)(hs:Small T)(s:Nat)(h:s≤T.length)(hg:AJ.Good (T.drop s))(w:World)(b o:Nat)(va:Value)(x:List Nat)(hP:Cn Any w b o (AX T))(ha:AL Any w va (ints (pad s x)))(hn:NN va)
  (hx:El (T.drop s) x):
  Calls Tryz.prog 90 #[.pointer (some ⟨b,o,none⟩),va] w (AJI T s x w):=by
 have hgj:∀j,s≤j→AJ.Good (T.drop j):=fun j hj=>by have:=OZ hg (j-s);rwa[FM,Md hj]at this
 have fZ:=hid (fun j (h1:s≤j) (h2:j<T.length)=>AHU T hT hs j h2 (hgj j h1));have HST:=hid (fun j (h1:s≤j) (h2:j<T.length) {v:List Nat} (hv:El (T.drop s) v)=>AGf hT h1 h2 (hgj (j+1) (by omega)) hv);have HG:=hid (Ba (Ex hT s) hg);have hl:(pad s x).length=T.length:=by rw[BZ,Af hx,Ct];omega
 have HL:=hid (show(ints (pad s x)).length=T.length by rw[A7];exact hl);have hs6:=hs.1;have hmk:=Jg T.length hs6;have HP:=hid hP;have HN:=hid hn;obtain⟨aA,cA,rfl,hA1⟩:=ha.open;rw[hl]at hA1 ha ⊢;rw[hl]at HN;have HA:=hid ha;have HX:=hid hx;have JP:=hid hs;have HT:=hid hT;have HGJ:=hid hgj;clear hP ha hl hx hn hs hT hg hgj;go_enter Tryz.func90,Tryz.ntmps90;go_wp2_with fail;refine(ZB Any _ (ints (pad s x)) _ HA.out HN.out (by rw[HL.out];omega)).mono ?_;rintro e w1 ⟨g1,c1,rfl,ho1,hb1⟩;rw[HL.out]at ho1 ⊢;have hlt1:=ho1.lt;have Db:=hid (ho1.alloc (.cells (madeCells #[.int .i64 0] T.length) 2));have Di:=hid (Own.made (B:=w.heap.size) w1 T.length hb1.size (by unfold maxLen;omega));have HB1:=hid (hb1.alloc hb1.size (.cells (madeCells #[.int .i64 0] T.length) 2));have hz1:=hb1.size;clear ho1 hb1;go_wp2_with fail;go_loopw [15] (fun iv wr=>∃i:Nat,i≤T.length∧iv= .int .i64 (i:Int)∧∃R O:List Nat,Own w.heap.size wr (.slice (some ⟨g1,0,none⟩) T.length c1) (ints (pad s R))∧Own w.heap.size wr (.slice (some ⟨w1.heap.size,0,none⟩) T.length T.length) (ints (pad s O))∧
   Hid (El (T.drop s) R∧El (T.drop s) O∧mul (T.drop s) x O=R∧R.take (i-s)=List.replicate (i-s) 0)∧Below w.heap.size w wr∧w1.heap.size<wr.heap.size) (fun iv _=>T.length-(intOf iv).toNat)
 case atStart=>
  refine⟨0,AU _,rfl,x,AJ.one (T.drop s),Db.out,?_,hid ⟨HX.out,HG.out.me,HG.out.eR HX.out,by simp⟩,HB1.out,by simp⟩;have:=Di.out;rw[NT]at this;rw[Vu T s h];exact this
 case round=>
  obtain⟨i,hi,rfl,R,O,OO,YJ,hR,hb,hsz⟩:=hrel;have OP:=hid OO;have Js:=hid YJ;have Cq:=hid hb;clear OO YJ hb Db Di HB1;by_cases hlt:i<T.length
  ·have hd:decide ((i:Int)<(T.length:Int))=true:=by simp;omega
   obtain⟨L,hL⟩:∃L,T[i]?=some L:=⟨_,AP hlt⟩;have Bz:L.o≤7:=JP.out.2 L (Ar hL);have Et:=hid hL;clear hL;go_wp2_with fail;go_loopg [18] (left L.o ((pad s R).getD i 0)) (fun k _ wi=>∃R O:List Nat,Own w.heap.size wi (.slice (some ⟨g1,0,none⟩) T.length c1) (ints (pad s R))∧Own w.heap.size wi (.slice (some ⟨w1.heap.size,0,none⟩) T.length T.length) (ints (pad s O))∧
    Hid (El (T.drop s) R∧El (T.drop s) O∧mul (T.drop s) x O=R∧R.take (i-s)=List.replicate (i-s) 0∧k=left L.o ((pad s R).getD i 0))∧Below w.heap.size w wi∧w1.heap.size<wi.heap.size)
   case atStart=>exact⟨R,O,OP.out,Js.out,hid ⟨hR.out.1,hR.out.2.1,hR.out.2.2.1,hR.out.2.2.2,rfl⟩,Cq.out,hsz⟩
   case round=>
    clear OP Js Cq hR;obtain⟨R,O,OO,YJ,hR,hb,hsz⟩:=hrel;have hRl:(pad s R).length=T.length:=by rw[BZ,Af hR.out.1,Ct];omega
    obtain⟨a,ha⟩:∃a,(pad s R)[i]?=some a:=⟨_,AP (by omega)⟩;obtain⟨s1,f1⟩:=OO.cell (j:=i) (a:=(a:Int)) (by rw[Gg,ha];rfl);have hleft:(pad s R).getD i 0=a:=by rw[Bg,ha];rfl
    have FU:=hid hleft;have HA:=hid ha;have OP:=hid OO;have Js:=hid YJ;have Cq:=hid hb;clear OO YJ hb ha hleft hRl;by_cases h0:a=0
    ·subst h0;have gF:=hid (show R.take (i+1-s)=List.replicate (i+1-s) 0 from by
      by_cases hsi:i<s
      ·rw[show i+1-s=0 by omega];rfl
      ·have ha:=HA.out;rw[pad,Fb (by simp;omega)]at ha;simp only[Cf]at ha;rw[show i+1-s=(i-s)+1 by omega,Jd,hR.out.2.2.2.1,ha,Om];rfl)
     go_wp2_with fail;go_roundw;case rel=>exact⟨i+1,by omega,by go_num,R,O,OP.out,Js.out,hid ⟨hR.out.1,hR.out.2.1,hR.out.2.2.1,gF.out⟩,Cq.out,hsz⟩
     case measure=>simp[intOf];omega
    ·have h1:((a:Int) !=0)=true:=by simpa using h0
     have hsi:s≤i:=by
      apply Nat.le_of_not_lt;intro hsi;have ha:=HA.out;rw[pad,GN (by simp;omega)]at ha;simp[hsi]at ha;omega
     have hat:R[i-s]?=some a:=by
      have ha:=HA.out;rw[pad,Fb (by simp;omega)]at ha;simpa using ha
     have hao:a<L.o:=by
      obtain⟨L',hL',hlt'⟩:=P7 hR.out.1 hat;rw[Gj,Md hsi,Et.out]at hL';cases hL';exact hlt'
     have HAT:=hid hat;have hA2:=(HST.out i hsi hlt hR.out.1);have hO2:=(HST.out i hsi hlt hR.out.2.1);obtain⟨U,hU⟩:∃U,U=unit (T.drop s) (i-s):=⟨_,rfl⟩;rw[←hU]at hA2 hO2;have Iu:=hid (show El (T.drop s) U by rw[hU];exact LB (Ex HT.out s) _);have GK:=hid (AFf Et.out hsi hat);have HA2:=hid hA2;have Di:=hid hO2;have U4:=hid (show∀X:List Nat,El (T.drop s) X→(pad s X).length=T.length from fun X hX=>by rw[BZ,Af hX,Ct];omega);clear hat hA2 hO2 hU;go_wp2_with fail;refine(fZ.out i hsi hlt (fun k=>k<w.heap.size) _ b o w.heap.size g1 c1 (pad s R) ((Vw HP.out).keep (AA.of_below Cq.out)) (by omega) (U4.out R hR.out.1) (by have:=Jy hR.out.1 (i-s);rw[FM,Md hsi]at this;rw[show(pad s R).drop i=R.drop (i-s) by simp[pad,List.drop_append];omega];exact this) OP.out).mono ?_;rintro e w2 ⟨rfl,ho2,hg2⟩;rw[HA2.out.1,U4.out _ (HG.out.cl hR.out.1 Iu.out)]at ho2;have AJJ:=hid ho2;have AJK:=hid (Js.out.keep (S:=fun k=>¬k=g1) (AA.grown hg2 (fun k hk e=>hk (Ng e))) (fun k hk=>by simp[Value.ownBlock]at hk;omega));have HB2:=hid (Cq.out.grown hg2 (by omega) (by intro k hk;cases hk;omega));have hsz2:w1.heap.size<w2.heap.size:=Ad hsz hg2.size;clear ho2 hg2 s1 f1;go_wp2_with fail;refine(fZ.out i hsi hlt (fun k=>k<w.heap.size) _ b o w.heap.size w1.heap.size T.length (pad s O) ((Vw HP.out).keep (AA.of_below HB2.out)) (by omega) (U4.out O hR.out.2.1) (by have:=Jy hR.out.2.1 (i-s);rw[FM,Md hsi]at this;rw[show(pad s O).drop i=O.drop (i-s) by simp[pad,List.drop_append];omega];exact this) AJK.out).mono ?_;rintro e w3 ⟨rfl,ho3,hg3⟩;rw[Di.out.1,U4.out _ (HG.out.cl hR.out.2.1 Iu.out)]at ho3;have AJL:=hid ho3;have AJM:=hid (AJJ.out.keep (S:=fun k=>¬k=w1.heap.size) (AA.grown hg3 (fun k hk e=>hk (Ng e))) (fun k hk=>by simp[Value.ownBlock]at hk;omega));have HB3:=hid (HB2.out.grown hg3 (by omega) (by intro k hk;cases hk;omega));have Ra:w1.heap.size<w3.heap.size:=Ad hsz2 hg3.size;clear ho3 hg3;go_wp2_with fail;go_roundg (left L.o ((pad s (mul (T.drop s) R U)).getD i 0));case measure=>
      have ha':(pad s (mul (T.drop s) R U)).getD i 0=if a+1=L.o then 0 else a+1:=by
       rw[Bg,pad,Fb (by simp;omega),Cf,HA2.out.2,GK.out.1];rfl
      rw[hR.out.2.2.2.2,FU.out,ha'];unfold left;by_cases hc:a+1=L.o
      ·rw[CU hc,CU rfl,BU h0];omega
      ·rw[BU hc,BU (by omega),BU h0];omega
     case rel=>
      exact⟨mul (T.drop s) R U,mul (T.drop s) O U,AJM.out,AJL.out,hid ⟨HG.out.cl hR.out.1 Iu.out,HG.out.cl hR.out.2.1 Iu.out,by rw[←HG.out.Ae HX.out hR.out.2.1 Iu.out,hR.out.2.2.1],by rw[HA2.out.2,GK.out.2];exact hR.out.2.2.2.1,rfl⟩,HB3.out,Ra⟩
  ·obtain rfl:i=T.length:=by omega
   go_wp2_with fail;go_ret;have e1:(ints (pad s O)).length=T.length:=by rw[A7,BZ,Af hR.out.2.1,Ct];omega
   have e2:R=AJ.one (T.drop s):=by
    have:=hR.out.2.2.2;rw[Mf (by rw[Af hR.out.1,Ct];exact Ap _)]at this;rw[this];simp[AJ.one]
   exact⟨O,⟨hR.out.2.1,by rw[hR.out.2.2.1,e2]⟩,w1.heap.size,T.length,by rw[e1];rfl,by rw[e1];exact Js.out,Cq.out⟩
end Go.Proofs.YtlmlamcoeegkbaaGreat.mH
namespace Go.Proofs.YtlmlamcoeegkbaaGreat.mI
open Go.RowKit Go.Proofs.YtlmlamcoeegkbaaGreat AJ P9 UF Ov WS mH
def KE (a b:List Int)(w:World)(e:Ending)(w':World):Prop:=e= .returned (.bool (decide (a=b)))∧∃n,w'=w.drewN n
def CjR (T:Tw)(s:Nat)(a c:List Nat)(w:World)(e:Ending)(w':World):Prop:=∃z,(El (T.drop s) z∧mul (T.drop s) c z=mul (T.drop s) a c)∧Ec (ints (pad s z)) w e w'
theorem ADt (T:Tw)(hT:Wf T)(hs:Small T)(s:Nat)(h:s≤T.length)(hg:AJ.Good (T.drop s))(w:World)(b o:Nat)(va vc:Value)(x y:List Nat)(hP:Cn Any w b o (AX T))(ha:AL Any w va (ints (pad s x)))(hn:NN va)(hb:AL Any w vc (ints (pad s y)))(hnc:NN vc)
  (hx:El (T.drop s) x) (hy:El (T.drop s) y):
  Calls Tryz.prog 51 #[.pointer (some ⟨b,o,none⟩),va,vc] w (CjR T s x y w):=by
 have G:=Ba (Ex hT s) hg;have HI:=hid (fun W hP ha hn=>AEK T hT hs s h hg W b o vc y hP ha hn hy);have HM:=hid (fun W va vb x y hP ha hn hb hx hy=>xH T hT hs s h hg W b o va vb x y hP ha hn hb hx hy);have HG:=hid G;have HP:=hid hP;have HA:=hid ha;have HB:=hid hb;have HN:=hid (And.intro hn hnc);clear hP ha hb hn hnc G;go_enter Tryz.func51,Tryz.ntmps51;go_wp2_with fail;refine(HI.out _ HP.out HB.out HN.out.2).mono ?_;rintro e w1 ⟨z,⟨hz1,hz2⟩,g1,c1,rfl,ho1,hb1⟩;have Db:=hid ho1;have HB1:=hid hb1;have HZ:=hid (And.intro hz1 hz2);clear ho1 hb1 hz1 hz2;go_wp2_with fail;refine(HM.out _ va vc x y (HP.out.keep (AA.of_below HB1.out)) (HA.out.keep (AA.of_below HB1.out)) HN.out.1 (HB.out.keep (AA.of_below HB1.out)) hx hy).mono ?_;rintro e w2 ⟨g2,c2,rfl,ho2,hb2⟩;have Di:=hid ho2;have HB2:=hid (HB1.out.trans (hb2.mono HB1.out.size));have XG:=hid (Db.out.of_below hb2);clear ho2 hb2;go_wp2_with fail;refine(HM.out _ _ _ z (mul (T.drop s) x y) (HP.out.keep (AA.of_below HB2.out)) (XG.out.sl.mono (fun _ _=>trivial)) (AAD _ _ _) (Di.out.sl.mono (fun _ _=>trivial)) HZ.out.1 (HG.out.cl hx hy)).mono ?_;rintro e w3 ⟨g3,c3,rfl,ho3,hb3⟩;have Kr:=hid (ho3.mono (B':=w.heap.size) HB2.out.size);have HB3:=hid (HB2.out.trans (hb3.mono HB2.out.size));clear ho3 hb3;go_wp2_with fail;go_ret;exact⟨mul (T.drop s) z (mul (T.drop s) x y),⟨HG.out.cl HZ.out.1 (HG.out.cl hx hy),by rw[←HG.out.Ae hy HZ.out.1 (HG.out.cl hx hy),HZ.out.2,HG.out.eL (HG.out.cl hx hy)]⟩,g3,c3,rfl,Kr.out,HB3.out⟩
theorem jQ (n k:Nat)(hn:n≤6)(hk:k<n)(w:World):
  Calls Tryz.prog 126 #[.int .i64 (n:Int),.int .i64 (k:Int)] w (Ec (ints ((List.replicate n 0).set k 1)) w):=by
 have hmk:=Jg n hn;have HO:=Own.made (B:=w.heap.size) w n AQ (by unfold maxLen;omega);obtain⟨s1,f1⟩:=HO.cell (j:=k) (a:=0) (by simp[hk]);have hl:=KT (base:=w.heap.size) (e:=2) (size:=1) w ((madeCells #[.int .i64 0] n).setIfInBounds k (.int .i64 1)) n AQ (by unfold maxLen;omega) (by simp[madeCells]);have Jt:=hid (show Own w.heap.size (w.alloc (.cells ((madeCells #[.int .i64 0] n).setIfInBounds k (.int .i64 1)) 2)) (.slice (some ⟨w.heap.size,0,none⟩) n n) (ints ((List.replicate n 0).set k 1)) from by
  unfold Own;rw[Array.toList_setIfInBounds,Ni]at hl;simpa[vals,ints]using hl)
 clear HO hl;go_enter Tryz.func126,Tryz.ntmps126;go_wp2_with fail;go_ret;have e1:(ints ((List.replicate n 0).set k 1)).length=n:=by simp[ints]
 exact⟨w.heap.size,n,by rw[e1];rfl,by rw[e1];exact Jt.out,AR.alloc AQ _⟩
theorem Q3 (w:World)(va vb:Value)(a b:List Int)(ha:AL Any w va a)(hb:AL Any w vb b):
  Calls Tryz.prog 151 #[va,vb] w (KE a b w):=by
 obtain⟨aA,cA,rfl,_,IC,_,hA⟩:=ha;obtain⟨aB,cB,rfl,_,Kl,_,hB⟩:=hb;unfold maxLen at IC Kl;have AJN:(a.length:Int)≤9223372036854775807:=by omega
 have HMA:=hid IC;have HMB:=hid Kl;clear IC Kl;by_cases hl:a.length=b.length
 ·have hl2:((a.length:Int) !=(b.length:Int))=false:=by simp;omega
  have HA:=hid hA;have HB:=hid hB;have HL:=hid hl;clear hA hB hl;go_enter Tryz.func151,Tryz.ntmps151;go_wp2_with fail;go_loopw [13] (fun i wr=>∃k:Nat,k≤a.length∧i= .int .i64 (k:Int)∧Hid ((∀j,j<k→a[j]?=b[j]?)∧∃n,wr=w.drewN n)) (fun i _=>a.length-(intOf i).toNat);case atStart=>exact⟨0,AU _,rfl,hid ⟨fun j h=>absurd h (DX _),0,rfl⟩⟩
  case round=>
   obtain⟨k,hk,rfl,hR⟩:=hrel;obtain⟨m,hw⟩:=hR.out.2;subst hw;by_cases hlt:k<a.length
   ·obtain⟨x,hx⟩:∃x,a[k]?=some x:=⟨_,AP hlt⟩;obtain⟨y,hy⟩:∃y,b[k]?=some y:=⟨_,AP (by rw[←HL.out];exact hlt)⟩;obtain⟨bA,oA,rfl,_,KF,u,hcA,rfl⟩:=HA.out k x hx;obtain⟨bB,oB,rfl,_,Km,u,hcB,rfl⟩:=HB.out k y hy;have hk2:k<b.length:=by rw[←HL.out];exact hlt
    have HX:=hid hx;have HY:=hid hy;have w4:(k:Int)<(a.length:Int):=by omega
    have w5:(0:Int)≤(k:Int):=by omega
    have w6:(k:Int)<(b.length:Int):=by omega
    clear hx hy;by_cases hxy:x=y
    ·have h2:(x !=y)=false:=by simp[hxy]
     have Lp:=hid hxy;clear hxy;go_wp2_with fail;go_quiet (fail);go_wp2_with fail;go_roundw;case rel=>exact⟨k+1,by omega,by go_num,hid ⟨fun j hj=>by
       rcases FK.1 hj with h|h
       ·exact hR.out.1 j h
       ·subst h;rw[HX.out,HY.out,Lp.out],m+nq,by first|rfl|rw[Oo]⟩⟩
     case measure=>simp[intOf];omega
    ·have h2:(x !=y)=true:=by simpa using hxy
     have Lp:=hid hxy;clear hxy;go_wp2_with fail;go_quiet (fail);go_wp2_with fail;go_ret;refine⟨UE ?_,m+nq,by first|rfl|rw[Oo]⟩
     symm
     rw[decide_eq_false_iff_not];intro e;rw[e,HY.out]at HX;exact Lp.out (Ng HX.out).symm
   ·obtain rfl:k=a.length:=by omega
    go_wp2_with fail;go_ret;refine⟨UE ?_,m,rfl⟩
    symm
    rw[Ht];apply QD;intro j;by_cases hj:j<a.length
    ·exact hR.out.1 j hj
    ·rw[MZ (by omega),MZ (by rw[←HL.out];omega)]
 ·have hl2:((a.length:Int) !=(b.length:Int))=true:=by simp;omega
  clear hA hB;go_enter Tryz.func151,Tryz.ntmps151;go_wp2_with fail;go_ret;refine⟨UE ?_,0,rfl⟩
  symm
  rw[decide_eq_false_iff_not];intro e;exact hl (by rw[e])
end Go.Proofs.YtlmlamcoeegkbaaGreat.mI
