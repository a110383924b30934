import Derived.Test.YtaadbccidfdniaaGreatZ0
import Derived.Test.YtaadbccidfdniaaGreatZx
import Derived.Test.YtaadbccidfdniaaGreatZq
import Derived.Test.YtaadbccidfdniaaGreatZf
import Derived.Test.YtaadbccidfdniaaGreatZe
import Derived.Test.YtaadbccidfdniaaGreatZk
import Derived.ChangeSlices
import Derived.Deep.Slices
import Derived.Lib.SmallJoins
/-
  Lemmas for the law FnCopies, in short spelling.
-/
open Go.Lib (hid)
set_option linter.unusedVariables false
set_option linter.unusedSimpArgs false
set_option maxRecDepth 100000
set_option maxHeartbeats 40000000
namespace Go.Proofs.YtaadbccidfdniaaGreat.FcC
open Go.RowKit Go.Proofs.YtaadbccidfdniaaGreat AB Val Ct CU Gen Gf Re Dr Mh NQ I9 Qi SH ML U4 SQ nY FcA zy
theorem AG3 {U T:Tw}(gT:Ct.Bb (AQ T))(gU:Ct.Bb (AQ U)):(Bf U T T.length []).length=(Grow.grow U T T.length []).length:=by
 obtain⟨hT,CK,BH,JH⟩:=JM gT;obtain⟨hU,G7,FU,MR⟩:=JM gU;exact dx hU FU hT
theorem AJU {T:Tw}(hT:Wf T)(hg:AB.Good T)(hp:Er T){im us:List (List Nat)}(h:Dl T im us):Dl T us us:=by
 obtain⟨hch,heq⟩:=Ve hT hg hp h;have M:=Vl hT hg hp hch;have hG:∀x,Gen.Gen (mul T) (AB.one T) us x↔Gen.Gen (mul T) (AB.one T) im x:=fun x=>(iP hT hg M.wf M.em.el M.em.rel x).trans (heq x);obtain⟨t,t2,h1,h2,e⟩:=h;exact⟨t,t2,⟨h1.tb,h1.sub,h1.mem,fun x=>(hG x).trans (h1.gen x)⟩,h2,e⟩
theorem AJV {S U:Tw}(gS:Bb (AQ S))(gU:Bb (AQ U))(hs:sz S=sz U):Bf S U U.length []≠[]↔Grow.grow U S S.length []≠[]:=by
 obtain⟨hS,_,Cv,pS⟩:=JM gS;obtain⟨hU,_,FU,pU⟩:=JM gU;have h1:Bf S U U.length []≠[]↔∃c,DI S U c:=by rw[←bD.ACQ hU FU hS Cv (JS pU),List.length_pos_iff]
 have h2:Grow.grow U S S.length []≠[]↔∃c,DI U S c:=by rw[←bD.ACQ hS Cv hU FU (JS pS),AG3 gS gU,List.length_pos_iff]
 rw[h1,h2];constructor
 ·rintro⟨c,hc⟩;exact(bD.ACP hU FU hS Cv hc hs S).2 ⟨_,rV hS Cv⟩
 ·rintro⟨c,hc⟩;exact(bD.ACP hS Cv hU FU hc hs.symm U).2 ⟨_,rV hU FU⟩
theorem AIF {S U:Tw}{res:List (List Int)}{k:Int}(gS:Bb (AQ S))(gU:Bb (AQ U))(hs:sz S=sz U)(h27:sz U≤27)(h:sV (AQ S) (AQ U) res k):k=0↔Bf S U U.length []≠[]:=by
 rw[AJV gS gU hs];rcases h with⟨_,_,h⟩|⟨T',U',hT,hU,_,_,h⟩
 ·exact absurd ⟨gS,gU⟩ h
 ·obtain rfl:=Ct.KX hT;obtain rfl:=Ct.KX hU;rcases h with⟨_,rfl,h⟩|⟨_,rfl,_,_,h⟩|⟨rfl,_,_,f,hf,_⟩
  ·omega
  ·exact⟨fun h'=>absurd h' (by decide),fun h'=>absurd (h hs) h'⟩
  ·exact⟨fun _ e=>(by rw[e]at hf;cases hf),fun _=>rfl⟩
theorem bx1 {w wr:World}{a0 a1 a2:Value}{t:TypeId}(hb:Below (w.heap.size+1) (w.alloc (.cells #[a0,a1,a2] t)) wr):
  (wr.cell? ⟨w.heap.size,0,none⟩=some a0∧wr.cell? ⟨w.heap.size,1,none⟩=some a1∧wr.cell? ⟨w.heap.size,2,none⟩=some a2)∧
  AA Any w wr∧Below w.heap.size w wr∧w.heap.size+1≤wr.heap.size:=⟨Cq hb,Dc hb _,Dq hb,by have:=hb.size;simpa using this⟩
def Ib (T:Tw)(w:World)(v:Value):Prop:=∃(L us:List (List (List Nat))) (ms:List Nat),GA Any w v (L.map fun l=>l.map ints)∧ZE T ms∧Ko T ms us∧L.Perm us∧L.length≤4294967296
def kQ (P:Bu)(w:World)(e:Ending)(w':World):Prop:=∃a n c k,e= .returned (.tuple #[.slice a n c,.int .i64 k])∧Below w.heap.size w w'∧
 ((k=1∧¬Bb P)∨∃T,P=AQ T∧Bb P∧((k=3∧32<sz T)∨(k=0∧sz T≤32∧Ib T w' (.slice a n c))))
theorem qc (w:World)(vO vP vC:Value)(P:Bu)(hP:BC Any w vO vP vC P):
  Calls Tryz.prog 8 #[.agg #[vO,vP,vC]] w (kQ P w):=by
 obtain⟨W0,hW0⟩:∃W0,W0=w.alloc (.cells #[vO,vP,vC] 28):=⟨_,rfl⟩;have HB0:=hid (show Below (w.heap.size+1) (w.alloc (.cells #[vO,vP,vC] 28)) W0 by rw[hW0];exact A7 _ _);obtain⟨⟨e0,e1,e2⟩,hk,hbw,hs⟩:=bx1 HB0.out;have HC:=hid (nJ.AAa W0 w.heap.size 0 P ⟨trivial,by omega,_,_,_,e0,e1,e2,hP.keep hk⟩);clear e0 e1 e2 hk hbw hP;go_enter Tryz.func8,Tryz.ntmps8;go_upto_region 1 with fail;rw[←hW0];clear hW0;go_wp2_with fail;refine HC.out.mono ?_;rintro e w1 ⟨v,k,rfl,hb1,h⟩;have HB1:=hid (bx1 (HB0.out.trans (hb1.mono hs))).2.2.1;clear hb1 hs HC HB0;rcases h with⟨rfl,rfl,h⟩|⟨T,rfl,gT,h⟩
 ·have HR:=hid (show kQ P w (.returned (.tuple #[.slice none 0 0,.int .i64 1])) w1 from⟨_,_,_,1,rfl,HB1.out,.inl ⟨rfl,h⟩⟩);clear h;go_wp2_with fail;exact Aj (v:=.tuple #[.slice none 0 0,.int .i64 1]) (by simp[results,Tryz.results8,go_sem]) rfl HR.out
 rcases h with⟨rfl,rfl,h⟩|⟨rfl,h32,lb,lv,L,us,ms,rfl,hlb,hcl,hsl,hSub,Ow,hperm,MC⟩
 ·have HR:=hid (show kQ (AQ T) w (.returned (.tuple #[.slice none 0 0,.int .i64 3])) w1 from⟨_,_,_,3,rfl,HB1.out,.inr ⟨T,rfl,gT,.inl ⟨rfl,h⟩⟩⟩);clear h gT;go_wp2_with fail;exact Aj (v:=.tuple #[.slice none 0 0,.int .i64 3]) (by simp[results,Tryz.results8,go_sem]) rfl HR.out
 ·obtain⟨aL,cL,rfl,_,_⟩:=Aq.form hsl;have HR:=hid (show kQ (AQ T) w (.returned (.tuple #[.slice aL (L.map fun l=>l.map ints).length cL,.int .i64 0])) w1 from⟨_,_,_,0,rfl,HB1.out,.inr ⟨T,rfl,gT,.inr ⟨rfl,h32,L,us,ms,hsl,hSub,Ow,hperm,MC⟩⟩⟩);obtain⟨n,hn⟩:∃n,(L.map fun l=>l.map ints).length=n:=⟨_,rfl⟩;rw[hn]at hcl HR;clear h32 gT hsl hSub Ow hperm MC hn;go_wp2_with fail;exact Aj (v:=.tuple #[.slice aL n cL,.int .i64 0]) (by simp[results,Tryz.results8,go_sem]) rfl HR.out
def AD9 (T:Tw)(us:List (List Nat))(w:World)(e:Ending)(w':World):Prop:=∃a1 a2 a3 n1 n2 n3 c1 c2 c3,e= .returned (.tuple #[.agg #[.slice a1 n1 c1,.slice a2 n2 c2,.slice a3 n3 c3],.int .i64 0])∧BC (fun k=>w.heap.size≤k) w' (.slice a1 n1 c1) (.slice a2 n2 c2) (.slice a3 n3 c3) (AQ (Ac T us))∧Below w.heap.size w w'
theorem AKk (T:Tw)(gT:Bb (AQ T))(w:World)(vO vP vC vU:Value)(us:List (List Nat))(hP:BC Any w vO vP vC (AQ T))(hU:AP Any w vU (us.map ints))(hc:Dl T us us)(hch:JC T us)(h6:us.length≤6):
  Calls Tryz.prog 9 #[.agg #[vO,vP,vC],vU] w (AD9 T us w):=by
 obtain⟨aU,cU,rfl,dU,dV⟩:=Aq.form hU;obtain⟨n,hn⟩:∃n,(us.map ints).length=n:=⟨_,rfl⟩;rw[hn]at hU dU ⊢;have hn63:(n:Int)≤9223372036854775807:=by unfold maxLen at dV;omega
 obtain⟨W0,hW0⟩:∃W0,W0=(w.alloc (.cells #[vO,vP,vC] 28)).alloc (.cells #[.slice none 0 0,.slice none 0 0,.slice none 0 0] 28):=⟨_,rfl⟩;obtain⟨g0,hg0⟩:∃g0,w.heap.size=g0:=⟨_,rfl⟩;have Jj:=hid hg0;have hk0:AA Any w W0:=by rw[hW0];exact(AJ.alloc _).alloc _
 have HB0:=hid (show Below w.heap.size w W0 by rw[hW0];exact(AX.alloc AR _).alloc (by simp) _);have hs0:W0.heap.size=g0+2:=by rw[hW0,←hg0];simp
 have We:W0.heap[g0]?=some (.cells #[vO,vP,vC] 28 (0,0)):=by rw[hW0,←hg0];exact(KD _ _ (by simp)).trans (BA w _)
 have hZ0:W0.heap[g0+1]?=some (.cells #[.slice none 0 0,.slice none 0 0,.slice none 0 0] 28 (0,0)):=by rw[hW0,←hg0];exact Cc.new2 w _ _
 obtain⟨⟨e0,e1,e2⟩,-⟩:=Cc.AV We;have KW:BN Any W0 g0 0 (AQ T):=⟨trivial,by omega,_,_,_,e0,e1,e2,hP.keep hk0⟩;obtain⟨W1,hW1⟩:∃W1,W1=W0.alloc (.cells #[.slice aU n cU] 25):=⟨_,rfl⟩;have hb1:Below W0.heap.size W0 W1:=by rw[hW1];exact AX.alloc AR _
 have HU:=hid (fun(W:World) (hb:Below W0.heap.size W0 W)=>(AP.keep hU hk0).keep (AA.of_below (S:=Any) hb));have IP:=hid (fun(W:World) (hb:Below W0.heap.size W0 W)=>KW.keep (AA.of_below (S:=Any) hb));have HX:=hid (fun(W:World) (hb:Below W0.heap.size W0 W)=>And.intro ((hb.block (g0+1) (by omega)).trans hZ0) (And.intro (show g0+1<W.heap.size by have:=hb.size;omega) (HB0.out.trans (hb.mono HB0.out.size))));have HB1:=hid hb1;have nW:=hid hs0;have HAS:=hid (AHg W1 g0 0 W0.heap.size (AQ T) (.slice aU n cU) (us.map ints) (IP.out W1 hb1) (by rw[hW1];simp) (by rw[hW1];exact Ah _ _ _ #[.slice aU n cU] _ (0,0) (BA _ _)) (HU.out W1 hb1));have HE:=hid (show Hu (AQ T) (us.map ints) from⟨gT,T,us,rfl,rfl,hc⟩);obtain⟨hT,CK,BH,_⟩:=JM gT;have kP:=hid (fun W h1 h2=>mo.ABr T hT CK BH W g0 0 (.slice aU n cU) us h1 h2 h6 hch);clear e0 e1 e2 We hZ0 KW hk0 hs0 hP hU hb1 hn dU dV hc hch hT CK BH gT;go_enter Tryz.func9,Tryz.ntmps9;go_upto_region 1 with fail;rw[←hW0];clear hW0;go_wp2_with fail;rw[←hW1];clear hW1;refine HAS.out.mono ?_;rintro e w2 ⟨r,rfl,hr,hb2⟩;obtain rfl:r=true:=hr.2 HE.out;have kR:=HB1.out.trans (hb2.mono HB1.out.size);have HB2:=hid kR;have Rj:=hid (kP.out w2 (IP.out w2 kR) (HU.out w2 kR));clear hb2 kR hr HAS kP;go_wp2_with fail;refine Rj.out.mono ?_;rintro e w3 ⟨xO,xP,xC,rfl,hv,hb3⟩;obtain⟨aO,cO,aP,cP,aC,cC,rfl,rfl,rfl,-, -, -⟩:=hv.open;obtain⟨m,hm⟩:∃m,(Ac T us).length=m:=⟨_,rfl⟩;rw[hm]at hv ⊢;have AGi:=HB2.out.trans (hb3.mono HB2.out.size);obtain⟨hz,hgl,hbw⟩:=HX.out w3 AGi;obtain⟨⟨z0,z1,z2⟩,f0,f1,f2⟩:=Cc.AV hz;have h2:g0+2≤w2.heap.size:=by have:=HB2.out.size;have:=nW.out;omega
 have HR:=hid (show AD9 T us w (.returned (.tuple #[.agg #[.slice aO m cO,.slice aP m cP,.slice aC m cC],.int .i64 0])) (((w3.setCell ⟨g0+1,0,none⟩ (.slice aO m cO)).setCell ⟨g0+1,1,none⟩ (.slice aP m cP)).setCell ⟨g0+1,2,none⟩ (.slice aC m cC)) from
  ⟨_,_,_,_,_,_,_,_,_,rfl,(hv.keep ((((AA.refl _ w3).setCell (by show¬w2.heap.size≤g0+1;omega) _).setCell (by show¬w2.heap.size≤g0+1;omega) _).setCell (by show¬w2.heap.size≤g0+1;omega) _)).mono (fun k (hk:w2.heap.size≤k)=>by show w.heap.size≤k;have:=Jj.out;omega),
   (((hbw.setCell (p:=⟨g0+1,0,none⟩) (by show w.heap.size≤g0+1;have:=Jj.out;omega) _).setCell (p:=⟨g0+1,1,none⟩) (by show w.heap.size≤g0+1;have:=Jj.out;omega) _).setCell (p:=⟨g0+1,2,none⟩) (by show w.heap.size≤g0+1;have:=Jj.out;omega) _)⟩)
 have AO3:=hid (Cc.BZ (x:=.slice aO m cO) (y:=.slice aP m cP) (z:=.slice aC m cC) hz);clear hv hb3 AGi hz hbw Rj h2 hm;go_wp2_with fail;obtain⟨⟨y0,y1,y2⟩,-⟩:=Cc.AV AO3.out;exact Aj (v:=.tuple #[.agg #[.slice aO m cO,.slice aP m cP,.slice aC m cC],.int .i64 0]) (by simp[results,Tryz.results9,go_sem,y0,y1,y2]) rfl HR.out
theorem AJW {T:Tw}(g:Bb (AQ T)):Valid (AQ T):=by obtain⟨_,_,_,_,h,_⟩:=g;exact h
theorem AKl {T:Tw}:DR (AQ T).os=(sz T:Int):=pg T
def PoR (n:Nat)(w:World)(e:Ending)(w':World):Prop:=e= .returned (.tuple #[.int .i64 (n:Int),.int .i64 0])∧Below w.heap.size w w'
theorem ALP (T:Tw)(gT:Bb (AQ T))(w:World)(vO vP vC:Value)(hP:BC Any w vO vP vC (AQ T)):
  Calls Tryz.prog 25 #[.agg #[vO,vP,vC]] w (PoR (sz T) w):=by
 obtain⟨W0,hW0⟩:∃W0,W0=w.alloc (.cells #[vO,vP,vC] 28):=⟨_,rfl⟩;have HB0:=hid (show Below (w.heap.size+1) (w.alloc (.cells #[vO,vP,vC] 28)) W0 by rw[hW0];exact A7 _ _);obtain⟨⟨e0,e1,e2⟩,hk,hbw,hs⟩:=bx1 HB0.out;have HC:=hid (Yc.VI W0 vO vP vC (AQ T) (hP.keep hk));have HVL:=hid (AJW gT);have hz:=(UH.TH gT).2;have HP:=hid hP;have Bw:=hid (show∀x∈(AQ T).os,CL x=true from ADI gT);clear hk hbw hP gT;go_enter Tryz.func25,Tryz.ntmps25;go_upto_region 1 with fail;rw[←hW0];clear hW0;go_wp2_with fail;refine HC.out.mono ?_;rintro e w1 ⟨r,rfl,hr,hb1⟩;obtain rfl:r=true:=hr.2 HVL.out;have wY:=HB0.out.trans (hb1.mono hs);have HB1:=hid wY;clear e0 e1 e2 hb1 hr HC hs;obtain⟨⟨e0,e1,e2⟩,hk,hbw,hs⟩:=bx1 wY;have Dh:=hid (Px.OY w1 vO (AQ T).os (HP.out.keep hk).os Bw.out);have A9:=hid hbw;clear wY hk hbw;go_wp2_with fail;refine Dh.out.mono ?_;rintro e w2 ⟨z,rfl,h1,h2,rfl⟩;rw[AKl]at h1 h2;have yB:(sz T:Int)≤729:=by omega
 obtain rfl:z=(sz T:Int):=h2 (h1.2 yB);clear h1 h2 Dh;go_wp2_with fail;exact Aj (v:=.tuple #[.int .i64 (sz T:Int),.int .i64 0]) (by simp[results,Tryz.results25,go_sem]) rfl ⟨rfl,A9.out⟩
theorem ABG (T:Tw)(gT:Bb (AQ T))(w:World)(vO vP vC:Value)(hP:BC Any w vO vP vC (AQ T)):
  Calls Tryz.prog 10 #[.agg #[vO,vP,vC]] w fun e w'=>e= .returned (.int .i64 (sz T:Int))∧Below w.heap.size w w':=by
 obtain⟨W0,hW0⟩:∃W0,W0=w.alloc (.cells #[vO,vP,vC] 28):=⟨_,rfl⟩;have HB0:=hid (show Below (w.heap.size+1) (w.alloc (.cells #[vO,vP,vC] 28)) W0 by rw[hW0];exact A7 _ _);obtain⟨⟨e0,e1,e2⟩,hk,hbw,hs⟩:=bx1 HB0.out;have HC:=hid (ALP T gT W0 vO vP vC (hP.keep hk));clear hk hbw hP gT;go_enter Tryz.func10,Tryz.ntmps10;go_upto_region 1 with fail;rw[←hW0];clear hW0;go_wp2_with fail;refine HC.out.mono ?_;rintro e w1 ⟨rfl,hb1⟩;have A9:=hid (bx1 (HB0.out.trans (hb1.mono hs))).2.2.1;clear hb1 HC hs;go_wp2_with fail;go_ret;exact⟨rfl,A9.out⟩
end Go.Proofs.YtaadbccidfdniaaGreat.FcC
namespace Go.Proofs.YtaadbccidfdniaaGreat.FcE
open Go.RowKit Go.Proofs.YtaadbccidfdniaaGreat AB Ct CU Gf Mh Dm I9 SH ML U4 SQ nY CcS zy FcC FcG
open Go.Proofs.YtaadbccidfdniaaGreat.Dr (Any)
open Go.Proofs.YtaadbccidfdniaaGreat.NQ (Dl)
open Go.Proofs.YtaadbccidfdniaaGreat.Cc (AV BZ)
theorem AKm (a:Option Addr)(len cap:Nat)(w:World):Calls Tryz.prog 4 #[.slice a len cap] w (fun e w'=>e= .returned (.bool (decide (4096<len)))∧w'=w):=by
 by_cases h:4096<len
 ·have hd:(len:Int)>4096:=by omega
  rw[IK h];go_enter Tryz.func4,Tryz.ntmps4;go_wp2_with fail;go_ret;exact⟨rfl,rfl⟩
 ·have hd:¬(len:Int)>4096:=by omega
  rw[GX h];go_enter Tryz.func4,Tryz.ntmps4;go_wp2_with fail;go_ret;exact⟨rfl,rfl⟩
def Yes (w:World)(e:Ending)(w':World):Prop:=e= .returned (.bool true)∧Below w.heap.size w w'
theorem AJX {P Q:Bu}{n:Int}(h:ZZ P Q n 0):∃T U,P=AQ T∧Q=AQ U∧Bb (AQ T)∧Bb (AQ U)∧sz T≤27∧sz U≤27∧n=(((Bf T U U.length []).length/(Bf U U U.length []).length:Nat):Int):=by
 rcases h with⟨_,e,_⟩|⟨T,U,rfl,rfl,gT,gU,⟨_,e,_⟩|⟨_,h1,h2,h3⟩⟩
 ·omega
 ·omega
 ·exact⟨T,U,rfl,rfl,gT,gU,h1,h2,h3⟩
theorem ALQ {P Q:Bu}{n k:Int}(h:ZZ P Q n k)(hk:k≠0):n=0:=by
 rcases h with⟨e,_,_⟩|⟨T,U,_,_,_,_,⟨e,_,_⟩|⟨e,_⟩⟩
 ·exact e
 ·exact e
 ·exact absurd e hk
def dY (W:World)(g:Nat)(x y z:Value)(S:Tw):Prop:=W.heap[g]?=some (.cells #[x,y,z] 28 (0,0))∧BC Any W x y z (AQ S)
theorem AKn {S:Nat→Prop}{w wr:World}{x y z:Value}{Q:Tw}(hv:BC S w x y z (AQ Q))(hb:Below wr.heap.size wr w):
  dY (w.alloc (.cells #[x,y,z] 28)) w.heap.size x y z Q∧Below wr.heap.size wr (w.alloc (.cells #[x,y,z] 28)):=
 ⟨⟨BA w _,(hv.mono (S':=Any) fun _ _=>trivial).keep ((AA.refl _ w).alloc _)⟩,hb.alloc hb.size _⟩
theorem AKo {w wr:World}{g:Nat}{x y z a b c:Value}{Q:Tw}(hg:wr.heap.size≤g)(h:w.heap[g]?=some (.cells #[a,b,c] 28 (0,0)))(hv:BC (fun k=>g+1≤k) w x y z (AQ Q))(hb:Below wr.heap.size wr w):
  dY (((w.setCell ⟨g,0,none⟩ x).setCell ⟨g,1,none⟩ y).setCell ⟨g,2,none⟩ z) g x y z Q∧Below wr.heap.size wr (((w.setCell ⟨g,0,none⟩ x).setCell ⟨g,1,none⟩ y).setCell ⟨g,2,none⟩ z):=
 ⟨⟨BZ h,(hv.keep ((((AA.refl _ w).setCell (by show¬g+1≤g;omega) _).setCell (by show¬g+1≤g;omega) _).setCell (by show¬g+1≤g;omega) _)).mono fun _ _=>trivial⟩,
  ((hb.setCell (p:=⟨g,0,none⟩) hg _).setCell (p:=⟨g,1,none⟩) hg _).setCell (p:=⟨g,2,none⟩) hg _⟩
abbrev zb:Obj:=.cells #[.slice none 0 0,.slice none 0 0,.slice none 0 0] 28
theorem AJY {W W':World}{g:Nat}{x y z:Value}{S:Tw}(h:dY W g x y z S)(hb:Below W.heap.size W W'):dY W' g x y z S:=
 ⟨(hb.block g (Ba.1 h.1).1).trans h.1,h.2.keep (AA.of_below hb)⟩
theorem law (a:Option Addr)(len cap:Nat)(w:World)(hR:UT w a len):
  Calls Tryz.prog 3 #[.slice a len cap] w (Yes w):=by
 have Jh:=hid (AKm a len cap w);by_cases hbig:4096<len
 ·rw[IK hbig]at Jh;clear hR hbig;go_enter Tryz.func3,Tryz.ntmps3;go_wp2_with (go_at_call 4;refine Jh.out.mono ?_;rintro e w1 ⟨rfl,rfl⟩);go_ret;exact⟨rfl,A7 _ _⟩
 ·rw[GX hbig]at Jh;have HDR:=hid (AJ3 w a len cap (by omega) hR);clear hR hbig;go_enter Tryz.func3,Tryz.ntmps3;go_upto_region 4 with(first|(go_at_call 4;refine Jh.out.mono ?_;rintro e w1 ⟨rfl,hw1⟩;have HW1:=hid hw1;clear hw1)|(go_at_call 5;rw[HW1.out];refine HDR.out.mono ?_;rintro e w2 ⟨x1,x2,x3,u1,u2,u3,n1,n2,n3,y1,y2,y3,m1,m2,m3,v1,v2,v3,rfl,hp,hq,hb2⟩;obtain⟨P,hP⟩:=yK.ACt hp;obtain⟨Q,hQ⟩:=yK.ACt hq));obtain⟨g,hg⟩:∃g,w2.heap.size=g:=⟨_,rfl⟩;obtain⟨W3,hW3⟩:∃W3,W3=(w2.alloc (.cells #[.slice x1 n1 y1,.slice x2 n2 y2,.slice x3 n3 y3] 28)).alloc (.cells #[.slice u1 m1 v1,.slice u2 m2 v2,.slice u3 m3 v3] 28):=⟨_,rfl⟩;have kS:Below w2.heap.size w2 W3:=by rw[hW3];exact(AX.alloc AR _).alloc (by simp) _
  have hs3:W3.heap.size=g+2:=by rw[hW3,←hg];simp
  have hp3:W3.heap[g]?=some (.cells #[.slice x1 n1 y1,.slice x2 n2 y2,.slice x3 n3 y3] 28 (0,0)):=by rw[hW3,←hg];exact(KD _ _ (by simp)).trans (BA w2 _)
  have hq3:W3.heap[g+1]?=some (.cells #[.slice u1 m1 v1,.slice u2 m2 v2,.slice u3 m3 v3] 28 (0,0)):=by rw[hW3,←hg];exact Cc.new2 w2 _ _
  have hb3:Below w.heap.size w W3:=hb2.trans (kS.mono hb2.size);have HW:=hid (fun(W:World) (hb:Below W3.heap.size W3 W)=>And.intro (AV ((hb.block g (by omega)).trans hp3)).1 (And.intro (AV ((hb.block (g+1) (by omega)).trans hq3)).1 (And.intro (show g+1<W.heap.size by have:=hb.size;omega) (And.intro (hb3.trans (hb.mono hb3.size)) (And.intro
   (((hP.mono fun _ _=>trivial).keep (AA.of_below (S:=Any) kS)).keep (AA.of_below (S:=Any) hb)) (((hQ.mono fun _ _=>trivial).keep (AA.of_below (S:=Any) kS)).keep (AA.of_below (S:=Any) hb)))))))
  rw[←hW3,hg];clear hW3 hg kS hp3 hq3 hs3 hb3 hp hq hP hQ hb2;obtain⟨⟨p0,p1,p2⟩,⟨q0,q1,q2⟩,hz,-, vp,vq⟩:=HW.out W3 AX;have hgl:g<W3.heap.size:=by omega
  have Hy:=hid (AHD W3 _ _ _ _ _ _ P Q vp vq);clear vp vq;go_upto_region 5 with(go_at_call 6;refine Hy.out.mono ?_;rintro e w4 ⟨n,k,rfl,hc,hb4⟩;have HC:=hid hc;have Bl:=hid hb4;obtain⟨⟨p0,p1,p2⟩,⟨q0,q1,q2⟩,hz,-, vp,vq⟩:=HW.out w4 hb4;have hgl:g<w4.heap.size:=by omega);have KI:=hid (AHE w4 _ _ _ _ _ _ P Q vp vq);clear hc hb4 vp vq Hy;go_upto_region 6 with(go_at_call 7;refine KI.out.mono ?_;rintro e w5 ⟨n',k',rfl,hc,hb5⟩;obtain⟨rfl,rfl⟩:=AKj HC.out hc;have QF:=Bl.out.trans (hb5.mono Bl.out.size);have Aa:=hid QF;obtain⟨⟨p0,p1,p2⟩,⟨q0,q1,q2⟩,hz,-, vp,vq⟩:=HW.out w5 QF;have hgl:g<w5.heap.size:=by omega);have e1:(n' !=n')=false:=by simp
  have e2:(k' !=k')=false:=by simp
  have AGj:=hid (HW.out w5 Aa.out).2.2.2.1;clear hc hb5 QF KI;by_cases hk:k'=0
  ·subst hk;obtain⟨T,U,eP,eQ,gT,gU,h27,QG,hnv⟩:=AJX HC.out;subst eP;subst eQ;have HAL:=hid (qc w5 _ _ _ (AQ T) vp);have HG:=hid (And.intro gT gU);have H27:=hid (And.intro h27 QG);have HNV:=hid hnv;clear vp vq hnv h27 QG gT gU;go_upto_region 11 with(go_at_call 8;refine HAL.out.mono ?_;rintro e w6 ⟨aL,nL,cL,k2,rfl,hb6,h⟩);obtain⟨rfl,L,us,ms,hsl,hSub,Ow,hperm,MC⟩:k2=0∧Ib T w6 (.slice aL nL cL):=by
    rcases h with⟨_,h⟩|⟨T',hT',_,⟨_,h⟩|⟨rfl,_,h⟩⟩
    ·exact absurd HG.out.1 h
    ·obtain rfl:=Ct.KX hT';have:=H27.out.1;omega
    ·obtain rfl:=Ct.KX hT';exact⟨rfl,h⟩
   obtain⟨hT,CK,BH,JH⟩:=JM HG.out.1;obtain⟨hU,G7,FU,MR⟩:=JM HG.out.2;have LY:=(UH.TH HG.out.1).2;have MP:=hid (show n'=((IC T U L).length:Int) by
    rw[HNV.out,ABF (count hT BH (JS JH) hU FU (JS MR) hSub Ow hperm) (qG hU FU (JS MR))])
   have Xh:=hid (show∀u∈L,JC T u∧U8.Ll T u∧Dl T u u∧Bb (AQ (Ac T u)) from fun u hu=>by
    obtain⟨M,_,hc⟩:=Ow.mem (hperm.mem_iff.1 hu);have h1:=(Ve hT BH (JS JH) hc).1;have h2:=Xe.gZ hT BH (JS JH) CK.1 LY hc;exact⟨h1,h2,AJU hT BH (JS JH) hc,ACX hT BH (JS JH) CK.1 LY h1 h2.len⟩)
   have Ar:=hid (Aa.out.trans (hb6.mono Aa.out.size));have EN:=hid MC;obtain⟨aL',cL',eL,hcl,_⟩:=Aq.form hsl;rw[Bh]at eL hcl;obtain⟨n,hn⟩:∃n,L.length=n:=⟨_,rfl⟩;rw[hn]at eL hcl;injection eL with eA eN eC;subst eA;subst eN;subst eC;have HN:=hid hn;have Ay:=hid hsl;have Za:=hid (show(nL:Int)≤4294967296 by omega);clear h hsl hSub Ow hperm MC hT CK BH JH hU G7 FU MR LY hb6 HAL hn p0 p1 p2 q0 q1 q2 hz hgl Bl AGj;go_wp2_with fail;go_loopw [11,12] (fun cv jv wr=>∃j c:Nat,j≤nL∧jv= .int .i64 (j:Int)∧cv= .int .i64 (c:Int)∧c≤j∧Hid (c=(IC T U (L.take j)).length)∧Hid (Below w6.heap.size w6 wr)) (fun _ jv _=>nL-(intOf jv).toNat);case atStart=>exact⟨0,0,AU _,rfl,rfl,Av _,hid (by simp[IC]),hid AX⟩
   case round=>
    obtain⟨j,c,hj,rfl,rfl,hcj,hC,hB⟩:=hrel;have hbr:=Ar.out.trans (hB.out.mono Ar.out.size);have O8:=hid hbr;obtain⟨⟨p0,p1,p2⟩,⟨q0,q1,q2⟩,hz,-, vp,vq⟩:=HW.out wr hbr;have hgl:g<wr.heap.size:=by omega
    clear hcl hbr;by_cases hjn:j<nL
    ·obtain⟨u,hu⟩:∃u,L[j]?=some u:=⟨_,AO (by rw[HN.out];exact hjn)⟩;obtain⟨hch,hsu,hcs,hgs⟩:=Xh.out u (Ak hu);obtain⟨bL,oL,vu,rfl,_,hbL,VB,Co⟩:=Aq.get (GA.keep Ay.out (AA.of_below hB.out)) (k:=j) (x:=u.map ints) (by rw[Bn,hu];rfl);obtain⟨aX,cX,rfl,_,_⟩:=Aq.form Co;obtain⟨lx,hlx⟩:∃lx,(u.map ints).length=lx:=⟨_,rfl⟩;rw[hlx]at Co VB;have MK:=hid hu;have M5:=hid hgs;have SK:=hid (fun(V:World) (hk:AA Any wr V)=>AKk T HG.out.1 V _ _ _ (.slice aX lx cX) u (vp.keep hk) (AP.keep Co hk) hcs hch hsu.len);have hd3:decide ((j:Int)<(nL:Int))=true:=by simp;omega
     have hji:(j:Int)<(nL:Int):=by omega
     have hj0:(0:Int)≤(j:Int):=by omega
     have GJ:=hid hjn;have UF:(j:Int)+1≤9223372036854775807:=by have:=Za.out;omega
     have hc63:(c:Int)+1≤9223372036854775807:=by have:=Za.out;omega
     clear hu hch hsu hcs hgs Co hlx hjn vp vq;go_upto_region 17 with fail;go_cut [13,14] (fun sv kv W=>∃(gS:Nat) (s1 s2 s3:Option Addr) (l1 l2 l3 d1 d2 d3:Nat),sv= .pointer (some ⟨gS,0,none⟩)∧kv= .int .i64 0∧Hid (dY W gS (.slice s1 l1 d1) (.slice s2 l2 d2) (.slice s3 l3 d3) (Ac T u)∧Below wr.heap.size wr W));case first=>
      go_region_law (first|(go_simp;go_at_call 9;refine(SK.out _ (by repeat(first|exact AA.refl _ _|refine AA.drew ?_|refine AA.alloc ?_ _))).mono ?_;rintro e w8 ⟨s1,s2,s3,l1,l2,l3,d1,d2,d3,rfl,VE,CJ⟩;first|(have gB:w8.heap[wr.heap.size]?=some zb:=(CJ.block wr.heap.size (by simp)).trans (by first|exact BA wr _|exact BA wr.drew _);have HL:=hid (AKo (wr:=wr) AR gB (VE.mono (fun k hk=>by simp at hk;omega)) (by first|exact(AX.alloc AR _).trans (CJ.mono (by simp))|exact((AX.alloc AR _).drew).trans (CJ.mono (by simp))|exact((AX.drew).alloc AR _).trans (CJ.mono (by simp))));obtain⟨⟨y0,y1,y2⟩,f0,f1,f2⟩:=AV gB;have hg8:=(Ba.1 gB).1)|(have HL:=hid (AKn (wr:=wr) VE (by first|exact CJ|exact(AX.drew).trans CJ)));clear VE CJ)|fail);all_goals
       go_wp2_with fail;go_meet;exact⟨_,_,_,_,_,_,_,_,_,_,rfl,rfl,HL⟩
     case rest=>
      obtain⟨gS,s1,s2,s3,l1,l2,l3,d1,d2,d3,rfl,rfl,HL⟩:=hcut;rename World=>w9;clear VB hbL p0 p1 p2 q0 q1 q2 hz hgl SK;have HX:=hid (fun(V:World) (hb:Below w9.heap.size w9 V)=>AJY HL.out.1 hb);have wZ:=O8.out.trans (HL.out.2.mono O8.out.size);have AGk:=hid wZ;have wh:=hid (hB.out.trans (HL.out.2.mono hB.out.size));obtain⟨⟨t0,t1,t2⟩,-⟩:=AV HL.out.1.1;have Cv:=(Ba.1 HL.out.1.1).1;obtain⟨⟨p0,p1,p2⟩,⟨q0,q1,q2⟩,hz,-, -, vq⟩:=HW.out w9 wZ;have hgl:g<w9.heap.size:=by omega
      have K8:=hid (fun(V:World) (hk:AA Any w9 V)=>ABG (Ac T u) M5.out V _ _ _ (HL.out.1.2.keep hk));have PD:=hid (fun(V:World) (hk:AA Any w9 V)=>ABG U HG.out.2 V _ _ _ (vq.keep hk));clear wZ vq hB O8;go_upto_region 20 with fail;go_region_held3 (fun w'=>(∀b o,b<w9.heap.size→w'.cell? ⟨b,o,none⟩=w9.cell? ⟨b,o,none⟩)∧AA (fun _=>True) w9 w')
       (first|exact Au (by repeat(first|exact AJ.drew|exact AA.refl _ _|refine AA.drewN ?_ _|refine AA.trans ?_ (AA.of_below (by assumption)))))
       (first|(go_at_call_of 10 s1;refine(K8.out _ (by repeat(first|exact AJ.drew|exact AA.refl _ _|exact AJ.alloc _|exact(AJ.alloc _).drew|refine AA.drewN ?_ _|refine AA.trans ?_ (AA.of_below (by assumption))))).mono ?_;rintro e wa ⟨rfl,hba⟩)|(go_at_call_of 10 u1;refine(PD.out _ (by repeat(first|exact AJ.drew|exact AA.refl _ _|exact AJ.alloc _|exact(AJ.alloc _).drew|refine AA.drewN ?_ _|refine AA.trans ?_ (AA.of_below (by assumption))))).mono ?_;rintro e wb ⟨rfl,hbb⟩))
      rename_i hHd;clear hHd;have EG:Below w9.heap.size w9 wb:=by
       first
       |exact(AX.drew).trans (hba.trans (hbb.mono hba.size))
       |exact((AX.drew).trans hba).trans (hbb.mono ((AX.drew).trans hba).size)
      have wm:=hid (wh.out.trans (EG.mono wh.out.size));have hbx:=AGk.out.trans (EG.mono AGk.out.size);clear p0 p1 p2 q0 q1 q2 hz hgl t0 t1 t2 Cv hba hbb K8 PD wh;obtain⟨⟨t0,t1,t2⟩,-⟩:=AV (HX.out wb EG).1;have Cv:=(Ba.1 (HX.out wb EG).1).1;obtain⟨⟨p0,p1,p2⟩,⟨q0,q1,q2⟩,hz,-, -, vq⟩:=HW.out wb hbx;have hgl:g<wb.heap.size:=by omega
      have HF:=hid (AIE wb _ _ _ _ _ _ (AQ (Ac T u)) (AQ U) (HX.out wb EG).2 vq);clear EG hbx vq;obtain⟨m1,hm1⟩:∃m,sz (Ac T u)=m:=⟨_,rfl⟩;obtain⟨m2,hm2⟩:∃m,sz U=m:=⟨_,rfl⟩;rw[hm1,hm2];have HM:=hid (And.intro hm1 hm2);have kT:=hid (And.intro UF hc63);clear hm1 hm2 UF hc63;by_cases hq:m1=m2
      ·subst hq;have hqb:((m1:Int)==(m1:Int))=true:=by simp
       have HQ:=hid (HM.out.1.trans HM.out.2.symm);go_upto_region 22 with(go_at_call 11;refine HF.out.mono ?_;rintro e wc ⟨v,k,res,rfl,hfv,-, hbc⟩;have HFC:=hid (AIF M5.out HG.out.2 HQ.out H27.out.2 hfv);have HBC:=hid (wm.out.trans (hbc.mono wm.out.size));clear hfv hbc);by_cases h0:k=0
       ·subst h0;have Jt:=hid (show c+1=(IC T U (L.take (j+1))).length by rw[ACg MK.out ⟨HQ.out,HFC.out.1 rfl⟩,←hC.out]);clear p0 p1 p2 q0 q1 q2 t0 t1 t2;have UF:=kT.out.1;have hc63:=kT.out.2;go_wp2_with fail;go_roundw;case rel=>exact⟨j+1,c+1,GJ.out,by go_num,by go_num,by omega,Jt,HBC⟩
        case measure=>have:=GJ.out;simp[intOf];omega
       ·have hkb:(k==0)=false:=by simp[h0]
        have Jt:=hid (show c=(IC T U (L.take (j+1))).length by rw[iX MK.out (fun h=>h0 (HFC.out.2 h.2))];exact hC.out);clear h0 p0 p1 p2 q0 q1 q2 t0 t1 t2;have UF:=kT.out.1;go_wp2_with fail;go_roundw;case rel=>exact⟨j+1,c,GJ.out,by go_num,rfl,by omega,Jt,HBC⟩
        case measure=>have:=GJ.out;simp[intOf];omega
      ·have hqb:((m1:Int)==(m2:Int))=false:=by simp;omega
       have Jt:=hid (show c=(IC T U (L.take (j+1))).length by rw[iX MK.out (fun h=>hq (by rw[←HM.out.1,←HM.out.2];exact h.1))];exact hC.out);clear hq p0 p1 p2 q0 q1 q2 t0 t1 t2;go_upto_region 16 with fail;have UF:=kT.out.1;go_wp2_with fail;go_roundw;case rel=>exact⟨j+1,c,GJ.out,by go_num,rfl,by omega,Jt,wm⟩
       case measure=>have:=GJ.out;simp[intOf];omega
    ·obtain rfl:j=nL:=by omega
     have hd3:decide ((j:Int)<(j:Int))=false:=by simp
     have hcv:n'=(c:Int):=by
      have h:=hC.out;rw[←HN.out,KC]at h;rw[MP.out,h]
     have A9:=hid (HW.out wr O8.out).2.2.2.1;subst hcv;clear p0 p1 p2 q0 q1 q2 hz hgl vp vq hB hC;go_wp2_with fail;go_ret;exact⟨rfl,A9.out⟩
  ·have hkb:(k' !=0)=true:=by simp[hk]
   obtain rfl:=ALQ HC.out hk;clear vp vq hk;go_wp2_with fail;go_ret;exact⟨rfl,AGj.out⟩
end Go.Proofs.YtaadbccidfdniaaGreat.FcE
namespace Go.Proofs.YtaadbccidfdniaaGreat.CyO
open Go.RowKit Go.Proofs.YtaadbccidfdniaaGreat Go.ChangeShapes
theorem AAM {w:World}{a:Addr}{v:Value}(h:w.cell? a=some v):a=⟨a.block,a.off,none⟩∧a.block<w.heap.size:=by
 refine⟨?_,World.block_lt_of_cell? w a h⟩;unfold World.cell? at h;split at h
 ·next c _ _ hb=>
  split at h
  ·cases h
  ·next hs=>
   cases a with
   |mk b o s=>
    cases s with
    |none=>rfl
    |some s=>simp at hs
 ·cases h
section
variable {H:Type} {enc:TypeId×Value→H} {w:World} {base:Nat} {spare:Nat→Bool} {held:Bool}
theorem AHh {α:Type}{E:World→Value→α→Prop}{S:Nat→Prop}{t e:TypeId}{fuel:Nat}{v:Value}{x:DataW H×List MemPlace}(ht:Tryz.prog.underlying t=some (.slice e))(hc:Tryz.prog.cellsOf e=1)(hS:∀b,base≤b→S b)
  (hE:∀(n:Nat) (u:Value) (y:DataW H×List MemPlace),DataW.trod enc Tryz.prog w base spare held n e [u]=some y→∃z:α,E w u z) (h:DataW.trod enc Tryz.prog w base spare held fuel t [v]=some x):∃l:List α,Aq E S w v l:=by
 rcases Go.Deep.open_slice1 ht hc h with⟨hcs,_⟩|⟨a,len,cap,m,n,V,D,Pl,hcs,hb,hl,hm,hmm,rfl,hx⟩
 ·simp only[RA,and_true]at hcs;subst hcs;exact⟨[],none,0,rfl,Av _,AU _,fun _=>rfl,fun i x hx=>by simp at hx⟩
 ·simp only[RA,and_true]at hcs;subst hcs;have hlm:len≤m:=by rw[hmm];split<;>omega
  have hz:∀i:Fin len,∃z,E w (V i.1) z:=fun i=>hE _ _ _ (hx i.1 (by have:=i.2;omega)).2;refine⟨(List.finRange len).map fun i=>Classical.choose (hz i),some a,cap,by simp,by simpa using hl,hm,by simp,fun i y hy=>?_⟩;simp only[Bn,II]at hy;obtain⟨j,hj,rfl⟩:=hy;have hjl:=(Ag.1 hj).1;simp only[List.length_finRange]at hjl;have hji:j.1=i:=by
   have:=(Ag.1 hj).2;rw[←this];simp
  have h0:=(hx 0 (by omega)).1;rw[Addr.add_zero']at h0;have hs:=AAM h0;obtain⟨ab,ao,asp⟩:=a;simp only[Kj,true_and]at hs;obtain⟨rfl,hlt⟩:=hs;have hcell:=(hx i (by omega)).1;rw[addr_add]at hcell;refine⟨ab,ao,rfl,hS _ hb,hlt,V i,hcell,?_⟩;rw[←hji];exact P5 (hz j)
end
section
variable {H:Type} {enc:TypeId×Value→H} {w:World} {base:Nat} {spare:Nat→Bool} {held:Bool}
theorem AIH (n:Nat)(u:Value)(y:DataW H×List MemPlace)(h:DataW.trod enc Tryz.prog w base spare held n 5 [u]=some y):∃z:Nat,u= .int .u8 (z:Int)∧z<256:=by
 obtain⟨z,h1,_,h2⟩:=DataW.trod_int Tryz.underlying5 h;simp only[RA,and_true]at h1;simp only[Lit.wf,TW,TY]at h2;have h3:IntKind.u8.min=0:=rfl;have h4:IntKind.u8.max=255:=rfl;rw[h3,h4]at h2;refine⟨z.toNat,?_,by omega⟩;rw[h1,Int.toNat_of_nonneg h2.1]
theorem AHF {a:Option Addr}{len cap:Nat}{d:DataW H}{p:List MemPlace}(h:DataW.Trod enc Tryz.prog w base spare held 22 (.slice a len cap) d p):Dm.UT w a len:=by
 obtain⟨fuel,hf⟩:=h;obtain⟨l,hl⟩:=AHh (E:=fun _ u (z:Nat)=>u= .int .u8 (z:Int)∧z<256) (S:=fun _=>True) (v:=.slice a len cap) Tryz.underlying22 (by kernel_rfl) (fun _ _=>trivial) (fun n u y hy=>AIH n u y hy) hf;intro i hi;obtain⟨ao,c',e,_,_,_,h4⟩:=hl;obtain⟨rfl,rfl,_⟩:a=ao∧len=l.length∧cap=c':=by simpa using e
 obtain⟨x,hx⟩:∃x,l[i]?=some x:=⟨_,AO hi⟩;obtain⟨b,o,e1,_,e3,u,e4,rfl,e5⟩:=h4 i x hx;exact⟨b,o,x,e1,e3,e4,e5⟩
end
end Go.Proofs.YtaadbccidfdniaaGreat.CyO
