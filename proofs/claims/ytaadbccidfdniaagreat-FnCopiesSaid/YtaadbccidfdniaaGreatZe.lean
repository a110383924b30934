import Derived.Test.YtaadbccidfdniaaGreatZ0
import Derived.Test.YtaadbccidfdniaaGreatZb
import Derived.Laws.AppendOwnNone
import Derived.Deep.RegionLaw
import Derived.Deep.AppendLies
import Derived.Test.YtaadbccidfdniaaGreatZa
/-
  Lemmas for the law FnCopies, in short spelling.
-/
open Go.Lib (hid)
set_option linter.unusedVariables false
set_option linter.unusedSimpArgs false
set_option maxRecDepth 100000
set_option maxHeartbeats 40000000
namespace Go.Proofs.YtaadbccidfdniaaGreat.Dp
open Go.RowKit Go.Proofs.YtaadbccidfdniaaGreat AB
theorem ABT {α:Type}{E:World→Value→α→Prop}{S:Nat→Prop}{w:World}{v:Value}{l:List α}(h:Aq E S w v l):∃a c,v= .slice a l.length c∧l.length≤c∧c≤maxLen:=by
 obtain⟨a,c,h1,h2,h3,_⟩:=h;exact⟨a,c,h1,h2,h3⟩
theorem J3 {α:Type}{E:World→Value→α→Prop}{S:Nat→Prop}{w:World}{a:Option Addr}{n c:Nat}{l:List α}(h:Aq E S w (.slice a n c) l){k:Nat}{x:α}(hx:l[k]?=some x):
  ∃b o u,a=some ⟨b,o,none⟩∧S b∧b<w.heap.size∧w.cell? ⟨b,o+k,none⟩=some u∧E w u x:=by
 obtain⟨ao,c',e,_,_,_,h4⟩:=h;obtain⟨rfl,_,_⟩:a=ao∧n=l.length∧c=c':=by simpa using e
 obtain⟨b,o,e1,e2,e3,u,e4,e5⟩:=h4 k x hx;exact⟨b,o,u,e1,e2,e3,e4,e5⟩
theorem Ea {w w':World}{o:Obj}{B g:Nat}(hb:Below B w w')(hg:g<B)(h:w.heap[g]?=some o):w'.heap[g]?=some o:=(hb.block g hg).trans h
theorem sD {w:World}{g:Nat}{a b c:Value}{t:TypeId}(h:w.heap[g]?=some (.cells #[a,b,c] t (0,0))):
  w.cell? ⟨g,0,none⟩=some a∧w.cell? ⟨g,1,none⟩=some b∧w.cell? ⟨g,2,none⟩=some c:=
 ⟨(Ah _ _ _ _ _ _ h).trans rfl,(Ah _ _ _ _ _ _ h).trans rfl,(Ah _ _ _ _ _ _ h).trans rfl⟩
end Go.Proofs.YtaadbccidfdniaaGreat.Dp
namespace Go.Proofs.YtaadbccidfdniaaGreat.Cn
open Go.RowKit Go.Proofs.YtaadbccidfdniaaGreat AB Dp
def Gu (w:World)(g:Nat)(a:Option Addr)(len cap k s:Nat):Prop:=w.heap[g]?=some (.cells #[.slice a len cap,.int .i64 (k:Int),.int .i64 (s:Int)] 66 (0,0))
def Src (w:World)(g:Nat)(a:Option Addr)(len cap:Nat):Prop:=∃k s:Nat,Gu w g a len cap k s∧k≤len∧s<2147483647∧len≤4096
def Rd (w:World)(g:Nat)(a:Option Addr)(len:Nat):Prop:=∀i,i<len→∃b o,∃z:Nat,a=some ⟨b,o,none⟩∧b≠g∧b<w.heap.size∧w.cell? ⟨b,o+i,none⟩=some (.int .u8 (z:Int))∧z<256
theorem Rd.keep {w w':World}{g:Nat}{a:Option Addr}{len:Nat}(h:Rd w g a len)(hk:AA (fun k=>k≠g) w w'):Rd w' g a len:=fun i hi=>by
 obtain⟨b,o,z,h1,h2,h3,h4,h5⟩:=h i hi;exact⟨b,o,z,h1,h2,Ai h3 hk.size,by rw[hk.cell h2 h3];exact h4,h5⟩
theorem Rd.grown {w w':World}{g:Nat}{a:Option Addr}{len:Nat}(h:Rd w g a len)(hg:w.grownBy w' (some g)):Rd w' g a len:=h.keep (AA.grown hg fun k hk e=>hk (by injection e))
theorem Gu.set1 {w:World}{g:Nat}{a:Option Addr}{len cap k s:Nat}(h:Gu w g a len cap k s)(k':Nat):Gu (w.setCell ⟨g,1,none⟩ (.int .i64 (k':Int))) g a len cap k' s:=GV w g 1 _ _ _ h
theorem Gu.set2 {w:World}{g:Nat}{a:Option Addr}{len cap k s:Nat}(h:Gu w g a len cap k s)(s':Nat):Gu (w.setCell ⟨g,2,none⟩ (.int .i64 (s':Int))) g a len cap k s':=GV w g 2 _ _ _ h
theorem Gu.drew {w:World}{g:Nat}{a:Option Addr}{len cap k s:Nat}(h:Gu w g a len cap k s):Gu w.drew g a len cap k s:=h
theorem Gu.cells {w:World}{g:Nat}{a:Option Addr}{len cap k s:Nat}(h:Gu w g a len cap k s):(w.cell? ⟨g,0,none⟩=some (.slice a len cap)∧w.cell? ⟨g,1,none⟩=some (.int .i64 (k:Int))∧w.cell? ⟨g,2,none⟩=some (.int .i64 (s:Int)))∧
  w.frozen? ⟨g,1,none⟩=false∧w.frozen? ⟨g,2,none⟩=false∧g<w.heap.size:=⟨sD h,by simp[World.frozen?,show w.heap[g]?=_ from h],by simp[World.frozen?,show w.heap[g]?=_ from h],(Ba.1 h).1⟩
theorem rM {w w':World}{g i:Nat}(h:w.grownBy w' (some g))(u:Value):w.grownBy (w'.setCell ⟨g,i,none⟩ u) (some g):=
 ⟨h.os,h.tape,h.output,by simpa using h.size,fun k hk hne=>(GR w' ⟨g,i,none⟩ k u (fun e=>hne (by rw[e]))).trans (h.block k hk hne)⟩
theorem VW (w:World)(row:Option Nat):w.grownBy w row:=⟨rfl,rfl,rfl,Av _,fun _ _ _=>rfl⟩
theorem VX {w w':World}{row:Option Nat}(h:w.grownBy w' row):w.grownBy w'.drew row:=⟨h.os,h.tape,h.output,h.size,h.block⟩
theorem TS {a b c:World}{row:Option Nat}(h1:a.grownBy b row)(h2:b.grownBy c row):a.grownBy c row:=
 ⟨h2.os.trans h1.os,h2.tape.trans h1.tape,h2.output.trans h1.output,Ad h1.size h2.size,fun k hk hr=>(h2.block k (Ai hk h1.size) hr).trans (h1.block k hk hr)⟩
def Vt (n g:Nat)(a:Option Addr)(len cap:Nat)(w:World)(e:Ending)(w':World):Prop:=∃r:Nat,e= .returned (.int .i64 (r:Int))∧r<n∧Src w' g a len cap∧w.grownBy w' (some g)
theorem VR (x n:Nat):((x:Int)).tmod (n:Int)=((x%n:Nat):Int):=by rw[YS (by omega)];rfl
theorem pz (x n:Nat):((x:Int)).tdiv (n:Int)=((x/n:Nat):Int):=by rw[Int.tdiv_eq_ediv_of_nonneg (by omega)];rfl
theorem ACi (n:Nat)(h2:2≤n)(w:World)(g:Nat)(a:Option Addr)(len cap:Nat)(hS:Src w g a len cap)(hR:Rd w g a len):
  Calls Tryz.prog 27 #[.pointer (some ⟨g,0,none⟩),.int .i64 (n:Int)] w (Vt n g a len cap w):=by
 obtain⟨k,s,hA,hk,hs,hl⟩:=hS;have HR:=hid hR;have ko:=hid h2;obtain⟨s2,hs2⟩:∃s2,(s*48271+71)%2147483647=s2:=⟨_,rfl⟩;have HS2:=hid (show s2<2147483647 by omega);obtain⟨q,hq⟩:∃q,s2/47=q:=⟨_,rfl⟩;have HQ:=hid (show q≤45691142 by omega);have hw1:IntKind.i64.wrap ((s:Int)*48271)=(s:Int)*48271:=AY _ (by omega);have hw2:IntKind.i64.wrap ((s:Int)*48271+71)=(s:Int)*48271+71:=AY _ (by omega);have hr1:((s:Int)*48271+71).tmod 2147483647=(s2:Int):=by
  have:=VR (s*48271+71) 2147483647;rw[hs2,Int.natCast_add,Int.natCast_mul]at this;exact this
 have hr2:((s2:Int)).tdiv 47=(q:Int):=by
  have:=pz s2 47;rw[hq]at this;exact this
 have hle:¬(n:Int)≤1:=by omega
 have hw3:IntKind.i64.wrap (s2:Int)=(s2:Int):=AY _ (by omega);have hw4:IntKind.i64.wrap (q:Int)=(q:Int):=AY _ (by omega);obtain⟨⟨c0,c1,c2⟩,f1,f2,hgl⟩:=hA.cells;have HA:=hid hA;have HL:=hid hl;have HK:=hid hk;clear hA hs hs2 hq hR h2 hl;go_enter Tryz.func27,Tryz.ntmps27;go_upto_region 4 with fail;obtain⟨wa,ku⟩:∃wa,w.setCell ⟨g,2,none⟩ (.int .i64 (s2:Int))=wa:=⟨_,rfl⟩;simp only[ku];have ADQ:=hid (show Gu wa g a len cap k s2 by rw[←ku];exact HA.out.set2 s2);have ALT:=hid (show w.grownBy wa (some g) by rw[←ku];exact rM (VW _ _) _);clear ku c0 c1 c2 f1 f2 hgl hr1 hw1 hw2 hw3;obtain⟨⟨c0,c1,c2⟩,f1,f2,hgl⟩:=ADQ.out.cells;go_wp2_with fail;go_region_held3 (fun w'=>(∀b o,b<wa.heap.size→w'.cell? ⟨b,o,none⟩=wa.cell? ⟨b,o,none⟩)∧AA (fun _=>True) wa w')
  (first|exact Au (by repeat(first|exact AJ.drew|exact AA.refl _ _)))
  (fail)
 rename_i hHd;clear hHd;obtain⟨wb,hwb⟩:∃wb,wa.drew=wb:=⟨_,rfl⟩;simp only[hwb];have sF:=hid (show Gu wb g a len cap k s2 by rw[←hwb];exact ADQ.out.drew);have iq:=hid (show w.grownBy wb (some g) by rw[←hwb];exact VX ALT.out);clear hwb c0 c1 c2 f1 f2 hgl;obtain⟨⟨c0,c1,c2⟩,f1,f2,hgl⟩:=sF.out.cells;have jP:=hid (show∀x:Nat,∃r:Nat,((x:Int)).tmod (n:Int)=(r:Int)∧r<n∧r≤x from fun x=>⟨x%n,VR x n,Nat.mod_lt _ (by have:=ko.out;omega),Nat.mod_le _ _⟩);have hn0:¬(n:Int)=0:=by have:=ko.out;omega
 by_cases hkl:k<len
 ·obtain⟨b,o,z,rfl,hbg,hbl,hcz,hz⟩:=HR.out.grown iq.out k hkl;have hki:(k:Int)<(len:Int):=by omega
  have Gb:(0:Int)≤(k:Int):=by omega
  have hwz:IntKind.i64.wrap ((q:Int)+(z:Int))=(q:Int)+(z:Int):=AY _ (by have:=HQ.out;omega);have hzw:IntKind.i64.wrap (z:Int)=(z:Int):=AY _ (by omega);have hwk:IntKind.i64.wrap ((k:Int)+1)=(k:Int)+1:=AY _ (by have:=HL.out;omega);go_wp2_with fail;go_region_held3 (fun w'=>(∀b o,b<wb.heap.size→w'.cell? ⟨b,o,none⟩=wb.cell? ⟨b,o,none⟩)∧AA (fun _=>True) wb w')
   (first|exact Au (by repeat(first|exact AJ.drew|exact AA.refl _ _)))
   (fail)
  rename_i hHd;clear hHd;obtain⟨wc,hwc⟩:∃wc,wb.drew=wc:=⟨_,rfl⟩;simp only[hwc];have ADR:=hid (show Gu wc g (some ⟨b,o,none⟩) len cap k s2 by rw[←hwc];exact sF.out.drew);have ALU:=hid (show w.grownBy wc (some g) by rw[←hwc];exact VX iq.out);clear hwc c0 c1 c2 f1 f2 hgl;obtain⟨⟨c0,c1,c2⟩,f1,f2,hgl⟩:=ADR.out.cells;go_upto_region 8 with fail;obtain⟨wd,hwd⟩:∃wd,wc.setCell ⟨g,1,none⟩ (.int .i64 ((k:Int)+1))=wd:=⟨_,rfl⟩;simp only[hwd];have YZ:=hid (show Gu wd g (some ⟨b,o,none⟩) len cap (k+1) s2 by rw[←hwd];exact ADR.out.set1 (k+1));have Ya:=hid (show w.grownBy wd (some g) by rw[←hwd];exact rM ALU.out _);have AMS:=(AA.grown Ya.out (S:=fun k=>k≠g) (fun k hk e=>hk (by injection e))).cell (b:=b) (o:=o+k) hbg (by
   obtain⟨b',o',z',e,_,h3,_⟩:=HR.out k hkl;simp only[Eg,Kj]at e;rw[e.1];exact h3)
  have AED:w.cell? ⟨b,o+k,none⟩=some (.int .u8 (z:Int)):=by
   obtain⟨b',o',z',e,_,h3,h4,_⟩:=HR.out k hkl;simp only[Eg,Kj,and_true]at e;obtain⟨rfl,rfl⟩:=e;have:=(AA.grown iq.out (S:=fun k=>k≠g) (fun k hk e=>hk (by injection e))).cell (b:=b) (o:=o+k) hbg h3;rw[←this];exact hcz
  rw[AED]at AMS;have APK:b<wd.heap.size:=by
   obtain⟨b',o',z',e,_,h3,_⟩:=HR.out k hkl;simp only[Eg,Kj]at e;rw[e.1];exact Ai h3 Ya.out.size
  obtain⟨k1,hk1⟩:∃k1,k+1=k1:=⟨_,rfl⟩;rw[hk1]at YZ;have O0:=hid (show k1=k+1∧k<len by omega);have hsub:IntKind.i64.wrap ((k1:Int)-1)=(k:Int):=by rw[AY _ (by have:=HL.out;omega)];omega
  clear hwd c0 c1 c2 f1 f2 hgl hcz hbl hwk AED hk1;obtain⟨⟨c0,c1,c2⟩,f1,f2,hgl⟩:=YZ.out.cells;obtain⟨p,hp⟩:∃p,k1%2=p:=⟨_,rfl⟩;have hpm:((k1:Int)).tmod 2=(p:Int):=by
   have:=VR k1 2;rw[hp]at this;exact this
  have hwp:IntKind.i64.wrap (p:Int)=(p:Int):=AY _ (by omega);clear hp;by_cases APL:n≤256
  ·have ALV:(n:Int)≤256:=by omega
   by_cases hp0:p=0
   ·subst hp0;go_wp2_with fail;go_region_held3 (fun w'=>(∀b o,b<wd.heap.size→w'.cell? ⟨b,o,none⟩=wd.cell? ⟨b,o,none⟩)∧AA (fun _=>True) wd w')
     (first|exact Au (by repeat(first|exact AJ.drew|exact AA.refl _ _)))
     (fail)
    rename_i hHd;clear hHd;obtain⟨we,lC⟩:∃we,wd.drew=we:=⟨_,rfl⟩;simp only[lC];have ADS:=hid (show Gu we g (some ⟨b,o,none⟩) len cap k1 s2 by rw[←lC];exact YZ.out.drew);have ALW:=hid (show w.grownBy we (some g) by rw[←lC];exact VX Ya.out);clear lC c0 c1 c2 f1 f2 hgl;obtain⟨⟨c0,c1,c2⟩,f1,f2,hgl⟩:=ADS.out.cells;obtain⟨r,hr,hrn,hrx⟩:=jP.out (z)
    skip
    have hwr:IntKind.i64.wrap (r:Int)=(r:Int):=AY _ (by have:=HQ.out;omega);have HRR:=hid (show Vt n g (some ⟨b,o,none⟩) len cap w (.returned (.int .i64 (r:Int))) we from⟨r,rfl,hrn,⟨k1,s2,ADS.out,by have:=O0.out;omega,HS2.out,HL.out⟩,ALW.out⟩);clear hrn hrx;go_wp2_with fail;go_ret;exact HRR.out
   ·have hpi:((p:Int)==0)=false:=by simp;omega
    obtain⟨r,hr,hrn,hrx⟩:=jP.out (q+z);rw[Int.natCast_add]at hr;have hwr:IntKind.i64.wrap (r:Int)=(r:Int):=AY _ (by have:=HQ.out;omega);have HRR:=hid (show Vt n g (some ⟨b,o,none⟩) len cap w (.returned (.int .i64 (r:Int))) wd from⟨r,rfl,hrn,⟨k1,s2,YZ.out,by have:=O0.out;omega,HS2.out,HL.out⟩,Ya.out⟩);clear hrn hrx;go_wp2_with fail;go_ret;exact HRR.out
  ·have ALV:¬(n:Int)≤256:=by omega
   obtain⟨r,hr,hrn,hrx⟩:=jP.out (q+z);rw[Int.natCast_add]at hr;have hwr:IntKind.i64.wrap (r:Int)=(r:Int):=AY _ (by have:=HQ.out;omega);have HRR:=hid (show Vt n g (some ⟨b,o,none⟩) len cap w (.returned (.int .i64 (r:Int))) wd from⟨r,rfl,hrn,⟨k1,s2,YZ.out,by have:=O0.out;omega,HS2.out,HL.out⟩,Ya.out⟩);clear hrn hrx;go_wp2_with fail;go_ret;exact HRR.out
 ·have hki:¬(k:Int)<(len:Int):=by omega
  obtain⟨r,hr,hrn,hrx⟩:=jP.out q;have hwr:IntKind.i64.wrap (r:Int)=(r:Int):=AY _ (by have:=HQ.out;omega);have HRR:=hid (show Vt n g a len cap w (.returned (.int .i64 (r:Int))) wb from⟨r,rfl,hrn,⟨k,s2,sF.out,hk,HS2.out,HL.out⟩,iq.out⟩);clear hrn hrx;go_wp2_with fail;go_ret;exact HRR.out
theorem fE (n:Nat)(h2:2≤n)(hn:n≤1000000)(w:World)(g:Nat)(a:Option Addr)(len cap:Nat)(hS:Src w g a len cap)(hR:Rd w g a len):
  Calls Tryz.prog 27 #[.pointer (some ⟨g,0,none⟩),.int .i64 (n:Int)] w (Vt n g a len cap w):=ACi n h2 w g a len cap hS hR
theorem Src.lt {w:World}{g:Nat}{a:Option Addr}{len cap:Nat}(h:Src w g a len cap):g<w.heap.size:=by
 obtain⟨k,s,h1,_⟩:=h;exact(Ba.1 h1).1
end Go.Proofs.YtaadbccidfdniaaGreat.Cn
namespace Go.Proofs.YtaadbccidfdniaaGreat.Dm
open Go.RowKit Go.Proofs.YtaadbccidfdniaaGreat AB Dp Cn
def UT (w:World)(a:Option Addr)(len:Nat):Prop:=∀i,i<len→∃b o,∃z:Nat,a=some ⟨b,o,none⟩∧b<w.heap.size∧w.cell? ⟨b,o+i,none⟩=some (.int .u8 (z:Int))∧z<256
theorem UT.rd {w w':World}{a:Option Addr}{len g:Nat}(h:UT w a len)(hb:Below w.heap.size w w')(hg:w.heap.size≤g):Rd w' g a len:=fun i hi=>by
 obtain⟨b,o,z,h1,h3,h4,h5⟩:=h i hi;exact⟨b,o,z,h1,by omega,Ai h3 hb.size,by rw[(AA.of_below (S:=fun _=>True) hb).cell trivial h3];exact h4,h5⟩
def Yb (a:Option Addr)(len cap:Nat)(w:World)(e:Ending)(w':World):Prop:=∃g,e= .returned (.pointer (some ⟨g,0,none⟩))∧w.heap.size≤g∧Src w' g a len cap∧Below w.heap.size w w'
theorem Xy (w:World)(a:Option Addr)(len cap:Nat)(hl:len≤4096)(hR:UT w a len):Calls Tryz.prog 12 #[.slice a len cap] w (Yb a len cap w):=by
 have HR:=hid hR;obtain⟨g,hg⟩:∃g,w.heap.size=g:=⟨_,rfl⟩;obtain⟨w1,hw1⟩:∃w1,w1=w.alloc (.cells #[.slice a len cap,.int .i64 0,.int .i64 76001] 66):=⟨_,rfl⟩;have HA:=hid (show Gu w1 g a len cap 0 76001 by rw[hw1,←hg];exact BA _ _);have HB:=hid (show Below w.heap.size w w1 by rw[hw1];exact AX.alloc AR _);have HL:=hid hl;have KL:=hid hg;have hl63:(len:Int)≤9223372036854775807:=by omega
 clear hR hg;go_enter Tryz.func12,Tryz.ntmps12;go_upto_region 2 with fail;rw[←hw1];rw[KL.out];clear hw1;go_wp2_with fail;go_loopw [4] (fun iv wr=>∃i s:Nat,i≤len∧iv= .int .i64 (i:Int)∧Hid (Gu wr g a len cap 0 s)∧Hid (s<2147483647)∧Hid (Below w.heap.size w wr)) (fun iv _=>len-(intOf iv).toNat);case atStart=>exact⟨0,76001,AU _,rfl,HA,hid (by decide),HB⟩
 case round=>
  obtain⟨i,s,hi,rfl,hA,hs,hB⟩:=hrel;by_cases hlt:i<len
  ·have hii:(i:Int)<(len:Int):=by omega
   have AMT:(0:Int)≤(i:Int):=by omega
   by_cases h64:i<64
   ·have AMU:(i:Int)<64:=by omega
    obtain⟨⟨c0,c1,c2⟩,f1,f2,hgl⟩:=hA.out.cells;obtain⟨b,o,z,rfl,hbl,hcz,hz⟩:=HR.out i hlt;have APM:=((AA.of_below (S:=fun _=>True) hB.out).cell (b:=b) (o:=o+i) trivial hbl).trans hcz;have AEE:=Ai hbl hB.out.size;obtain⟨s2,hs2⟩:∃s2,(s*71+z)%2147483647=s2:=⟨_,rfl⟩;have HS2:=hid (show s2<2147483647 by omega);have hr1:((s:Int)*71+(z:Int)).tmod 2147483647=(s2:Int):=by
     have:=VR (s*71+z) 2147483647;rw[hs2,Int.natCast_add,Int.natCast_mul]at this;exact this
    have hw1:IntKind.i64.wrap ((s:Int)*71)=(s:Int)*71:=AY _ (by have:=hs.out;omega);have hw2:IntKind.i64.wrap ((s:Int)*71+(z:Int))=(s:Int)*71+(z:Int):=AY _ (by have:=hs.out;omega);have hw3:IntKind.i64.wrap (s2:Int)=(s2:Int):=AY _ (by omega);have hw4:IntKind.i64.wrap (z:Int)=(z:Int):=AY _ (by omega);have Wm:=hid (show Gu ((wr.setCell ⟨g,2,none⟩ (.int .i64 (s2:Int))).drew) g (some ⟨b,o,none⟩) len cap 0 s2 from(hA.out.set2 s2).drew);have xR:=hid (show Below w.heap.size w ((wr.setCell ⟨g,2,none⟩ (.int .i64 (s2:Int))).drew) from(hB.out.setCell (p:=⟨g,2,none⟩) (by rw[KL.out];exact Av _) _).drew);clear hcz hbl hs2 hA hB hz;go_wp2_with fail;go_region_law (fail);all_goals
     go_wp2_with fail;go_roundw;case rel=>exact⟨i+1,s2,by omega,by go_num,Wm,HS2,xR⟩
     case measure=>simp[intOf]<;>omega
   ·have AMU:¬(i:Int)<64:=by omega
    have HRR:=hid (show Yb a len cap w (.returned (.pointer (some ⟨g,0,none⟩))) wr from⟨g,rfl,by rw[KL.out];exact Av _,⟨0,s,hA.out,AU _,hs.out,HL.out⟩,hB.out⟩);clear hA hB hs;go_wp2_with fail;go_ret;exact HRR.out
  ·obtain rfl:i=len:=by omega
   have HRR:=hid (show Yb a i cap w (.returned (.pointer (some ⟨g,0,none⟩))) wr from⟨g,rfl,by rw[KL.out];exact Av _,⟨0,s,hA.out,AU _,hs.out,HL.out⟩,hB.out⟩);clear hA hB hs hlt;go_wp2_with fail;go_ret;exact HRR.out
def ADT (L:List Int)(g:Nat)(a:Option Addr)(len cap:Nat)(w:World)(e:Ending)(w':World):Prop:=∃x:Int,x∈L∧e= .returned (.int .i64 x)∧Src w' g a len cap∧w.grownBy w' (some g)
theorem ABU (L:List Int)(m:Nat)(hm:L.length=m)(hm2:2≤m)(lD:m≤12)(w:World)(B g:Nat)(a:Option Addr)(len cap:Nat)(hB:AL (fun k=>k≠g) w (.slice (some ⟨B,0,none⟩) m m) L)(hS:Src w g a len cap)(hR:Rd w g a len):
  Calls Tryz.prog 15 #[.pointer (some ⟨g,0,none⟩),.slice (some ⟨B,0,none⟩) m m] w (ADT L g a len cap w):=by
 have HC:=hid (fE m hm2 (by omega) w g a len cap hS hR);have HB:=hid hB;have HM:=hid hm;clear hS hR hB hm;go_enter Tryz.func15,Tryz.ntmps15;go_wp2_with fail;refine HC.out.mono ?_;rintro e w1 ⟨r,rfl,hr,hS1,hg1⟩;obtain⟨x,hx⟩:∃x,L[r]?=some x:=⟨_,AO (by rw[HM.out];exact hr)⟩;obtain⟨b',o',u,he,_,hbl,Ep,rfl⟩:=J3 (HB.out.keep (AA.grown hg1 fun k hk e=>hk (by injection e))) hx;obtain⟨rfl,rfl⟩:B=b'∧0=o':=by simpa using he
 rw[Cg]at Ep;have Wu:(r:Int)<(m:Int):=by omega
 have APN:(0:Int)≤(r:Int):=by omega
 have HR:=hid (show ADT L g a len cap w (.returned (.int .i64 x)) w1 from⟨x,Ak hx,rfl,hS1,hg1⟩);clear hS1 hg1 hx HC he;go_wp2_with fail;go_ret;exact HR.out
theorem ACj {w:World}{L:List Int}{g:Nat}(hg:g<w.heap.size)(hl:L.length≤100):AL (fun k=>k≠g) (w.alloc (.cells (L.map (Value.int .i64)).toArray 2)) (.slice (some ⟨w.heap.size,0,none⟩) L.length L.length) L:=by
 refine⟨_,L.length,rfl,Av _,by unfold maxLen;omega,by simp,fun i x hx=>⟨w.heap.size,0,rfl,by omega,by simp,.int .i64 x,?_,rfl⟩⟩;rw[Ah _ _ _ _ _ (0,0) (BA _ _),Cg];simp[hx]
theorem p8 (w:World)(o:Obj)(row:Option Nat):w.grownBy (w.alloc o) row:=⟨rfl,rfl,rfl,by simp,fun k hk _=>E5 w o k hk⟩
end Go.Proofs.YtaadbccidfdniaaGreat.Dm
namespace Go.Proofs.YtaadbccidfdniaaGreat.Df
open Go.RowKit Go.Proofs.YtaadbccidfdniaaGreat AB
def R1 (B:Nat)(w:World)(n:Nat)(v:Value):Prop:=∃l:List Int,l.length=n∧w.ownsRow B 2 1 v n (vals l)
def R2 (B:Nat)(w:World)(L:List Nat)(v:Value):Prop:=∃us:List Value,w.ownsRow B 24 1 v L.length us∧∀(i n:Nat),L[i]?=some n→∃u,us[i]?=some u∧R1 B w n u
def R3 (B:Nat)(w:World)(M:List (List Nat))(v:Value):Prop:=∃us:List Value,w.ownsRow B 25 1 v M.length us∧∀(i:Nat) (L:List Nat),M[i]?=some L→∃u,us[i]?=some u∧R2 B w L u
structure Ty (B:Nat)(w w':World):Prop where
 one:∀n v,R1 B w n v→R1 B w' n v
 two:∀L v,R2 B w L v→R2 B w' L v
 three:∀M v,R3 B w M v→R3 B w' M v
theorem Ty.trans {B:Nat}{a b c:World}(h:Ty B a b)(g:Ty B b c):Ty B a c:=⟨fun n v x=>g.one n v (h.one n v x),fun n v x=>g.two n v (h.two n v x),fun n v x=>g.three n v (h.three n v x)⟩
theorem Ty.lF {B:Nat}{w w':World}
  (h1:∀n v,R1 B w n v→R1 B w' n v)
  (h2:∀(L:List Nat) (v:Value) us,w.ownsRow B 24 1 v L.length us→(∀(i n:Nat),L[i]?=some n→∃u,us[i]?=some u∧R1 B w n u)→∃us',w'.ownsRow B 24 1 v L.length us'∧∀(i n:Nat),L[i]?=some n→∃u,us'[i]?=some u∧R1 B w' n u)
  (h3:∀(M:List (List Nat)) (v:Value) us,w.ownsRow B 25 1 v M.length us→(∀(i:Nat) (L:List Nat),M[i]?=some L→∃u,us[i]?=some u∧R2 B w L u)→(∀L v,R2 B w L v→R2 B w' L v)→∃us',w'.ownsRow B 25 1 v M.length us'∧∀(i:Nat) (L:List Nat),M[i]?=some L→∃u,us'[i]?=some u∧R2 B w' L u):Ty B w w':=by
 have h2':∀L v,R2 B w L v→R2 B w' L v:=fun L v ⟨us,a,b⟩=>h2 L v us a b;exact⟨h1,h2',fun M v ⟨us,a,b⟩=>h3 M v us a b h2'⟩
theorem Ty.keep {B:Nat}{w w':World}{S:Nat→Prop}(hk:AA S w w')(hS:∀k,B≤k→S k):Ty B w w':=by
 have h1:∀n v,R1 B w n v→R1 B w' n v:=fun n v ⟨l,a,b⟩=>⟨l,a,Br b hk hS⟩;refine Ty.lF h1 (fun L v us a b=>⟨us,Br a hk hS,fun i n hi=>?_⟩) (fun M v us a b h2=>⟨us,Br a hk hS,fun i L hi=>?_⟩)
 ·obtain⟨u,e1,e2⟩:=b i n hi;exact⟨u,e1,h1 _ _ e2⟩
 ·obtain⟨u,e1,e2⟩:=b i L hi;exact⟨u,e1,h2 _ _ e2⟩
theorem Ty.below {B:Nat}{w w':World}(hb:Below w.heap.size w w'):Ty B w w':=Ty.keep (S:=fun _=>True) (AA.of_below hb) (fun _ _=>trivial)
theorem JK {B b i n:Nat}{e t:TypeId}{w:World}{v c:Value}{xs:List Value}{cur:Array Value}(h:w.ownsRow B e 1 v n xs)(hb:w.heap[b]?=some (.cells cur t (0,0)))(hne:e≠t):(w.setCell ⟨b,i,none⟩ c).ownsRow B e 1 v n xs:=by
 refine⟨h.1,?_⟩;rcases h.2 with h'|⟨g,cap,cu,h',hB,hg,h3⟩
 ·exact .inl h'
 ·refine .inr ⟨g,cap,cu,h',hB,?_,h3⟩;rw[GR w ⟨b,i,none⟩ g c ?_]
  ·exact hg
  ·intro e1;have e2:g=b:=e1;subst e2;rw[hg]at hb;injection hb with hb;injection hb with _ hb _;exact hne hb
theorem eT {B b i n:Nat}{e:TypeId}{w:World}{v c:Value}{xs:List Value}(h:w.ownsRow B e 1 v n xs):∃xs',(w.setCell ⟨b,i,none⟩ c).ownsRow B e 1 v n xs'∧∀(j:Nat) u,xs[j]?=some u→xs'[j]?=some u∨(v.ownBlock=some b∧j=i∧xs'[j]?=some c):=by
 rcases h.2 with⟨rfl,h0⟩|⟨g,cap,cu,rfl,hB,hg,h3⟩
 ·exact⟨xs,⟨h.1,.inl ⟨rfl,h0⟩⟩,fun j u hu=>.inl hu⟩
 ·by_cases e:g=b
  ·subst e;refine⟨xs.set i c,(Q8 h i c).1,fun j u hu=>?_⟩;by_cases hj:j=i
   ·subst hj;right;refine⟨rfl,rfl,?_⟩;have:=(Ag.1 hu).1;rw[P7 this]
   ·left;rw[Q9 (fun h=>hj h.symm)];exact hu
  ·refine⟨xs,⟨h.1,.inr ⟨g,cap,cu,rfl,hB,?_,h3⟩⟩,fun j u hu=>.inl hu⟩;rw[GR w ⟨b,i,none⟩ g c e];exact hg
theorem AIT:∀(xs:List Value),(∀u∈xs,∃x:Int,u= .int .i64 x)→∃l:List Int,xs=vals l:=by
 intro xs
 induction xs with
 |nil=>exact fun _=>⟨[],rfl⟩
 |cons a t ih=>
  intro h;obtain⟨x,hx⟩:=h a (DJ ..);obtain⟨l,hl⟩:=ih fun u hu=>h u (Dj _ hu);exact⟨x::l,by rw[hx,hl];rfl⟩
theorem R1.AKs {B n:Nat}{w:World}{v:Value}{xs:List Value}(h:w.ownsRow B 2 1 v n xs)(ha:∀(j:Nat) u,xs[j]?=some u→∃x:Int,u= .int .i64 x):R1 B w n v:=by
 obtain⟨l,rfl⟩:=AIT xs fun u hu=>by
  obtain⟨j,hj⟩:=GM hu;exact ha j u hj
 exact⟨l,by have:=h.1;simpa using this,h⟩
theorem Ty.set1 {B b i:Nat}{w:World}{cur:Array Value}(hb:w.heap[b]?=some (.cells cur 2 (0,0)))(x:Int):Ty B w (w.setCell ⟨b,i,none⟩ (.int .i64 x)):=by
 have h1:∀n v,R1 B w n v→R1 B (w.setCell ⟨b,i,none⟩ (.int .i64 x)) n v:=by
  intro n v ⟨l,a,h⟩;obtain⟨xs',e1,e2⟩:=eT (b:=b) (i:=i) (c:=.int .i64 x) h;refine R1.AKs e1 fun j u hu=>?_;have hj:j<(vals l).length:=by
   have h3:=(Ag.1 hu).1;have h4:=h.1;have h5:=e1.1;omega
  rcases e2 j _ (AO hj)with h6|h6
  ·rw[hu]at h6;injection h6 with h6;exact⟨l[j]'(by simpa using hj),by rw[h6];simp⟩
  ·rw[hu]at h6;exact⟨x,by have:=h6.2.2;injection this⟩
 refine Ty.lF h1 (fun L v us a c=>⟨us,JK a hb (by decide),fun k n hk=>?_⟩) (fun M v us a c h2=>⟨us,JK a hb (by decide),fun k L hk=>?_⟩)
 ·obtain⟨u,e1,e2⟩:=c k n hk;exact⟨u,e1,h1 _ _ e2⟩
 ·obtain⟨u,e1,e2⟩:=c k L hk;exact⟨u,e1,h2 _ _ e2⟩
theorem R1.len {B n:Nat}{w:World}{v:Value}(h:R1 B w n v):∃a c,v= .slice a n c∧n≤c∧c≤maxLen:=by
 obtain⟨l,_,h2⟩:=h;rcases h2.2 with⟨rfl,h0⟩|⟨g,cap,cu,rfl,_,_,h3,h4,_⟩
 ·exact⟨none,0,by rw[h0],by omega,by simp[maxLen]⟩
 ·exact⟨_,cap,rfl,h3,h4⟩
theorem R1.same {B B' n m:Nat}{w w':World}{v:Value}(h:R1 B w n v)(g:R1 B' w' m v):n=m:=by
 obtain⟨a,c,e,_⟩:=h.len;obtain⟨a',c',e',_⟩:=g.len;rw[e]at e';injection e'
theorem Ty.set2 {B b i n:Nat}{w:World}{cur:Array Value}{u0 u:Value}(hb:w.heap[b]?=some (.cells cur 24 (0,0)))(h0:cur[i]?=some u0)(hu0:R1 B w n u0)(hu:R1 B w n u):Ty B w (w.setCell ⟨b,i,none⟩ u):=by
 have h1:∀n v,R1 B w n v→R1 B (w.setCell ⟨b,i,none⟩ u) n v:=fun n v ⟨l,a,h⟩=>⟨l,a,JK h hb (by decide)⟩;refine Ty.lF h1 (fun L v us a c=>?_) (fun M v us a c h2=>⟨us,JK a hb (by decide),fun k L hk=>?_⟩)
 ·obtain⟨us',e1,e2⟩:=eT (b:=b) (i:=i) (c:=u) a;refine⟨us',e1,fun k m hk=>?_⟩;obtain⟨x,f1,f2⟩:=c k m hk;rcases e2 k x f1 with h6|⟨h6,rfl,h7⟩
  ·exact⟨x,h6,h1 _ _ f2⟩
  ·refine⟨u,h7,h1 _ _ ?_⟩;have hx:x=u0:=by
    rcases a.2 with⟨rfl,h8⟩|⟨g,cap,cu,rfl,hB,hg,_,_,_,ht⟩
    ·cases h6
    ·have e:g=b:=by simpa[Value.ownBlock]using h6
     subst e;rw[hg]at hb;injection hb with hb;injection hb with hb _ _;rw[←ht,Pq]at f1;split at f1
     ·rw[←hb]at h0;rw[TL,h0]at f1;injection f1 with f1;exact f1.symm
     ·cases f1
   rw[hx]at f2;rw[f2.same hu0];exact hu
 ·obtain⟨x,e1,e2⟩:=c k L hk;exact⟨x,e1,h2 _ _ e2⟩
theorem R1.sl {B n:Nat}{w:World}{v:Value}(h:R1 B w n v):∃l:List Int,l.length=n∧AL (fun k=>B≤k) w v l:=by
 obtain⟨l,h1,h2⟩:=h;subst h1;exact⟨l,rfl,Own.sl h2⟩
theorem R1.YJ {B:Nat}{w:World}{v:Value}{x:List Int}(h:Own B w v x):R1 B w x.length v:=⟨x,rfl,h⟩
theorem R1.mono {B B' n:Nat}{w:World}{v:Value}(h:R1 B w n v)(hB:B'≤B):R1 B' w n v:=by
 obtain⟨l,h1,h2⟩:=h;exact⟨l,h1,JI h2 hB⟩
theorem R2.mono {B B':Nat}{L:List Nat}{w:World}{v:Value}(h:R2 B w L v)(hB:B'≤B):R2 B' w L v:=by
 obtain⟨us,h1,h2⟩:=h;refine⟨us,JI h1 hB,fun i n hi=>?_⟩;obtain⟨u,e1,e2⟩:=h2 i n hi;exact⟨u,e1,e2.mono hB⟩
theorem R3.mono {B B':Nat}{M:List (List Nat)}{w:World}{v:Value}(h:R3 B w M v)(hB:B'≤B):R3 B' w M v:=by
 obtain⟨us,h1,h2⟩:=h;refine⟨us,JI h1 hB,fun i n hi=>?_⟩;obtain⟨u,e1,e2⟩:=h2 i n hi;exact⟨u,e1,e2.mono hB⟩
theorem R1.grown {B n:Nat}{w w':World}{v:Value}{r:Option Nat}(h:R1 B w n v)(hg:w.grownBy w' r)(hr:v.ownBlock=none∨v.ownBlock≠r):R1 B w' n v:=by
 obtain⟨l,h1,h2⟩:=h;exact⟨l,h1,Np h2 hg hr⟩
theorem R1.other {B n b i:Nat}{w:World}{v c:Value}{t:TypeId}{cur:Array Value}(h:R1 B w n v)(hb:w.heap[b]?=some (.cells cur t (0,0)))(ht:t≠2):R1 B (w.setCell ⟨b,i,none⟩ c) n v:=by
 obtain⟨l,h1,h2⟩:=h;exact⟨l,h1,JK h2 hb (fun e=>ht e.symm)⟩
theorem R1.apart {B B' n m:Nat}{e:TypeId}{w:World}{v u:Value}{xs:List Value}(h:R1 B w n v)(hu:w.ownsRow B' e 1 u m xs)(he:2≠e):v.ownBlock=none∨v.ownBlock≠u.ownBlock:=by
 obtain⟨l,h1,h2⟩:=h;exact LF h2 hu he
theorem R2.grown {B B' m:Nat}{e:TypeId}{L:List Nat}{w w':World}{v u:Value}{xs:List Value}(h:R2 B w L v)(hu:w.ownsRow B' e 1 u m xs)(he:2≠e)(hg:w.grownBy w' u.ownBlock)(hr:v.ownBlock=none∨v.ownBlock≠u.ownBlock):R2 B w' L v:=by
 obtain⟨us,h1,h2⟩:=h;refine⟨us,Np h1 hg hr,fun i n hi=>?_⟩;obtain⟨x,e1,e2⟩:=h2 i n hi;exact⟨x,e1,e2.grown hg (e2.apart hu he)⟩
theorem R2.other {B b i:Nat}{L:List Nat}{w:World}{v c:Value}{t:TypeId}{cur:Array Value}(h:R2 B w L v)(hb:w.heap[b]?=some (.cells cur t (0,0)))(ht:t≠2)(ht2:t≠24):R2 B (w.setCell ⟨b,i,none⟩ c) L v:=by
 obtain⟨us,h1,h2⟩:=h;refine⟨us,JK h1 hb (fun e=>ht2 e.symm),fun i n hi=>?_⟩;obtain⟨x,e1,e2⟩:=h2 i n hi;exact⟨x,e1,e2.other hb ht⟩
theorem R2.AJi {B n:Nat}{w:World}{v:Value}{rows:List (List Nat)}(h:Own2 24 2 B w v rows)(hr:∀r∈rows,r.length=n):R2 B w (List.replicate rows.length n) v:=by
 obtain⟨us,h1,h2,h3⟩:=h;refine⟨us,by rw[DK];exact h1,fun i m hi=>?_⟩;rw[Nl]at hi;split at hi
 ·injection hi with hi;subst hi;rename_i hlt;have hu:us[i]?=some (us[i]'(by omega)):=AO _;refine⟨_,hu,?_⟩;have h4:=(h3 i _ _ (AO hlt) hu).2;exact⟨ints rows[i],by rw[BL];exact hr _ (Ke _),by rw[hr _ (Ke _)]at h4;exact h4⟩
 ·cases hi
end Go.Proofs.YtaadbccidfdniaaGreat.Df
namespace Go.Proofs.YtaadbccidfdniaaGreat.Cc
open Go.RowKit Go.Proofs.YtaadbccidfdniaaGreat AB Dp Cn Dm Df
abbrev Any:Nat→Prop:=fun _=>True
abbrev Gv (n b:Nat):Value:=.slice (some ⟨b,0,none⟩) n n
theorem UU (n:Nat)(hn:n≤100)(w:World):(Instr.makeSlice 24 (.int .i64 (n:Int)) (.int .i64 (n:Int))).run Tryz.prog w= .ok (.slice (some ⟨w.heap.size,0,none⟩) n n) (w.alloc (.cells (madeCells #[.int .i64 0] n) 2)):=
 run_make_row' (P:=Tryz.prog) 24 2 (.int .i64 0) 8 Tryz.underlying24 FX rfl .i64 .i64 n (by omega) (by omega) w
theorem TF:(Tryz.prog.info? 25).map (fun i=>(i.zero,i.size,i.bytes))=some (some (.slice none 0 0),1,24):=by kernel_rfl
theorem AV {w:World}{g:Nat}{a b c:Value}{t:TypeId}(h:w.heap[g]?=some (.cells #[a,b,c] t (0,0))):
  (w.cell? ⟨g,0,none⟩=some a∧w.cell? ⟨g,1,none⟩=some b∧w.cell? ⟨g,2,none⟩=some c)∧w.frozen? ⟨g,0,none⟩=false∧w.frozen? ⟨g,1,none⟩=false∧w.frozen? ⟨g,2,none⟩=false:=by
 exact⟨sD h,BQ _ _ _ _ _ h,BQ _ _ _ _ _ h,BQ _ _ _ _ _ h⟩
theorem new2 (W:World)(o1 o2:Obj):((W.alloc o1).alloc o2).heap[W.heap.size+1]?=some o2:=by
 have h:=BA (W.alloc o1) o2;rwa[show(W.alloc o1).heap.size=W.heap.size+1 by simp]at h
theorem AEF {W:World}{o1 o2 o:Obj}{k:Nat}(h:W.heap[k]?=some o):((W.alloc o1).alloc o2).heap[k]?=some o:=by
 have hk:=(Ba.1 h).1;rw[E5 _ _ k (by simp;omega),E5 _ _ k hk,h]
theorem BZ {W:World}{g:Nat}{a b c x y z:Value}{t:TypeId}(h:W.heap[g]?=some (.cells #[a,b,c] t (0,0))):
  (((W.setCell ⟨g,0,none⟩ x).setCell ⟨g,1,none⟩ y).setCell ⟨g,2,none⟩ z).heap[g]?=some (.cells #[x,y,z] t (0,0)):=by
 have hl:=(Ba.1 h).1;simp[World.setCell,Array.getElem?_modify,h]
theorem LH {B n s:Nat}{e:TypeId}{w:World}{v:Value}{xs:List Value}(h:w.ownsRow B e s v n xs):∃a c,v= .slice a n c:=by
 rcases h.2 with⟨rfl,hn⟩|⟨g,cap,cur,rfl,_⟩
 ·exact⟨none,0,by rw[hn]⟩
 ·exact⟨_,cap,rfl⟩
theorem Pj {w:World}{B g:Nat}{e t:TypeId}{s n:Nat}{v:Value}{xs:List Value}{cs:Array Value}(h:w.ownsRow B e s v n xs)(hb:w.heap[g]?=some (.cells cs t (0,0)))(hne:e≠t):v.ownBlock≠some g:=fun he=>by
 rcases h.2 with⟨h0,_⟩|⟨g',cap,cur,h0,_,hgg,_⟩
 ·rw[h0]at he;simp[Value.ownBlock]at he
 ·rw[h0]at he;have he:g'=g:=by simpa[Value.ownBlock]using he
  subst he;rw[hb]at hgg;simp at hgg;exact hne hgg.2.symm
theorem AHH {S:Nat→Prop}{w w':World}{B:Nat}{e:TypeId}{s n:Nat}{v:Value}{xs:List Value}(h:w.ownsRow B e s v n xs)(hk:AA S w w')(hS:∀k,v.ownBlock=some k→S k):w'.ownsRow B e s v n xs:=by
 refine⟨h.1,?_⟩;rcases h.2 with h2|⟨g,cap,cur,rfl,hb,hh,r⟩
 ·exact .inl h2
 ·exact .inr ⟨g,cap,cur,rfl,hb,by rw[hk.block g (hS g rfl) (Ba.1 hh).1];exact hh,r⟩
def LU (n i:Nat):List (List Nat):=(List.range (n-(i+1))).map fun k=>(List.replicate n 0).set (i+1+k) 1
theorem AAv {n i k:Nat}(h:k<n-(i+1)):(LU n i)[k]?=some ((List.replicate n 0).set (i+1+k) 1):=by
 unfold LU;rw[Bn,List.getElem?_range h];rfl
theorem AHI {n i k:Nat}(h:k<n-(i+1)):(LU n i).take k++[(List.replicate n 0).set (i+1+k) 1]=(LU n i).take (k+1):=by
 rw[IJ,AAv h];rfl
theorem AHm (n i:Nat):(LU n i).length=n-(i+1):=by unfold LU;simp
theorem NY (S:Nat→Prop)(v:Value)(l:List Int)(w:World)(hv:AL S w v l)(hl:l.length≤1000000):
  Calls Tryz.prog 63 #[v] w (Ej l w):=by
 obtain⟨i0,hi,hz0,hz1,hz2⟩:=Bt FX;obtain⟨ao,c,rfl,hc,hm,hn,hx⟩:=hv;have HL:=hid hl;have HM:=hid hm;clear hl hm;have hsl:AL S w (.slice ao l.length c) l:=⟨ao,c,rfl,hc,HM.out,hn,hx⟩;have HS:=hid hsl;have h00:=Fb (base:=w.heap.size) (e:=2) (size:=1) w #[] 0 AR (AU _) rfl;have HX:=hid hx;clear hsl hx;cases ao with
 |none=>
  obtain rfl:c=0:=hn rfl;obtain rfl:l=[]:=D8 (by omega);go_enter Tryz.func63,Tryz.ntmps63;go_wp2_with fail;go_ret;exact⟨w.heap.size,0,rfl,h00,AX.alloc AR _⟩
 |some ad=>
  have C1:=hid (AL.src (w':=w.alloc (.cells #[] 2)) HS.out (AJ.alloc _));have C2:=hid (Qy l);have C3:=hid (show 0+l.length≤maxLen from by have:=HL.out;unfold maxLen;omega);have C4:=hid (show(0+l.length)*8≤140737488355328 from by have:=HL.out;omega);have C5:=hid (show(vals l).length=l.length*1 by simp[vals]);go_enter Tryz.func63,Tryz.ntmps63;go_wp2_with (at_builtin;refine Fz _ rfl _ _ 24 rfl w.heap.size 2 i0 (.int .i64 0) 1 8 Tryz.underlying24 hi hz0 hz1 hz2 rfl (by decide) _ _ _ rfl h00 ad l.length c (vals l) rfl C5.out C1.out C2.out C3.out C4.out (by simp) ?_);intro v' w1 hown' hgrow hnil;have hO:Own w.heap.size w1 v' l:=by simpa[Own]using hown'
  have hB:Below w.heap.size w w1:=(AX.alloc AR _).grown hgrow (by simp) (by intro k hk;simp[Value.ownBlock]at hk;omega);have hne:v'≠.slice none 0 0:=hnil;clear hown' hgrow hnil;go_wp2_with fail;go_ret;obtain⟨g,cap,rfl⟩:=hO.head hne;exact⟨g,cap,rfl,hO,hB⟩
theorem Q0 {B:Nat}(w:World)(cs:Array Value)(x:List Int)(hB:B≤w.heap.size)(hn:x.length≤maxLen)(h:cs.toList=vals x):Own B (w.alloc (.cells cs 2)) (.slice (some ⟨w.heap.size,0,none⟩) x.length x.length) x:=by
 have:=Nq (base:=B) (e:=2) (size:=1) w cs x.length hB hn (by rw[←Array.length_toList,h];simp[vals]);rw[h]at this;exact this
def ALX (n k:Nat)(w:World)(e:Ending)(w':World):Prop:=∃g,e= .returned (Gv n g)∧Own w.heap.size w' (Gv n g) (ints ((List.replicate n 0).set k 1))∧Below w.heap.size w w'
theorem ABV (n k:Nat)(hn:n≤100)(hk:k<n)(w:World):
  Calls Tryz.prog 106 #[.int .i64 (n:Int),.int .i64 (k:Int)] w (ALX n k w):=by
 have hmk:=UU n (by omega) w;have HO:=Own.made (B:=w.heap.size) w n AR (by unfold maxLen;omega);obtain⟨s1,f1⟩:=HO.cell (j:=k) (a:=0) (by simp[hk]);have KJ:=hid (Q0 (B:=w.heap.size) w ((madeCells #[.int .i64 0] n).setIfInBounds k (.int .i64 1)) (ints ((List.replicate n 0).set k 1)) AR (by simp[ints];unfold maxLen;omega) (by
  rw[Array.toList_setIfInBounds,Q7];simp[vals,ints]))
 clear HO;go_enter Tryz.func106,Tryz.ntmps106;go_wp2_with fail;go_ret;have:=KJ.out;simp only[BL,List.length_set,DK]at this;exact⟨w.heap.size,rfl,this,AX.alloc AR _⟩
theorem fG (n k:Nat)(hn:n≤100)(hk:k<n)(w:World):
  Calls Tryz.prog 106 #[.int .i64 (n:Int),.int .i64 (k:Int)] w (Ej (ints ((List.replicate n 0).set k 1)) w):=
 (ABV n k hn hk w).mono fun e w' ⟨g,h1,h2,h3⟩=>⟨g,n,by rw[h1];simp[ints],by simpa[ints]using h2,h3⟩
theorem WI (x lo hi:Int)(h1:lo≤x)(h2:x≤hi)(w:World):Calls Tryz.prog 144 #[.int .i64 x,.int .i64 lo,.int .i64 hi] w fun e w'=>e= .returned (.bool true)∧w'=w:=by
 have h1':x≥lo:=h1;go_enter Tryz.func144,Tryz.ntmps144;go_wp2_with fail;go_ret;exact⟨rfl,rfl⟩
theorem tQ (x lo hi:Int)(h:¬(lo≤x∧x≤hi))(w:World):Calls Tryz.prog 144 #[.int .i64 x,.int .i64 lo,.int .i64 hi] w fun e w'=>e= .returned (.bool false)∧w'=w:=by
 by_cases h1:lo≤x
 ·have h2:¬x≤hi:=fun h2=>h ⟨h1,h2⟩;have h3:decide (x≤hi)=false:=GX h2;have h4:decide (lo≤x)=true:=IK h1;clear h;go_enter Tryz.func144,Tryz.ntmps144;go_wp2_with fail;go_ret;exact⟨rfl,rfl⟩
 ·have h4:decide (lo≤x)=false:=GX h1;clear h;go_enter Tryz.func144,Tryz.ntmps144;go_wp2_with fail;go_ret;exact⟨rfl,rfl⟩
structure TT (B n:Nat)(W:World)(g:Nat)(vO vP vC:Value)(p q:Nat):Prop where
 bx:W.heap[g]?=some (.cells #[vO,vP,vC] 28 (0,0))
 hg:B≤g
 O:R1 B W n vO
 P:∃us,W.ownsRow B 24 1 vP p us∧∀(i:Nat) u,us[i]?=some u→R1 B W n u
 C:∃us,W.ownsRow B 25 1 vC q us∧∀(i:Nat) u,us[i]?=some u→R2 B W (List.replicate (n-(i+1)) n) u∧∀k,vP.ownBlock=some k→u.ownBlock≠some k
theorem TT.lt {B n:Nat}{W:World}{g:Nat}{vO vP vC:Value}{p q:Nat}(h:TT B n W g vO vP vC p q):g<W.heap.size:=(Ba.1 h.bx).1
theorem TT.kept {B n:Nat}{W W':World}{g:Nat}{vO vP vC:Value}{p q:Nat}(h:TT B n W g vO vP vC p q)(hk:AA (fun k=>B≤k) W W'):TT B n W' g vO vP vC p q:=by
 have hT:Ty B W W':=Ty.keep hk fun _ h=>h;obtain⟨us,p1,p2⟩:=h.P;obtain⟨vs,c1,c2⟩:=h.C;exact⟨(hk.block g h.hg h.lt).trans h.bx,h.hg,hT.one _ _ h.O,⟨us,Br p1 hk (fun _ h=>h),fun i u hu=>hT.one _ _ (p2 i u hu)⟩,vs,Br c1 hk (fun _ h=>h),fun i u hu=>⟨hT.two _ _ (c2 i u hu).1,(c2 i u hu).2⟩⟩
theorem TT.below {B n:Nat}{W W':World}{g:Nat}{vO vP vC:Value}{p q:Nat}(h:TT B n W g vO vP vC p q)(hb:Below W.heap.size W W'):TT B n W' g vO vP vC p q:=h.kept ((AA.of_below (S:=Any) hb).mono fun _ _=>trivial)
theorem TT.start {B n:Nat}{W:World}{g:Nat}{vO:Value}(h:W.heap[g]?=some (.cells #[vO,.slice none 0 0,.slice none 0 0] 28 (0,0)))(hB:B≤g)(hO:R1 B W n vO):TT B n W g vO (.slice none 0 0) (.slice none 0 0) 0 0:=
 ⟨h,hB,hO,⟨[],F7 _ _ _ _,fun i u hu=>by simp at hu⟩,[],F7 _ _ _ _,fun i u hu=>by simp at hu⟩
theorem TT.mono {B B' n:Nat}{W:World}{g:Nat}{vO vP vC:Value}{p q:Nat}(h:TT B n W g vO vP vC p q)(hB:B'≤B):TT B' n W g vO vP vC p q:=by
 obtain⟨us,p1,p2⟩:=h.P;obtain⟨vs,c1,c2⟩:=h.C;exact⟨h.bx,Ad hB h.hg,h.O.mono hB,⟨us,JI p1 hB,fun i u hu=>(p2 i u hu).mono hB⟩,vs,JI c1 hB,fun i u hu=>⟨(c2 i u hu).1.mono hB,(c2 i u hu).2⟩⟩
theorem TT.row {B n c g2:Nat}{W W1 W2:World}{g:Nat}{vO vP vC u:Value}{p q:Nat}{us:List Value}(h:TT B n W g vO vP vC p q)(hb:Below W.heap.size W W1)(hp1:W1.ownsRow B 24 1 vP p us)(hp2:∀(i:Nat) u,us[i]?=some u→R1 B W n u)(hu:R1 B W1 n u)
  (ho:W2.ownsRow B 24 1 (.slice (some ⟨g2,0,none⟩) (p+1) c) (p+1) (us++[u])) (hg:W1.grownBy W2 vP.ownBlock) (hat:vP.ownBlock=some g2∨W1.heap.size≤g2):
  TT B n (W2.setCell ⟨g,1,none⟩ (.slice (some ⟨g2,0,none⟩) (p+1) c)) g vO (.slice (some ⟨g2,0,none⟩) (p+1) c) vC (p+1) q:=by
 have h1:=h.below hb;have hT:Ty B W W1:=Ty.below hb;have tT:g<W1.heap.size:=h1.lt;have AMV:vP.ownBlock≠some g:=Pj hp1 h1.bx (by decide);obtain⟨vs,c1,c2⟩:=h1.C;have Ns:W2.heap[g]?=some (.cells #[vO,vP,vC] 28 (0,0)):=(hg.block g tT (fun e=>AMV e.symm)).trans h1.bx;have r1:∀v,R1 B W1 n v→R1 B (W2.setCell ⟨g,1,none⟩ (.slice (some ⟨g2,0,none⟩) (p+1) c)) n v:=fun v hv=>(hv.grown hg (hv.apart hp1 (by decide))).other Ns (by decide);refine⟨GV W2 g 1 _ _ _ Ns,h.hg,r1 _ h1.O,⟨us++[u],JK ho Ns (by decide),fun i x hx=>?_⟩,vs,JK (Np c1 hg (LF c1 hp1 (by decide))) Ns (by decide),fun i x hx=>?_⟩
 ·rcases CP i us.length with hi|hi
  ·rw[EA hi]at hx;exact r1 _ (hT.one _ _ (hp2 i x hx))
  ·rw[D9 hi]at hx;rcases hj:i-us.length with _|j
   ·rw[hj]at hx;simp at hx;subst hx;exact r1 _ hu
   ·rw[hj]at hx;simp at hx
 ·obtain⟨d1,d2⟩:=c2 i x hx;have hne:x.ownBlock=none∨x.ownBlock≠vP.ownBlock:=by
   rcases hk:vP.ownBlock with _|k
   ·rcases hx':x.ownBlock with _|k'
    ·exact .inl rfl
    ·exact .inr (by simp)
   ·exact .inr (d2 k hk)
  refine⟨(d1.grown hp1 (by decide) hg hne).other Ns (by decide) (by decide),fun k hk=>?_⟩;have hk:g2=k:=by simpa[Value.ownBlock]using hk
  subst hk;rcases hat with h3|h3
  ·exact d2 _ h3
  ·intro e;obtain⟨us',q1,q2⟩:=d1;have:=(Af q1 _ e).2;omega
theorem TT.Mt {B n c g2:Nat}{W W1 W2:World}{g:Nat}{vO vP vC u:Value}{p q:Nat}{us:List Value}(h:TT B n W g vO vP vC p q)(hb:Below W.heap.size W W1)(hc1:W1.ownsRow B 25 1 vC q us)(hc2:∀(i:Nat) u,us[i]?=some u→R2 B W (List.replicate (n-(i+1)) n) u∧∀k,vP.ownBlock=some k→u.ownBlock≠some k)
  (hu:R2 B W1 (List.replicate (n-(q+1)) n) u) (hup:∀k,vP.ownBlock=some k→u.ownBlock≠some k)
  (ho:W2.ownsRow B 25 1 (.slice (some ⟨g2,0,none⟩) (q+1) c) (q+1) (us++[u])) (hg:W1.grownBy W2 vC.ownBlock):
  TT B n (W2.setCell ⟨g,2,none⟩ (.slice (some ⟨g2,0,none⟩) (q+1) c)) g vO vP (.slice (some ⟨g2,0,none⟩) (q+1) c) p (q+1):=by
 have h1:=h.below hb;have hT:Ty B W W1:=Ty.below hb;have tT:g<W1.heap.size:=h1.lt;have AMW:vC.ownBlock≠some g:=Pj hc1 h1.bx (by decide);have Ns:W2.heap[g]?=some (.cells #[vO,vP,vC] 28 (0,0)):=(hg.block g tT (fun e=>AMW e.symm)).trans h1.bx;have r1:∀v,R1 B W1 n v→R1 B (W2.setCell ⟨g,2,none⟩ (.slice (some ⟨g2,0,none⟩) (q+1) c)) n v:=fun v hv=>(hv.grown hg (hv.apart hc1 (by decide))).other Ns (by decide);have r2:∀L v,R2 B W1 L v→R2 B (W2.setCell ⟨g,2,none⟩ (.slice (some ⟨g2,0,none⟩) (q+1) c)) L v:=fun L v hv=>by
  obtain⟨xs,q1,q2⟩:=id hv;exact(hv.grown hc1 (by decide) hg (LF q1 hc1 (by decide))).other Ns (by decide) (by decide)
 obtain⟨vs,p1,p2⟩:=h1.P;have hl:us.length=q:=by have:=hc1.1;omega
 refine⟨GV W2 g 2 _ _ _ Ns,h.hg,r1 _ h1.O,⟨vs,JK (Np p1 hg (LF p1 hc1 (by decide))) Ns (by decide),fun i x hx=>r1 _ (p2 i x hx)⟩,us++[u],JK ho Ns (by decide),fun i x hx=>?_⟩;rcases CP i us.length with hi|hi
 ·rw[EA hi]at hx;exact⟨r2 _ _ (hT.two _ _ (hc2 i x hx).1),(hc2 i x hx).2⟩
 ·rw[D9 hi]at hx;rcases hj:i-us.length with _|j
  ·rw[hj]at hx;simp at hx;subst hx;have:i=q:=by omega
   subst this;exact⟨r2 _ _ hu,hup⟩
  ·rw[hj]at hx;simp at hx
def PT (B:Nat)(w:World)(n:Nat)(vO vP vC:Value):Prop:=R1 B w n vO∧R2 B w (List.replicate n n) vP∧R3 B w ((List.range n).map fun i=>List.replicate (n-(i+1)) n) vC
theorem TT.pt {B n:Nat}{W:World}{g:Nat}{vO vP vC:Value}(h:TT B n W g vO vP vC n n):PT B W n vO vP vC:=by
 obtain⟨us,p1,p2⟩:=h.P;obtain⟨vs,c1,c2⟩:=h.C;have l1:us.length=n:=by have:=p1.1;omega
 have l2:vs.length=n:=by have:=c1.1;omega
 refine⟨h.O,⟨us,by simpa using p1,fun i m hi=>?_⟩,vs,by simpa using c1,fun i L hi=>?_⟩
 ·rw[Nl]at hi;split at hi
  ·injection hi with hi;subst hi;have hu:us[i]?=some (us[i]'(by omega)):=AO _;exact⟨_,hu,p2 i _ hu⟩
  ·cases hi
 ·rw[Bn]at hi;rcases CP i n with h3|h3
  ·rw[List.getElem?_range h3]at hi;simp at hi;subst hi;have hu:vs[i]?=some (vs[i]'(by omega)):=AO _;exact⟨_,hu,(c2 i _ hu).1⟩
  ·rw[J9 (by simpa using h3)]at hi;cases hi
def LV (n:Nat)(w:World)(e:Ending)(w':World):Prop:=∃vO vP vC,e= .returned (.agg #[vO,vP,vC])∧PT w.heap.size w' n vO vP vC∧Below w.heap.size w w'
theorem fH (os:List Int)(v:Value)(w:World)(hv:AL Any w v os)(hn:os.length≤100):
  Calls Tryz.prog 61 #[v] w (LV os.length w):=by
 obtain⟨i0,hi,hz0,hz1,hz2⟩:=Bt Ie;obtain⟨j0,ji,xS,jz1,xU⟩:=Bt TF;obtain⟨a,c,rfl,hcl,hcm⟩:=ABT hv;obtain⟨n,hnn⟩:∃n,os.length=n:=⟨_,rfl⟩;have HV:=hid hv;have Iy:=hid hnn;have HC:=hid (fun W hv=>(NY Any (.slice a os.length c) os W hv (by omega)).mono (R':=fun e w'=>∃a2 c2,e= .returned (.slice a2 os.length c2)∧R1 W.heap.size w' os.length (.slice a2 os.length c2)∧Below W.heap.size W w') (by
  rintro e w2 ⟨g2,c2,rfl,ho2,hb2⟩;exact⟨_,c2,rfl,R1.YJ ho2,hb2⟩))
 have HU:=hid (fun k hk W=>fG n k (by omega) hk W);rw[hnn]at hn HC hcl ⊢;have hv':=hv;rw[hnn]at hv';have HV:=hid hv';have hmk:∀W:World,(Instr.makeSlice 24 (.int .i64 (n:Int)) (.int .i64 (n:Int))).run Tryz.prog W= .ok (.slice (some ⟨W.heap.size,0,none⟩) n n) (W.alloc (.cells (madeCells #[.int .i64 0] n) 2)):=fun W=>UU n (by omega) W;clear hv hv' hnn;go_enter Tryz.func61,Tryz.ntmps61;go_upto_region 1 with fail;obtain⟨w1,hw1⟩:∃w1,w1=w.alloc (.cells #[.slice none 0 0,.slice none 0 0,.slice none 0 0] 28):=⟨_,rfl⟩;rw[←hw1];have hb1:Below w.heap.size w w1:=by rw[hw1];exact AX.alloc AR _
 have hs1:w1.heap.size=w.heap.size+1:=by rw[hw1];simp
 have G1:=hid (show w1.heap[w.heap.size]?=some (.cells #[.slice none 0 0,.slice none 0 0,.slice none 0 0] 28 (0,0)) by rw[hw1];exact BA _ _);have Wv:=hid (HV.out.keep (AA.of_below hb1));have HB1:=hid hb1;have BI:=hid hs1;clear hw1 hb1 hs1;go_wp2_with (first|(go_at_call 63;refine(HC.out _ Wv.out).mono ?_;rintro e w2 ⟨a2,c2,rfl,ho2,hb2⟩)|fail);obtain⟨g,hg⟩:∃g,w2.heap.size=g:=⟨_,rfl⟩;obtain⟨w3,hw3⟩:∃w3,w3=w2.alloc (.cells #[.slice a2 n c2,.slice none 0 0,.slice none 0 0] 28):=⟨_,rfl⟩;have HT0:=hid (show TT w1.heap.size n w3 g (.slice a2 n c2) (.slice none 0 0) (.slice none 0 0) 0 0 from TT.start (by rw[hw3,←hg];exact BA _ _) (by have:=hb2.size;omega) (by
  rw[hw3];exact(Ty.keep (S:=Any) ((AA.refl _ w2).alloc _) fun _ _=>trivial).one _ _ ho2))
 have HB3:=hid (show Below w1.heap.size w1 w3 from by rw[hw3];exact hb2.alloc hb2.size _);rw[←hw3,hg];clear hw3 hg ho2 hb2;have hn63:(n:Int)≤100:=by omega
 go_loopw [5] (fun iv wr=>∃(i:Nat) (vP vC:Value),i≤n∧iv= .int .i64 (i:Int)∧Hid (TT w1.heap.size n wr g (.slice a2 n c2) vP vC i i)∧Hid (Below w1.heap.size w1 wr)) (fun iv _=>n-(intOf iv).toNat);case atStart=>exact⟨0,_,_,AU _,rfl,HT0,HB3⟩
 case round=>
  obtain⟨i,vP,vC,hi',rfl,hS,hB⟩:=hrel;by_cases hlt:i<n
  ·obtain⟨us,hp1,hp2⟩:=hS.out.P;obtain⟨aP,cP,rfl⟩:=LH hp1;have HP:=hid hp1;have Zv:=hid hp2;clear hp1 hp2;obtain⟨⟨e0,e1,e2⟩,f0,f1,f2⟩:=AV hS.out.bx;have hgl:g<wr.heap.size:=hS.out.lt;have EE:=hid hS.out.bx;have hne:some g≠(Value.slice aP i cP).ownBlock:=fun e=>Pj HP.out EE.out (by decide) e.symm;have BI:=hid hB.out.size;have hki:(i:Int)<(n:Int):=by omega
   have Lu:i≤100:=by omega
   obtain⟨w4,hw4⟩:∃w4,w4=wr:=⟨_,rfl⟩;have HW4:=hid hw4;clear hw4;go_upto_region 6 with fail;go_cut [23] (fun sv W=>∃c5 gg,sv= .slice (some ⟨gg,0,none⟩) (i+1) c5∧Hid (TT w1.heap.size n W g (.slice a2 n c2) (.slice (some ⟨gg,0,none⟩) (i+1) c5) vC (i+1) i)∧Hid (Below w1.heap.size w1 W));case rest=>
    obtain⟨c5,gg,rfl,hS',hB'⟩:=hcut;clear hS hB HP Zv EE hne BI e0 e1 e2 f0 f1 f2 hgl;obtain⟨wo,hwo⟩:∃wo,wo=wc:=⟨_,rfl⟩;rw[←hwo]at hS' hB' ⊢;have hgo:g<wo.heap.size:=hS'.out.lt;clear hwo;have hw1:IntKind.i64.wrap ((i:Int)+1)=(i:Int)+1:=AY _ (by omega);have DV:=hid (AHm n i);have AMX:=hid (show Own2 24 2 wo.heap.size (wo.alloc (.cells #[] 24)) (.slice (some ⟨wo.heap.size,0,none⟩) 0 0) ((LU n i).take 0) from⟨[],Nq (base:=wo.heap.size) (e:=24) (size:=1) wo #[] 0 AR (by unfold maxLen;omega) (by simp),rfl,by simp⟩);go_wp2_with fail;go_loopw [6,7] (fun lv jv wr=>∃k:Nat,i+1+k≤n∧jv= .int .i64 ((i:Int)+1+(k:Int))∧Hid (Own2 24 2 wo.heap.size wr lv ((LU n i).take k))∧Hid (Below wo.heap.size wo wr)) (fun _ jv _=>n-(intOf jv).toNat);case atStart=>exact⟨0,by omega,by simp,AMX,(hid (AX.alloc AR _))⟩
    case round=>
     obtain⟨k,hk,rfl,hO,hBI⟩:=hrel;obtain⟨aL,cL,rfl,_,_⟩:=hO.out.form;have hll:((LU n i).take k).length=k:=by rw[JX,DV.out];omega
     rw[hll]at hO ⊢;have hw2:IntKind.i64.wrap ((i:Int)+1+(k:Int))=(i:Int)+1+(k:Int):=AY _ (by omega);by_cases hlt2:i+1+k<n
     ·have AMY:(i:Int)+1+(k:Int)<(n:Int):=by omega
      have UN:=hid (show Calls Tryz.prog 106 #[.int .i64 (n:Int),.int .i64 ((i:Int)+1+(k:Int))] _ (Ej (ints ((List.replicate n 0).set (i+1+k) 1)) _) from by
       have h:=HU.out (i+1+k) hlt2 wr;rw[show(((i+1+k:Nat)):Int)=(i:Int)+1+(k:Int) by omega]at h;exact h)
      obtain⟨us,q1,q2,q4⟩:=hO.out;have Kz:=hid (And.intro q1 (And.intro q2 q4));rw[hll]at Kz;have Bv:=hid hBI.out.size;have Dw:k≤100:=by omega
      clear q1 q2 q4 hll;go_wp2_with fail;refine UN.out.mono ?_;rintro e w5 ⟨g5,Ww,rfl,Aw,hb5⟩;have hl5:(ints ((List.replicate n 0).set (i+1+k) 1)).length=n:=by rw[BL];simp
      have HRW:=hid (Ck.keep (Ej.row (Aw.mono Bv.out)) ((AA.refl Any w5).alloc (.cells #[.slice (some ⟨g5,0,none⟩) (ints ((List.replicate n 0).set (i+1+k) 1)).length Ww] 24)) fun _ _=>trivial);rw[hl5]at HRW ⊢;have a1:=Br Kz.out.1 (S:=Any) ((AA.of_below hb5).trans ((AA.refl Any w5).alloc (.cells #[.slice (some ⟨g5,0,none⟩) n Ww] 24))) (fun _ _=>trivial);have Aa:=hid ((hBI.out.trans (hb5.mono hBI.out.size)).alloc (by have:=Bv.out;have:=hb5.size;omega) (.cells #[.slice (some ⟨g5,0,none⟩) n Ww] 24));have Rq:=hid (show AA Any wr _ from(AA.of_below hb5).trans ((AA.refl Any w5).alloc (.cells #[.slice (some ⟨g5,0,none⟩) n Ww] 24)));have Ew:=hid (show wo.heap.size≤w5.heap.size by have:=Bv.out;have:=hb5.size;omega);clear Aw hb5 hl5;go_wp2_with (at_builtin;(refine GQ _ rfl _ _ 25 rfl wo.heap.size 24 i0 (.slice none 0 0) 1 24 Tryz.underlying25 hi hz0 hz1 hz2 rfl (by decide) _ _ _ rfl a1 ⟨w5.heap.size,0,none⟩ 1 1 [.slice (some ⟨g5,0,none⟩) n Ww] rfl rfl (GN (cs:= #[.slice (some ⟨g5,0,none⟩) n Ww]) (t:=24) (fr:=(0,0)) (BA w5 _)) (by simp[Value.oneCell']) (by decide) (by unfold maxLen;omega) (by omega) (by have:=Ew.out;simp;omega) _ rfl ?_));intro g6 c6 w6 A8 CX Lc Ld;have xV:((LU n i).take k).length=k:=by rw[JX,DV.out];omega
      have HN:=hid (Own2.push (rows:=(LU n i).take k) (by decide) xV a1 (by rw[Kz.out.2.1,xV]) (fun i' r u h1 h2=>(Kz.out.2.2 i' r u h1 h2).keep Rq.out (fun _ _=>trivial)) HRW.out A8 CX);rw[AHI (by omega)]at HN;have M6:=hid (Aa.out.grown CX (by have:=Ew.out;simp;omega) (by intro b hb;exact(Af a1 b hb).1));clear A8 CX Lc Ld a1 xV hO hBI Aa;go_wp2_with fail;go_roundw;case rel=>exact⟨k+1,by omega,by go_num,HN,M6⟩
      case measure=>simp[intOf];omega
     ·obtain rfl:k=n-(i+1):=by omega
      have hlx:n-(i+1)=(LU n i).length:=DV.out.symm;have lG:=hid (show Own2 24 2 wo.heap.size wr (.slice aL (n-(i+1)) cL) (LU n i) from by
       have h:=hO.out;rw[P6 (by rw[DV.out];exact Av _)]at h;exact h)
      obtain⟨ln,hln⟩:∃ln,n-(i+1)=ln:=⟨_,rfl⟩;have AMZ:ln≤100:=by omega
      have hjn:(i:Int)+1+(ln:Int)=(n:Int):=by omega
      rw[hln]at lG ⊢;have HT:=hid (hS'.out.below hBI.out);have FO:=hid (hB'.out.trans (hBI.out.mono hB'.out.size));have Ab:=hid (show w1.heap.size≤wr.heap.size from FO.out.size);obtain⟨us,c1,c3⟩:=HT.out.C;obtain⟨aC,cC,rfl⟩:=LH c1;have UW:=hid c3;obtain⟨⟨e0,e1,e2⟩,f0,f1,f2⟩:=AV HT.out.bx;have hgl:g<wr.heap.size:=HT.out.lt;have EE:=hid HT.out.bx;have hne:some g≠(Value.slice aC i cC).ownBlock:=fun e=>Pj c1 EE.out (by decide) e.symm;obtain⟨pus,AEG,AMa⟩:=hS'.out.P;have AMb:=Af AEG gg rfl;have HUF:=hid (show R2 w1.heap.size (wr.alloc (.cells #[.slice aL ln cL] 25)) (List.replicate (n-(i+1)) n) (.slice aL ln cL) from(Ty.keep (S:=Any) ((AA.refl _ wr).alloc _) fun _ _=>trivial).two _ _ (by
       have h:=R2.AJi (n:=n) lG.out (fun r hr=>by
        obtain⟨k',hk'⟩:=GM hr;have h5:k'<n-(i+1):=by have:=(Ag.1 hk').1;rw[DV.out]at this;exact this
        rw[AAv h5]at hk';injection hk' with hk';rw[←hk'];simp)
       rw[DV.out]at h;exact h.mono (by have:=hB'.out.size;omega)))
      have UX:=hid (show∀k,(Value.slice (some ⟨gg,0,none⟩) (i+1) c5).ownBlock=some k→(Value.slice aL ln cL).ownBlock≠some k from fun k hk hk2=>by
       obtain⟨xs,q1,_⟩:=lG.out;have h5:=(Af q1 k hk2).1;have h6:gg=k:=by simpa[Value.ownBlock]using hk
       omega)
      clear AEG AMa AMb;have a1:=Br c1 (S:=Any) ((AA.refl Any wr).alloc (.cells #[.slice aL ln cL] 25)) (fun _ _=>trivial);have A9:=hid (show Below wr.heap.size wr (wr.alloc (.cells #[.slice aL ln cL] 25)) from AX.alloc AR _);clear hlx hO hll hBI hlt2 c3 lG;have hfin:¬((i:Int)+1+(ln:Int)<(n:Int)):=by omega
      have APO:i≤100:=by omega
      go_wp2_with (at_builtin;(refine GQ _ rfl _ _ 26 rfl w1.heap.size 25 j0 (.slice none 0 0) 1 24 Tryz.underlying26 ji xS jz1 xU rfl (by decide) _ _ _ rfl a1 ⟨wr.heap.size,0,none⟩ 1 1 [.slice aL ln cL] rfl rfl (GN (cs:= #[.slice aL ln cL]) (t:=25) (fr:=(0,0)) (BA wr _)) (by simp[Value.oneCell']) (by decide) (by unfold maxLen;omega) (by omega) (by have:=Ab.out;simp;omega) _ rfl ?_));intro g7 c7 w7 Cr Fp AMc tV;have g10:=(Fp.block g (by simp;omega) hne).trans ((E5 wr _ g hgl).trans EE.out);obtain⟨⟨m0,m1,m2⟩,n0,n1,n2⟩:=AV g10;have HN:=hid (TT.Mt HT.out A9.out a1 UW.out HUF.out UX.out Cr Fp);have M6:=hid ((FO.out.alloc Ab.out (.cells #[.slice aL ln cL] 25)).grown Fp (by have:=Ab.out;simp;omega) (by intro b hb;exact(Af a1 b hb).1));have AMd:=hid (M6.out.setCell (p:=⟨g,2,none⟩) HT.out.hg (.slice (some ⟨g7,0,none⟩) (i+1) c7));clear Cr Fp AMc tV a1 g10 c1 e0 e1 e2 HT HUF A9 M6 UW UX;go_wp2_with fail;go_roundw;case rel=>exact⟨i+1,_,_,by omega,by go_num,HN,AMd⟩
      case measure=>simp[intOf];omega
   go_region_law
    (first|(refine Pv _ (by rfl) _ _ _ (by rfl) w1.heap.size 24 i0 (.slice none 0 0) 1 24 Tryz.underlying25 hi hz0 hz1 hz2 rfl (by omega) (.slice aP i cP) i us (by rfl) (Br HP.out (S:=Any) (by repeat(first|exact AJ.drew|exact AA.refl _ _|refine AA.drew ?_|refine AA.alloc ?_ _)) (fun _ _=>trivial)) ⟨wr.heap.size+1,0,none⟩ 1 1 [Gv n wr.heap.size] (by rfl) (by rfl) (GN (cs:= #[Gv n wr.heap.size]) (t:=24) (fr:=(0,0)) (by first|exact new2 wr.drew _ _|exact new2 wr _ _)) (by simp[Value.oneCell']) (by omega) (by unfold maxLen;omega) (by omega) (by have:=BI.out;simp;omega) _ rfl ?_;intro gg cap Bj IG Ef LW Me;have g10:=(Ef.block g (by simp;omega) hne).trans (by first|exact AEF (W:=wr.drew) EE.out|exact AEF (W:=wr) EE.out);obtain⟨⟨m0,m1,m2⟩,n0,n1,n2⟩:=AV g10))
   all_goals
    have HW:Below wr.heap.size wr ((wr.alloc (Obj.cells (madeCells #[Value.int IntKind.i64 0] n) 2)).alloc (Obj.cells #[Gv n wr.heap.size] 24)).drew:=((AX.alloc AR _).alloc (by simp) _).drew;have HOW:=hid (show R1 w1.heap.size ((wr.alloc (Obj.cells (madeCells #[Value.int IntKind.i64 0] n) 2)).alloc (Obj.cells #[Gv n wr.heap.size] 24)).drew n (Gv n wr.heap.size) from by
     have h:=Own.made (B:=w1.heap.size) wr n BI.out (by unfold maxLen;omega);have h2:=R1.YJ (h.alloc (.cells #[Gv n wr.heap.size] 24)).drew;rw[DK]at h2;exact h2)
    have HR:=hid (TT.row hS.out HW (Br HP.out (S:=Any) (AA.of_below HW) (fun _ _=>trivial)) Zv.out HOW.out IG Ef (by rcases LW with h|h;exact .inl h;exact .inr (by rw[h];exact Av _)));go_wp2_with fail;go_meet;refine⟨cap,gg,rfl,HR,?_⟩
    ·exact hid (((hB.out.trans (HW.mono BI.out)).grown Ef (Ad BI.out HW.size) (by intro k hk;exact(Af HP.out k hk).1)).setCell (p:=⟨g,1,none⟩) hS.out.hg _)
  ·obtain rfl:i=n:=by omega
   have Wx:=hid (Ea hB.out (by have:=BI.out;omega) G1.out);obtain⟨⟨r0,r1,r2⟩,s0,s1,s2⟩:=AV Wx.out;obtain⟨⟨e0,e1,e2⟩,f0,f1,f2⟩:=AV hS.out.bx;obtain⟨us,k1,k2⟩:=hS.out.C;obtain⟨ps,k3,k4⟩:=hS.out.P;obtain⟨aP,cP,rfl⟩:=LH k3;obtain⟨aC,cC,rfl⟩:=LH k1;have Ii:=hid (show LV i w (.returned (.agg #[.slice a2 i c2,.slice aP i cP,.slice aC i cC])) (((wr.setCell ⟨w.heap.size,0,none⟩ (.slice a2 i c2)).setCell ⟨w.heap.size,1,none⟩ (.slice aP i cP)).setCell ⟨w.heap.size,2,none⟩ (.slice aC i cC)) from by
    refine⟨_,_,_,rfl,?_,?_⟩
    ·exact((hS.out.kept ((((AA.refl _ wr).setCell (by have:=BI.out;simp;omega) _).setCell (by have:=BI.out;simp;omega) _).setCell (by have:=BI.out;simp;omega) _)).mono (by have:=BI.out;omega)).pt
    ·exact(((HB1.out.trans (hB.out.mono (by have:=BI.out;omega))).setCell (p:=⟨w.heap.size,0,none⟩) AR _).setCell (p:=⟨w.heap.size,1,none⟩) AR _).setCell (p:=⟨w.heap.size,2,none⟩) AR _)
   clear hS k1 k2 k3 k4;go_wp2_with fail;obtain⟨⟨z0,z1,z2⟩,-⟩:=AV (BZ (x:=.slice a2 i c2) (y:=.slice aP i cP) (z:=.slice aC i cC) Wx.out);exact Aj (v:=.agg #[.slice a2 i c2,.slice aP i cP,.slice aC i cC]) (by simp[results,Tryz.results61,go_sem,z0,z1,z2]) rfl Ii.out
end Go.Proofs.YtaadbccidfdniaaGreat.Cc
namespace Go.Proofs.YtaadbccidfdniaaGreat.Vu
open Go.RowKit Go.Proofs.YtaadbccidfdniaaGreat AB Val
abbrev Any:Nat→Prop:=fun _=>True
def xW (p:Prop)(w:World)(e:Ending)(w':World):Prop:=∃r:Bool,e= .returned (.bool r)∧(r=true↔p)∧w=w'
theorem Qw (x:Int)(w:World):Calls Tryz.prog 65 #[.int .i64 x] w fun e w'=>e= .returned (.bool (CL x))∧w=w':=by
 by_cases h2:x=2
 ·subst h2;go_enter Tryz.func65,Tryz.ntmps65;go_wp2_with fail;go_ret;exact⟨rfl,rfl⟩
 ·by_cases h3:x=3
  ·subst h3;go_enter Tryz.func65,Tryz.ntmps65;go_wp2_with fail;go_ret;exact⟨rfl,rfl⟩
  ·by_cases h5:x=5
   ·subst h5;go_enter Tryz.func65,Tryz.ntmps65;go_wp2_with fail;go_ret;exact⟨rfl,rfl⟩
   ·by_cases h7:x=7
    ·subst h7;go_enter Tryz.func65,Tryz.ntmps65;go_wp2_with fail;go_ret;exact⟨rfl,rfl⟩
    ·have e2:(x==2)=false:=by simpa using h2
     have e3:(x==3)=false:=by simpa using h3
     have e5:(x==5)=false:=by simpa using h5
     have e7:(x==7)=false:=by simpa using h7
     have HB:=hid (show CL x=false by simp[CL,h2,h3,h5,h7]);clear h2 h3 h5 h7;go_enter Tryz.func65,Tryz.ntmps65;go_wp2_with fail;go_ret;exact⟨by rw[HB.out];rfl,rfl⟩
theorem AIU (x lo hi:Int)(h1:lo≤x)(h2:x≤hi)(w:World):Calls Tryz.prog 95 #[.int .i64 x,.int .i64 lo,.int .i64 hi] w fun e w'=>e= .returned (.bool true)∧w=w':=by
 have h1':x≥lo:=h1;go_enter Tryz.func95,Tryz.ntmps95;go_wp2_with fail;go_ret;exact⟨rfl,rfl⟩
theorem AIV (x lo hi:Int)(h:¬(lo≤x∧x≤hi))(w:World):Calls Tryz.prog 95 #[.int .i64 x,.int .i64 lo,.int .i64 hi] w fun e w'=>e= .returned (.bool false)∧w=w':=by
 by_cases h1:lo≤x
 ·have h2:¬x≤hi:=fun h2=>h ⟨h1,h2⟩;have h3:decide (x≤hi)=false:=GX h2;have h4:decide (lo≤x)=true:=IK h1;clear h;go_enter Tryz.func95,Tryz.ntmps95;go_wp2_with fail;go_ret;exact⟨rfl,rfl⟩
 ·have h4:decide (lo≤x)=false:=GX h1;clear h;go_enter Tryz.func95,Tryz.ntmps95;go_wp2_with fail;go_ret;exact⟨rfl,rfl⟩
def Zero (l:List Int):Prop:=∀x∈l,x=0
theorem oZ (S:Nat→Prop)(v:Value)(l:List Int)(w:World)(hv:AL S w v l):
  Calls Tryz.prog 86 #[v] w (xW (Zero l) w):=by
 obtain⟨ao,c,rfl,hc,hm,_,hx⟩:=hv;unfold maxLen at hm;have HM:=hid hm;have hl63:(l.length:Int)≤9223372036854775807:=by omega
 have HX:=hid hx;clear hm hx;go_enter Tryz.func86,Tryz.ntmps86;go_wp2_with fail;go_loop [7] (fun i=>∃k:Nat,k≤l.length∧i= .int .i64 k∧Hid (∀j,j<k→∀x,l[j]?=some x→x=0)) (fun i=>l.length-(intOf i).toNat);case atStart=>exact⟨0,AU _,rfl,hid (fun j h=>absurd h (CO _))⟩
 case round=>
  obtain⟨k,hk,rfl,hz⟩:=hrel;by_cases hlt:k<l.length
  ·obtain⟨x,hg⟩:∃x,l[k]?=some x:=⟨_,AO hlt⟩;obtain⟨b,o,rfl,_,hb,u,hcell,rfl⟩:=HX.out k x hg;have HG:=hid hg;clear hg;by_cases h0:x=0
   ·subst h0;go_wp2_with fail;go_round;case rel=>exact⟨k+1,by omega,by go_num,hid (fun j hj y hy=>by
     rcases EB.1 hj with h|h
     ·exact hz.out j h y hy
     ·subst h;rw[HG.out]at hy;exact(Mc hy).symm)⟩
    case measure=>simp[intOf];omega
   ·have h1:(x !=0)=true:=by simpa using h0
    have H0:=hid h0;clear h0;go_wp2_with fail;go_ret;exact⟨false,rfl,⟨fun h=>absurd h (by simp),fun h=>absurd (h x (Ak HG.out)) H0.out⟩,rfl⟩
  ·obtain rfl:k=l.length:=by omega
   go_wp2_with fail;go_ret;exact⟨true,rfl,⟨fun _ x hx=>by obtain⟨j,hj,rfl⟩:=RJ hx;exact hz.out j hj _ (AO hj),fun _=>rfl⟩,rfl⟩
theorem AAD (w:World)(b o:Nat)(P:Bu)(v:Value)(l:List Int)(hP:BN Any w b o P)(hv:AL Any w v l)(hpr:∀x∈P.os,CL x=true):
  Calls Tryz.prog 54 #[.pointer (some ⟨b,o,none⟩),v] w (xW (Cj P.os 0 l) w):=by
 obtain⟨_,hbl,vO,vP,vC,hp0,hp1,hp2,hV⟩:=hP;obtain⟨aO,cO,rfl,BS,Iz,_,hO⟩:=hV.os;obtain⟨ao,c,rfl,hc,hm,_,hx⟩:=hv;have hn63:(l.length:Int)≤9223372036854775807:=by unfold maxLen at hm;omega
 have HX:=hid hx;have HO:=hid hO;have HM:=hid (And.intro Iz hm);have Bw:=hid hpr;clear hx hO Iz hm hpr hV hp1 hp2;by_cases hl:l.length=P.os.length
 ·have hl2:((l.length:Int) !=(P.os.length:Int))=false:=by simp;omega
  have HL:=hid hl;clear hl;go_enter Tryz.func54,Tryz.ntmps54;go_wp2_with fail;go_loop [17] (fun i=>∃k:Nat,k≤l.length∧i= .int .i64 k∧Hid (∀j,j<k→∀x o,l[j]?=some x→P.os[j]?=some o→0≤x∧x<o)) (fun i=>l.length-(intOf i).toNat);case atStart=>exact⟨0,AU _,rfl,hid (fun j h=>absurd h (CO _))⟩
  case round=>
   obtain⟨k,hk,rfl,hz⟩:=hrel;by_cases hlt:k<l.length
   ·obtain⟨x,hg⟩:∃x,l[k]?=some x:=⟨_,AO hlt⟩;obtain⟨q,hq⟩:∃q,P.os[k]?=some q:=⟨_,AO (by rw[←HL.out];exact hlt)⟩;obtain⟨bX,oX,rfl,_,hbX,u,Fh,rfl⟩:=HX.out k x hg;obtain⟨bO,oO,rfl,_,CQ,u,Td,rfl⟩:=HO.out k q hq;have hk2:k<P.os.length:=by rw[←HL.out];exact hlt
    have Zw:=Pd (Bw.out q (Ak hq));have HG:=hid (And.intro hg hq);clear hg hq;by_cases hin:0≤x∧x≤q-1
    ·have HI:=hid hin;clear hin;go_wp2_with (go_at_call 95;refine(AIU x 0 (q-1) HI.out.1 HI.out.2 _).mono ?_;rintro e w' ⟨rfl,rfl⟩);go_round;case rel=>exact⟨k+1,by omega,by go_num,hid (fun j hj y p hy hp=>by
      rcases EB.1 hj with h|h
      ·exact hz.out j h y p hy hp
      ·subst h;rw[HG.out.1]at hy;rw[HG.out.2]at hp;cases hy;cases hp;have:=HI.out;omega)⟩
     case measure=>simp[intOf];omega
    ·have HI:=hid hin;clear hin;go_wp2_with (go_at_call 95;refine(AIV x 0 (q-1) HI.out _).mono ?_;rintro e w' ⟨rfl,rfl⟩);go_ret;exact⟨false,rfl,⟨fun h=>absurd h (by simp),fun h=>by have:=h.2 k x q HG.out.1 HG.out.2;exact absurd ⟨this.1,by omega⟩ HI.out⟩,rfl⟩
   ·obtain rfl:k=l.length:=by omega
    go_wp2_with fail;go_ret;exact⟨true,rfl,⟨fun _=>⟨HL.out,fun j x q hx hq=>by have:=hz.out j (Ag.1 hx).1 x q hx hq;exact⟨this.1,this.2,fun h=>absurd h (CO _)⟩⟩,fun _=>rfl⟩,rfl⟩
 ·have hl2:((l.length:Int) !=(P.os.length:Int))=true:=by simp;omega
  have HL:=hid hl;clear hl;go_enter Tryz.func54,Tryz.ntmps54;go_wp2_with fail;go_ret;exact⟨false,rfl,⟨fun h=>absurd h (by simp),fun h=>absurd h.1 HL.out⟩,rfl⟩
theorem AIW {S:Nat→Prop}{w:World}{b o n c:Nat}{l:List Int}(h:AL S w (.slice (some ⟨b,o,none⟩) n c) l)(k:Nat)(hk:k≤n):AL S w (.slice (some ⟨b,o,none⟩) k c) (l.take k):=by
 obtain⟨ao,c',e,h1,h2,h0,hx⟩:=h;obtain⟨rfl,rfl,rfl⟩:some ⟨b,o,none⟩=ao∧n=l.length∧c=c':=by simpa using e
 refine⟨_,c,by rw[JX,Nat.min_eq_left hk],by rw[JX];omega,h2,fun e=>absurd e (by simp),fun i x hi=>?_⟩;rw[Pq]at hi;split at hi
 ·exact hx i x hi
 ·cases hi
theorem AGo (w:World)(b o i:Nat)(P:Bu)(v:Value)(l:List Int)(hP:BN Any w b o P)(hv:AL Any w v l)(hpr:∀x∈P.os,CL x=true)(hi:i<P.os.length)(hn:P.os.length≤6):
  Calls Tryz.prog 66 #[.pointer (some ⟨b,o,none⟩),.int .i64 (i:Int),v] w (xW (Cj P.os (i+1) l) w):=by
 have HE:=hid (AAD w b o P v l hP hv hpr);by_cases h0:Cj P.os 0 l
 ·have hl:=h0.1;obtain⟨ao,c,rfl,hc,hm,_,hx⟩:=hv;obtain⟨bX,oX,rfl,_,hbX,u,Fh,rfl⟩:=hx i l[i] (AO (by omega));have hv:AL Any w (.slice (some ⟨bX,oX,none⟩) l.length c) l:=⟨_,c,rfl,hc,hm,fun e=>absurd e (by simp),hx⟩;have HZ:=hid (oZ Any _ _ w (AIW hv (i+1) (by omega)));have H0:=hid h0;have HM:=hid hm;have GH:=hid (show Zero (l.take (i+1))↔Cj P.os (i+1) l from by
   constructor
   ·intro hz;refine⟨hl,fun j x q hx hq=>⟨(h0.2 j x q hx hq).1,(h0.2 j x q hx hq).2.1,fun hj=>hz x ?_⟩⟩;exact Ak (i:=j) (by rw[Pq,Bo hj];exact hx)
   ·intro ht x hx;obtain⟨j,hj,rfl⟩:=RJ hx;have hj2:j<i+1:=by rw[JX]at hj;omega
    have hjl:j<l.length:=by rw[JX]at hj;omega
    rw[List.getElem_take];exact(ht.2 j _ _ (AO hjl) (AO (by omega))).2.2 hj2)
  have hlc:i+1≤l.length:=by omega
  have hcc:i+1≤c:=by omega
  have Gj:l.length≤6:=by omega
  clear hx hv Fh h0 hpr hP hm hl;go_enter Tryz.func66,Tryz.ntmps66;go_wp2_with fail;refine HE.out.mono ?_;rintro e w' ⟨r,rfl,hr,rfl⟩;obtain rfl:r=true:=hr.2 H0.out;clear hr;go_wp2_with fail;refine HZ.out.mono ?_;rintro e w' ⟨r,rfl,hr,rfl⟩;have HR:=hid hr;clear hr;go_wp2_with fail;go_ret;exact⟨r,rfl,HR.out.trans GH.out,rfl⟩
 ·have H0:=hid h0;clear h0 hP hv hpr;go_enter Tryz.func66,Tryz.ntmps66;go_wp2_with fail;refine HE.out.mono ?_;rintro e w' ⟨r,rfl,hr,rfl⟩;obtain rfl:r=false:=by cases r;rfl;exact absurd (hr.1 rfl) H0.out
  clear hr;go_wp2_with fail;go_ret;exact⟨false,rfl,⟨fun h=>absurd h (by simp),fun h=>absurd ⟨h.1,fun j x q hx hq=>⟨(h.2 j x q hx hq).1,(h.2 j x q hx hq).2.1,fun h=>absurd h (CO _)⟩⟩ H0.out⟩,rfl⟩
end Go.Proofs.YtaadbccidfdniaaGreat.Vu
namespace Go.Proofs.YtaadbccidfdniaaGreat.Ni
open Go.RowKit Go.Proofs.YtaadbccidfdniaaGreat AB Val Vu
def QN (p:Prop)(w:World)(e:Ending)(w':World):Prop:=∃r:Bool,e= .returned (.bool r)∧(r=true↔p)∧Below w.heap.size w w'
theorem FV {p:Prop}{w w':World}(h:¬p)(hb:Below w.heap.size w w'):QN p w (.returned (.bool false)) w':=⟨false,rfl,⟨fun h=>absurd h (by simp),fun h'=>absurd h' h⟩,hb⟩
theorem VS {p:Prop}{w w':World}(h:p)(hb:Below w.heap.size w w'):QN p w (.returned (.bool true)) w':=⟨true,rfl,⟨fun _=>h,fun _=>rfl⟩,hb⟩
theorem VI (w:World)(vO vP vC:Value)(P:Bu)(hV:BC Any w vO vP vC P):
  Calls Tryz.prog 31 #[.agg #[vO,vP,vC]] w (QN (Valid P) w):=by
 have hW:=hV;obtain⟨aO,cO,rfl,BS,Iz,hn1,hO⟩:=hV.os;obtain⟨aP,cP,rfl,hcP,UY,hn2,hP⟩:=hV.ps;obtain⟨aC,cC,rfl,hcC,UZ,xX,hC⟩:=hV.cs;have xY:=hid (And.intro Iz (And.intro UY UZ));have m1:(P.os.length:Int)≤9223372036854775807:=by unfold maxLen at Iz;omega
 have m2:(P.ps.length:Int)≤9223372036854775807:=by unfold maxLen at UY;omega
 have m3:(P.cs.length:Int)≤9223372036854775807:=by unfold maxLen at UZ;omega
 have HB:=hid ((A7 w.heap.size w).alloc AR (.cells #[.slice aO P.os.length cO,.slice aP P.ps.length cP,.slice aC P.cs.length cC] 28));clear Iz UY UZ hn1 hn2 xX;by_cases h6:P.os.length≤6
 ·have hd6:decide ((P.os.length:Int)>6)=false:=by simp;omega
  by_cases hpl:P.ps.length=P.os.length
  ·have hp2:((P.ps.length:Int) !=(P.os.length:Int))=false:=by simp;omega
   by_cases hcl:P.cs.length=P.os.length
   ·have hc2:((P.cs.length:Int) !=(P.os.length:Int))=false:=by simp;omega
    have H8:=hid hpl;have Ec:=hid hcl;have HO:=hid hO;have HP:=hid hP;have HC:=hid hC;have IP:=hid (show BN Any (w.alloc (.cells #[.slice aO P.os.length cO,.slice aP P.ps.length cP,.slice aC P.cs.length cC] 28)) w.heap.size 0 P from by
     have hb:=A7 (w.heap.size+1) (w.alloc (.cells #[.slice aO P.os.length cO,.slice aP P.ps.length cP,.slice aC P.cs.length cC] 28));obtain⟨e0,e1,e2⟩:=Cq hb;exact⟨trivial,by simp,_,_,_,e0,e1,e2,hW.keep (Dc hb _)⟩)
    have Jd:=hid (Dc (A7 (w.heap.size+1) (w.alloc (.cells #[.slice aO P.os.length cO,.slice aP P.ps.length cP,.slice aC P.cs.length cC] 28))) Any);clear hpl hcl hO hP hC hV hW;go_enter Tryz.func31,Tryz.ntmps31;go_wp2_with fail;go_loop [4,32] (fun q i=>∃k:Nat,k≤P.os.length∧i= .int .i64 (k:Int)∧∃z:Int,q= .int .i64 z∧1≤z∧z≤729∧Hid (z=DR (P.os.take k)∧∀x∈P.os.take k,CL x=true)) (fun _ i=>P.os.length-(intOf i).toNat);case atStart=>exact⟨0,AU _,rfl,1,rfl,by omega,by omega,hid ⟨rfl,fun x hx=>by simp at hx⟩⟩
    case round=>
     obtain⟨k,hk,rfl,z,rfl,hz1,hz2,hR⟩:=hrel;by_cases hlt:k<P.os.length
     ·obtain⟨x,hx⟩:∃x,P.os[k]?=some x:=⟨_,AO hlt⟩;obtain⟨bO,oO,rfl,_,CQ,u,Td,rfl⟩:=HO.out k x hx;have HX:=hid hx;clear hx;by_cases hpr:CL x=true
      ·have hx7:=Pd hpr;have b1:1≤z*x:=by have:1*1≤z*x:=Int.mul_le_mul hz1 (by omega) (by omega) (by omega);simpa using this
       have b2:z*x≤5103:=by have:z*x≤729*7:=Int.mul_le_mul hz2 hx7.2 (by omega) (by omega);simpa using this
       have Bw:=hid hpr;clear hpr;by_cases hbig:z*x≤729
       ·have hg:decide (z*x>729)=false:=by simp;omega
        have HT:=hid (show z*x=DR (P.os.take (k+1))∧∀y∈P.os.take (k+1),CL y=true from by
         refine⟨by rw[dZ HX.out,hR.out.1],fun y hy=>?_⟩;rw[IJ,HX.out]at hy;rcases GY.1 hy with h|h
         ·exact hR.out.2 y h
         ·simp at h;rw[h];exact Bw.out)
        go_wp2_with (go_at_call 65;refine(Qw x _).mono ?_;rintro e w' ⟨rfl,rfl⟩;rw[Bw.out]);go_round;case rel=>exact⟨k+1,by omega,by go_num,z*x,rfl,b1,hbig,HT⟩
        case measure=>simp[intOf];omega
       ·have hg:decide (z*x>729)=true:=by simp;omega
        have HN:=hid (show¬Valid P from fun h=>hbig (by
         have h1:=AGv h.pr (k+1);rw[dZ HX.out,←hR.out.1]at h1;have:=h.le;omega))
        go_wp2_with (go_at_call 65;refine(Qw x _).mono ?_;rintro e w' ⟨rfl,rfl⟩;rw[Bw.out]);go_ret;exact FV HN.out HB.out
      ·have Bw:=hid (show CL x=false by simpa using hpr);have HN:=hid (show¬Valid P from fun h=>hpr (h.pr x (Ak HX.out)));clear hpr;go_wp2_with (go_at_call 65;refine(Qw x _).mono ?_;rintro e w' ⟨rfl,rfl⟩;rw[Bw.out]);go_ret;exact FV HN.out HB.out
     ·obtain rfl:k=P.os.length:=by omega
      have Bw:=hid (show(∀x∈P.os,CL x=true)∧DR P.os≤729 from by
       have h:=hR.out;rw[KC]at h;exact⟨h.2,by rw[←h.1];exact hz2⟩)
      have Eu:=hid (fun(i:Nat) (v:Value) (l:List Int) (hv:AL Any _ v l) (hi:i<P.os.length)=>AGo _ w.heap.size 0 i P v l IP.out hv Bw.out.1 hi h6);clear hR hlt hk;go_wp2_with fail;go_loop [50] (fun i=>∃k:Nat,k≤P.os.length∧i= .int .i64 (k:Int)∧Hid (∀j,j<k→(∀p,P.ps[j]?=some p→Cj P.os (j+1) p)∧∀c,P.cs[j]?=some c→c.length=P.os.length-1-j∧∀y∈c,Cj P.os (j+1) y)) (fun i=>P.os.length-(intOf i).toNat);case atStart=>exact⟨0,AU _,rfl,hid (fun j h=>absurd h (CO _))⟩
      case round=>
       obtain⟨i,hi,rfl,hR⟩:=hrel;by_cases hlt:i<P.os.length
       ·obtain⟨p,hp⟩:∃p,P.ps[i]?=some p:=⟨_,AO (by rw[H8.out];exact hlt)⟩;obtain⟨c,hc⟩:∃c,P.cs[i]?=some c:=⟨_,AO (by rw[Ec.out];exact hlt)⟩;obtain⟨bP,oP,rfl,_,FE,uP,tX,Et⟩:=HP.out i p hp;obtain⟨bC,oC,rfl,_,hbC,uC,jQ,xZ⟩:=HC.out i c hc;obtain⟨a2,c2,rfl,h21,h22,_,Zx⟩:=xZ;have m4:(c.length:Int)≤9223372036854775807:=by unfold maxLen at h22;omega
        have H22:=hid h22;have xe:=hid Zx;have GD:=hid (Et.keep Jd.out);have Ci:=hid hp;have DC:=hid hc;have hi2:i<P.ps.length:=by rw[H8.out];exact hlt
        have hi3:i<P.cs.length:=by rw[Ec.out];exact hlt
        have hd:decide ((i:Int)<(P.os.length:Int))=true:=by simp;omega
        clear hp hc Et h22 Zx;by_cases N8:Cj P.os (i+1) p
        ·have Jf:=hid N8;clear N8;by_cases hln:c.length=P.os.length-1-i
         ·have hlb:((c.length:Int) !=(P.os.length:Int)-1-(i:Int))=false:=by simp;omega
          have DV:=hid hln;clear hln;go_wp2_with (go_at_call 66;refine(Eu.out i _ p GD.out hlt).mono ?_;rintro e w' ⟨r,rfl,hr,rfl⟩;obtain rfl:r=true:=hr.2 Jf.out;clear hr);go_loop [80] (fun kv=>∃k:Nat,k≤c.length∧kv= .int .i64 (k:Int)∧Hid (∀j y,j<k→c[j]?=some y→Cj P.os (i+1) y)) (fun kv=>c.length-(intOf kv).toNat);case atStart=>exact⟨0,AU _,rfl,hid (fun j y h=>absurd h (CO _))⟩
          case round=>
           obtain⟨k,hk,rfl,hS⟩:=hrel;by_cases hkc:k<c.length
           ·obtain⟨y,hy⟩:∃y,c[k]?=some y:=⟨_,AO hkc⟩;obtain⟨b2,o2,rfl,_,hb2,uy,hcy,Fj⟩:=xe.out k y hy;have Gx:=hid (Fj.keep Jd.out);have HY:=hid hy;clear hy Fj;by_cases hty:Cj P.os (i+1) y
            ·have M7:=hid hty;clear hty;go_wp2_with (go_at_call 66;refine(Eu.out i _ y Gx.out hlt).mono ?_;rintro e w' ⟨r,rfl,hr,rfl⟩;obtain rfl:r=true:=hr.2 M7.out;clear hr);go_round;case rel=>exact⟨k+1,by omega,by go_num,hid (fun j z hj hz=>by
              rcases EB.1 hj with h|h
              ·exact hS.out j z h hz
              ·subst h;rw[HY.out]at hz;cases hz;exact M7.out)⟩
             case measure=>simp[intOf];omega
            ·have M7:=hid hty;have HN:=hid (show¬Valid P from fun h=>hty ((h.cv i c DC.out).2 y (Ak HY.out)));clear hty;go_wp2_with (go_at_call 66;refine(Eu.out i _ y Gx.out hlt).mono ?_;rintro e w' ⟨r,rfl,hr,rfl⟩;obtain rfl:r=false:=(by cases r;rfl;exact absurd (hr.1 rfl) M7.out);clear hr);go_ret;exact FV HN.out HB.out
           ·obtain rfl:k=c.length:=by omega
            have FH:=hid (show∀j,j<i+1→(∀p,P.ps[j]?=some p→Cj P.os (j+1) p)∧∀c,P.cs[j]?=some c→c.length=P.os.length-1-j∧∀y∈c,Cj P.os (j+1) y from fun j hj=>by
             rcases EB.1 hj with h|h
             ·exact hR.out j h
             ·subst h;refine⟨fun q hq=>?_,fun d hd=>?_⟩
              ·rw[Ci.out]at hq;cases hq;exact Jf.out
              ·rw[DC.out]at hd;cases hd;refine⟨DV.out,fun y hy=>?_⟩;obtain⟨t,ht,rfl⟩:=RJ hy;exact hS.out t _ ht (AO ht))
            go_wp2_with fail;go_round;case rel=>exact⟨i+1,by omega,by go_num,FH⟩
            case measure=>simp[intOf];omega
         ·have hlb:((c.length:Int) !=(P.os.length:Int)-1-(i:Int))=true:=by simp;omega
          have HN:=hid (show¬Valid P from fun h=>hln (h.cv i c DC.out).1);clear hln;go_wp2_with (go_at_call 66;refine(Eu.out i _ p GD.out hlt).mono ?_;rintro e w' ⟨r,rfl,hr,rfl⟩;obtain rfl:r=true:=hr.2 Jf.out;clear hr);go_ret;exact FV HN.out HB.out
        ·have Jf:=hid N8;have HN:=hid (show¬Valid P from fun h=>N8 (h.pv i p Ci.out));clear N8;go_wp2_with (go_at_call 66;refine(Eu.out i _ p GD.out hlt).mono ?_;rintro e w' ⟨r,rfl,hr,rfl⟩;obtain rfl:r=false:=(by cases r;rfl;exact absurd (hr.1 rfl) Jf.out);clear hr);go_ret;exact FV HN.out HB.out
       ·obtain rfl:i=P.os.length:=by omega
        have P8:=hid (show Valid P from⟨h6,H8.out,Ec.out,Bw.out.1,Bw.out.2,fun j p hp=>(hR.out j (by have:=(Ag.1 hp).1;rw[H8.out]at this;exact this)).1 p hp,fun j c hc=>(hR.out j (by have:=(Ag.1 hc).1;rw[Ec.out]at this;exact this)).2 c hc⟩);go_wp2_with fail;go_ret;exact VS P8.out HB.out
   ·have hc2:((P.cs.length:Int) !=(P.os.length:Int))=true:=by simp;omega
    have HN:=hid (show¬Valid P from fun h=>hcl h.cl);clear hcl hpl hO hP hC hV hW;go_enter Tryz.func31,Tryz.ntmps31;go_wp2_with fail;go_ret;exact FV HN.out HB.out
  ·have hp2:((P.ps.length:Int) !=(P.os.length:Int))=true:=by simp;omega
   have HN:=hid (show¬Valid P from fun h=>hpl h.pl);clear hpl hO hP hC hV hW;go_enter Tryz.func31,Tryz.ntmps31;go_wp2_with fail;go_ret;exact FV HN.out HB.out
 ·have hd6:decide ((P.os.length:Int)>6)=true:=by simp;omega
  have HN:=hid (show¬Valid P from fun h=>h6 h.n6);clear h6 hO hP hC hV hW;go_enter Tryz.func31,Tryz.ntmps31;go_wp2_with fail;go_ret;exact FV HN.out HB.out
end Go.Proofs.YtaadbccidfdniaaGreat.Ni
