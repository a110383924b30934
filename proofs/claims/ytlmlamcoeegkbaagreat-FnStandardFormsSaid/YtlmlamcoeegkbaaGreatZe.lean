import Derived.Test.YtlmlamcoeegkbaaGreatZ0
import Derived.Test.YtlmlamcoeegkbaaGreatZb
import Derived.Laws.AppendOwnNone
import Derived.Deep.RegionLaw
import Derived.Deep.AppendLies
/-
  Lemmas for the law FnStandardForms, in short spelling.
-/
open Go.Lib (hid)
set_option linter.unusedVariables false
set_option linter.unusedSimpArgs false
set_option maxRecDepth 100000
set_option maxHeartbeats 40000000
namespace Go.Proofs.YtlmlamcoeegkbaaGreat.DC
open Go.RowKit Go.Proofs.YtlmlamcoeegkbaaGreat AJ
theorem Ob {α:Type}{E:World→Value→α→Prop}{S:Nat→Prop}{w:World}{v:Value}{l:List α}(h:Bl E S w v l):∃a c,v= .slice a l.length c∧l.length≤c∧c≤maxLen:=by
 obtain⟨a,c,h1,h2,h3,_⟩:=h;exact⟨a,c,h1,h2,h3⟩
theorem Ej {α:Type}{E:World→Value→α→Prop}{S:Nat→Prop}{w:World}{a:Option Addr}{n c:Nat}{l:List α}(h:Bl E S w (.slice a n c) l){k:Nat}{x:α}(hx:l[k]?=some x):
  ∃b o u,a=some ⟨b,o,none⟩∧S b∧b<w.heap.size∧w.cell? ⟨b,o+k,none⟩=some u∧E w u x:=by
 obtain⟨ao,c',e,_,_,_,h4⟩:=h;obtain⟨rfl,_,_⟩:a=ao∧n=l.length∧c=c':=by simpa using e
 obtain⟨b,o,e1,e2,e3,u,e4,e5⟩:=h4 k x hx;exact⟨b,o,u,e1,e2,e3,e4,e5⟩
theorem D7 {w w':World}{o:Obj}{B g:Nat}(hb:Below B w w')(hg:g<B)(h:w.heap[g]?=some o):w'.heap[g]?=some o:=(hb.block g hg).trans h
theorem WR {w:World}{g:Nat}{a b c:Value}{t:TypeId}(h:w.heap[g]?=some (.cells #[a,b,c] t (0,0))):
  w.cell? ⟨g,0,none⟩=some a∧w.cell? ⟨g,1,none⟩=some b∧w.cell? ⟨g,2,none⟩=some c:=
 ⟨(Aq _ _ _ _ _ _ h).trans rfl,(Aq _ _ _ _ _ _ h).trans rfl,(Aq _ _ _ _ _ _ h).trans rfl⟩
end Go.Proofs.YtlmlamcoeegkbaaGreat.DC
namespace Go.Proofs.YtlmlamcoeegkbaaGreat.CY
open Go.RowKit Go.Proofs.YtlmlamcoeegkbaaGreat AJ DC
def GY (w:World)(g:Nat)(a:Option Addr)(len cap k s:Nat):Prop:=w.heap[g]?=some (.cells #[.slice a len cap,.int .i64 (k:Int),.int .i64 (s:Int)] 98 (0,0))
def Src (w:World)(g:Nat)(a:Option Addr)(len cap:Nat):Prop:=∃k s:Nat,GY w g a len cap k s∧k≤len∧s<2147483647∧len≤4096
def Rd (w:World)(g:Nat)(a:Option Addr)(len:Nat):Prop:=∀i,i<len→∃b o,∃z:Nat,a=some ⟨b,o,none⟩∧b≠g∧b<w.heap.size∧w.cell? ⟨b,o+i,none⟩=some (.int .u8 (z:Int))∧z<256
theorem Rd.keep {w w':World}{g:Nat}{a:Option Addr}{len:Nat}(h:Rd w g a len)(hk:AA (fun k=>k≠g) w w'):Rd w' g a len:=fun i hi=>by
 obtain⟨b,o,z,h1,h2,h3,h4,h5⟩:=h i hi;exact⟨b,o,z,h1,h2,Ad h3 hk.size,by rw[hk.cell h2 h3];exact h4,h5⟩
theorem Rd.grown {w w':World}{g:Nat}{a:Option Addr}{len:Nat}(h:Rd w g a len)(hg:w.grownBy w' (some g)):Rd w' g a len:=h.keep (AA.grown hg fun k hk e=>hk (by injection e))
theorem GY.set1 {w:World}{g:Nat}{a:Option Addr}{len cap k s:Nat}(h:GY w g a len cap k s)(k':Nat):GY (w.setCell ⟨g,1,none⟩ (.int .i64 (k':Int))) g a len cap k' s:=Ho w g 1 _ _ _ h
theorem GY.set2 {w:World}{g:Nat}{a:Option Addr}{len cap k s:Nat}(h:GY w g a len cap k s)(s':Nat):GY (w.setCell ⟨g,2,none⟩ (.int .i64 (s':Int))) g a len cap k s':=Ho w g 2 _ _ _ h
theorem GY.drew {w:World}{g:Nat}{a:Option Addr}{len cap k s:Nat}(h:GY w g a len cap k s):GY w.drew g a len cap k s:=h
theorem GY.cells {w:World}{g:Nat}{a:Option Addr}{len cap k s:Nat}(h:GY w g a len cap k s):(w.cell? ⟨g,0,none⟩=some (.slice a len cap)∧w.cell? ⟨g,1,none⟩=some (.int .i64 (k:Int))∧w.cell? ⟨g,2,none⟩=some (.int .i64 (s:Int)))∧
  w.frozen? ⟨g,1,none⟩=false∧w.frozen? ⟨g,2,none⟩=false∧g<w.heap.size:=⟨WR h,by simp[World.frozen?,show w.heap[g]?=_ from h],by simp[World.frozen?,show w.heap[g]?=_ from h],(BX.1 h).1⟩
theorem lQ {w w':World}{g i:Nat}(h:w.grownBy w' (some g))(u:Value):w.grownBy (w'.setCell ⟨g,i,none⟩ u) (some g):=
 ⟨h.os,h.tape,h.output,by simpa using h.size,fun k hk hne=>(DT w' ⟨g,i,none⟩ k u (fun e=>hne (by rw[e]))).trans (h.block k hk hne)⟩
theorem Ta (w:World)(row:Option Nat):w.grownBy w row:=⟨rfl,rfl,rfl,Ap _,fun _ _ _=>rfl⟩
theorem Tf {w w':World}{row:Option Nat}(h:w.grownBy w' row):w.grownBy w'.drew row:=⟨h.os,h.tape,h.output,h.size,h.block⟩
theorem UG {a b c:World}{row:Option Nat}(h1:a.grownBy b row)(h2:b.grownBy c row):a.grownBy c row:=
 ⟨h2.os.trans h1.os,h2.tape.trans h1.tape,h2.output.trans h1.output,Ab h1.size h2.size,fun k hk hr=>(h2.block k (Ad hk h1.size) hr).trans (h1.block k hk hr)⟩
def UH (n g:Nat)(a:Option Addr)(len cap:Nat)(w:World)(e:Ending)(w':World):Prop:=∃r:Nat,e= .returned (.int .i64 (r:Int))∧r<n∧Src w' g a len cap∧w.grownBy w' (some g)
theorem TY (x n:Nat):((x:Int)).tmod (n:Int)=((x%n:Nat):Int):=by rw[Z6 (by omega)];rfl
theorem kI (x n:Nat):((x:Int)).tdiv (n:Int)=((x/n:Nat):Int):=by rw[Int.tdiv_eq_ediv_of_nonneg (by omega)];rfl
theorem AAb (n:Nat)(h2:2≤n)(w:World)(g:Nat)(a:Option Addr)(len cap:Nat)(hS:Src w g a len cap)(hR:Rd w g a len):
  Calls Tryz.prog 52 #[.pointer (some ⟨g,0,none⟩),.int .i64 (n:Int)] w (UH n g a len cap w):=by
 obtain⟨k,s,hA,hk,hs,hl⟩:=hS;have HR:=hid hR;have gH:=hid h2;obtain⟨s2,hs2⟩:∃s2,(s*48271+71)%2147483647=s2:=⟨_,rfl⟩;have HS2:=hid (show s2<2147483647 by omega);obtain⟨q,hq⟩:∃q,s2/47=q:=⟨_,rfl⟩;have HQ:=hid (show q≤45691142 by omega);have hw1:IntKind.i64.wrap ((s:Int)*48271)=(s:Int)*48271:=AY _ (by omega);have hw2:IntKind.i64.wrap ((s:Int)*48271+71)=(s:Int)*48271+71:=AY _ (by omega);have hr1:((s:Int)*48271+71).tmod 2147483647=(s2:Int):=by
  have:=TY (s*48271+71) 2147483647;rw[hs2,Int.natCast_add,Int.natCast_mul]at this;exact this
 have hr2:((s2:Int)).tdiv 47=(q:Int):=by
  have:=kI s2 47;rw[hq]at this;exact this
 have hle:¬(n:Int)≤1:=by omega
 have hw3:IntKind.i64.wrap (s2:Int)=(s2:Int):=AY _ (by omega);have hw4:IntKind.i64.wrap (q:Int)=(q:Int):=AY _ (by omega);obtain⟨⟨c0,c1,c2⟩,f1,f2,hgl⟩:=hA.cells;have HA:=hid hA;have HL:=hid hl;have HK:=hid hk;clear hA hs hs2 hq hR h2 hl;go_enter Tryz.func52,Tryz.ntmps52;go_upto_region 4 with fail;obtain⟨wa,gJ⟩:∃wa,w.setCell ⟨g,2,none⟩ (.int .i64 (s2:Int))=wa:=⟨_,rfl⟩;simp only[gJ];have ABE:=hid (show GY wa g a len cap k s2 by rw[←gJ];exact HA.out.set2 s2);have AH0:=hid (show w.grownBy wa (some g) by rw[←gJ];exact lQ (Ta _ _) _);clear gJ c0 c1 c2 f1 f2 hgl hr1 hw1 hw2 hw3;obtain⟨⟨c0,c1,c2⟩,f1,f2,hgl⟩:=ABE.out.cells;go_wp2_with fail;go_region_held3 (fun w'=>(∀b o,b<wa.heap.size→w'.cell? ⟨b,o,none⟩=wa.cell? ⟨b,o,none⟩)∧AA (fun _=>True) wa w')
  (first|exact Aj (by repeat(first|exact AB.drew|exact AA.refl _ _)))
  (fail)
 rename_i hHd;clear hHd;obtain⟨wb,hwb⟩:∃wb,wa.drew=wb:=⟨_,rfl⟩;simp only[hwb];have mJ:=hid (show GY wb g a len cap k s2 by rw[←hwb];exact ABE.out.drew);have af:=hid (show w.grownBy wb (some g) by rw[←hwb];exact Tf AH0.out);clear hwb c0 c1 c2 f1 f2 hgl;obtain⟨⟨c0,c1,c2⟩,f1,f2,hgl⟩:=mJ.out.cells;have dL:=hid (show∀x:Nat,∃r:Nat,((x:Int)).tmod (n:Int)=(r:Int)∧r<n∧r≤x from fun x=>⟨x%n,TY x n,Nat.mod_lt _ (by have:=gH.out;omega),Nat.mod_le _ _⟩);have hn0:¬(n:Int)=0:=by have:=gH.out;omega
 by_cases hkl:k<len
 ·obtain⟨b,o,z,rfl,hbg,hbl,hcz,hz⟩:=HR.out.grown af.out k hkl;have hki:(k:Int)<(len:Int):=by omega
  have EP:(0:Int)≤(k:Int):=by omega
  have hwz:IntKind.i64.wrap ((q:Int)+(z:Int))=(q:Int)+(z:Int):=AY _ (by have:=HQ.out;omega);have hzw:IntKind.i64.wrap (z:Int)=(z:Int):=AY _ (by omega);have hwk:IntKind.i64.wrap ((k:Int)+1)=(k:Int)+1:=AY _ (by have:=HL.out;omega);go_wp2_with fail;go_region_held3 (fun w'=>(∀b o,b<wb.heap.size→w'.cell? ⟨b,o,none⟩=wb.cell? ⟨b,o,none⟩)∧AA (fun _=>True) wb w')
   (first|exact Aj (by repeat(first|exact AB.drew|exact AA.refl _ _)))
   (fail)
  rename_i hHd;clear hHd;obtain⟨wc,hwc⟩:∃wc,wb.drew=wc:=⟨_,rfl⟩;simp only[hwc];have ABF:=hid (show GY wc g (some ⟨b,o,none⟩) len cap k s2 by rw[←hwc];exact mJ.out.drew);have AH1:=hid (show w.grownBy wc (some g) by rw[←hwc];exact Tf af.out);clear hwc c0 c1 c2 f1 f2 hgl;obtain⟨⟨c0,c1,c2⟩,f1,f2,hgl⟩:=ABF.out.cells;go_upto_region 8 with fail;obtain⟨wd,hwd⟩:∃wd,wc.setCell ⟨g,1,none⟩ (.int .i64 ((k:Int)+1))=wd:=⟨_,rfl⟩;simp only[hwd];have WT:=hid (show GY wd g (some ⟨b,o,none⟩) len cap (k+1) s2 by rw[←hwd];exact ABF.out.set1 (k+1));have WU:=hid (show w.grownBy wd (some g) by rw[←hwd];exact lQ AH1.out _);have AJT:=(AA.grown WU.out (S:=fun k=>k≠g) (fun k hk e=>hk (by injection e))).cell (b:=b) (o:=o+k) hbg (by
   obtain⟨b',o',z',e,_,h3,_⟩:=HR.out k hkl;simp only[EN,IU]at e;rw[e.1];exact h3)
  have ACS:w.cell? ⟨b,o+k,none⟩=some (.int .u8 (z:Int)):=by
   obtain⟨b',o',z',e,_,h3,h4,_⟩:=HR.out k hkl;simp only[EN,IU,and_true]at e;obtain⟨rfl,rfl⟩:=e;have:=(AA.grown af.out (S:=fun k=>k≠g) (fun k hk e=>hk (by injection e))).cell (b:=b) (o:=o+k) hbg h3;rw[←this];exact hcz
  rw[ACS]at AJT;have ALa:b<wd.heap.size:=by
   obtain⟨b',o',z',e,_,h3,_⟩:=HR.out k hkl;simp only[EN,IU]at e;rw[e.1];exact Ad h3 WU.out.size
  obtain⟨k1,hk1⟩:∃k1,k+1=k1:=⟨_,rfl⟩;rw[hk1]at WT;have Lh:=hid (show k1=k+1∧k<len by omega);have hsub:IntKind.i64.wrap ((k1:Int)-1)=(k:Int):=by rw[AY _ (by have:=HL.out;omega)];omega
  clear hwd c0 c1 c2 f1 f2 hgl hcz hbl hwk ACS hk1;obtain⟨⟨c0,c1,c2⟩,f1,f2,hgl⟩:=WT.out.cells;obtain⟨p,hp⟩:∃p,k1%2=p:=⟨_,rfl⟩;have hpm:((k1:Int)).tmod 2=(p:Int):=by
   have:=TY k1 2;rw[hp]at this;exact this
  have hwp:IntKind.i64.wrap (p:Int)=(p:Int):=AY _ (by omega);clear hp;by_cases ALb:n≤256
  ·have AH2:(n:Int)≤256:=by omega
   by_cases hp0:p=0
   ·subst hp0;go_wp2_with fail;go_region_held3 (fun w'=>(∀b o,b<wd.heap.size→w'.cell? ⟨b,o,none⟩=wd.cell? ⟨b,o,none⟩)∧AA (fun _=>True) wd w')
     (first|exact Aj (by repeat(first|exact AB.drew|exact AA.refl _ _)))
     (fail)
    rename_i hHd;clear hHd;obtain⟨we,gK⟩:∃we,wd.drew=we:=⟨_,rfl⟩;simp only[gK];have ABG:=hid (show GY we g (some ⟨b,o,none⟩) len cap k1 s2 by rw[←gK];exact WT.out.drew);have AH3:=hid (show w.grownBy we (some g) by rw[←gK];exact Tf WU.out);clear gK c0 c1 c2 f1 f2 hgl;obtain⟨⟨c0,c1,c2⟩,f1,f2,hgl⟩:=ABG.out.cells;obtain⟨r,hr,hrn,hrx⟩:=dL.out (z)
    skip
    have hwr:IntKind.i64.wrap (r:Int)=(r:Int):=AY _ (by have:=HQ.out;omega);have HRR:=hid (show UH n g (some ⟨b,o,none⟩) len cap w (.returned (.int .i64 (r:Int))) we from⟨r,rfl,hrn,⟨k1,s2,ABG.out,by have:=Lh.out;omega,HS2.out,HL.out⟩,AH3.out⟩);clear hrn hrx;go_wp2_with fail;go_ret;exact HRR.out
   ·have hpi:((p:Int)==0)=false:=by simp;omega
    obtain⟨r,hr,hrn,hrx⟩:=dL.out (q+z);rw[Int.natCast_add]at hr;have hwr:IntKind.i64.wrap (r:Int)=(r:Int):=AY _ (by have:=HQ.out;omega);have HRR:=hid (show UH n g (some ⟨b,o,none⟩) len cap w (.returned (.int .i64 (r:Int))) wd from⟨r,rfl,hrn,⟨k1,s2,WT.out,by have:=Lh.out;omega,HS2.out,HL.out⟩,WU.out⟩);clear hrn hrx;go_wp2_with fail;go_ret;exact HRR.out
  ·have AH2:¬(n:Int)≤256:=by omega
   obtain⟨r,hr,hrn,hrx⟩:=dL.out (q+z);rw[Int.natCast_add]at hr;have hwr:IntKind.i64.wrap (r:Int)=(r:Int):=AY _ (by have:=HQ.out;omega);have HRR:=hid (show UH n g (some ⟨b,o,none⟩) len cap w (.returned (.int .i64 (r:Int))) wd from⟨r,rfl,hrn,⟨k1,s2,WT.out,by have:=Lh.out;omega,HS2.out,HL.out⟩,WU.out⟩);clear hrn hrx;go_wp2_with fail;go_ret;exact HRR.out
 ·have hki:¬(k:Int)<(len:Int):=by omega
  obtain⟨r,hr,hrn,hrx⟩:=dL.out q;have hwr:IntKind.i64.wrap (r:Int)=(r:Int):=AY _ (by have:=HQ.out;omega);have HRR:=hid (show UH n g a len cap w (.returned (.int .i64 (r:Int))) wb from⟨r,rfl,hrn,⟨k,s2,mJ.out,hk,HS2.out,HL.out⟩,af.out⟩);clear hrn hrx;go_wp2_with fail;go_ret;exact HRR.out
theorem ZP (n:Nat)(h2:2≤n)(hn:n≤1000000)(w:World)(g:Nat)(a:Option Addr)(len cap:Nat)(hS:Src w g a len cap)(hR:Rd w g a len):
  Calls Tryz.prog 52 #[.pointer (some ⟨g,0,none⟩),.int .i64 (n:Int)] w (UH n g a len cap w):=AAb n h2 w g a len cap hS hR
theorem Src.lt {w:World}{g:Nat}{a:Option Addr}{len cap:Nat}(h:Src w g a len cap):g<w.heap.size:=by
 obtain⟨k,s,h1,_⟩:=h;exact(BX.1 h1).1
end Go.Proofs.YtlmlamcoeegkbaaGreat.CY
namespace Go.Proofs.YtlmlamcoeegkbaaGreat.DV
open Go.RowKit Go.Proofs.YtlmlamcoeegkbaaGreat AJ DC CY
def SN (w:World)(a:Option Addr)(len:Nat):Prop:=∀i,i<len→∃b o,∃z:Nat,a=some ⟨b,o,none⟩∧b<w.heap.size∧w.cell? ⟨b,o+i,none⟩=some (.int .u8 (z:Int))∧z<256
theorem SN.rd {w w':World}{a:Option Addr}{len g:Nat}(h:SN w a len)(hb:Below w.heap.size w w')(hg:w.heap.size≤g):Rd w' g a len:=fun i hi=>by
 obtain⟨b,o,z,h1,h3,h4,h5⟩:=h i hi;exact⟨b,o,z,h1,by omega,Ad h3 hb.size,by rw[(AA.of_below (S:=fun _=>True) hb).cell trivial h3];exact h4,h5⟩
def WV (a:Option Addr)(len cap:Nat)(w:World)(e:Ending)(w':World):Prop:=∃g,e= .returned (.pointer (some ⟨g,0,none⟩))∧w.heap.size≤g∧Src w' g a len cap∧Below w.heap.size w w'
theorem Vm (w:World)(a:Option Addr)(len cap:Nat)(hl:len≤4096)(hR:SN w a len):Calls Tryz.prog 31 #[.slice a len cap] w (WV a len cap w):=by
 have HR:=hid hR;obtain⟨g,hg⟩:∃g,w.heap.size=g:=⟨_,rfl⟩;obtain⟨w1,hw1⟩:∃w1,w1=w.alloc (.cells #[.slice a len cap,.int .i64 0,.int .i64 76001] 98):=⟨_,rfl⟩;have HA:=hid (show GY w1 g a len cap 0 76001 by rw[hw1,←hg];exact Av _ _);have HB:=hid (show Below w.heap.size w w1 by rw[hw1];exact AR.alloc AQ _);have HL:=hid hl;have Jr:=hid hg;have hl63:(len:Int)≤9223372036854775807:=by omega
 clear hR hg;go_enter Tryz.func31,Tryz.ntmps31;go_upto_region 2 with fail;rw[←hw1];rw[Jr.out];clear hw1;go_wp2_with fail;go_loopw [4] (fun iv wr=>∃i s:Nat,i≤len∧iv= .int .i64 (i:Int)∧Hid (GY wr g a len cap 0 s)∧Hid (s<2147483647)∧Hid (Below w.heap.size w wr)) (fun iv _=>len-(intOf iv).toNat);case atStart=>exact⟨0,76001,AU _,rfl,HA,hid (by decide),HB⟩
 case round=>
  obtain⟨i,s,hi,rfl,hA,hs,hB⟩:=hrel;by_cases hlt:i<len
  ·have hii:(i:Int)<(len:Int):=by omega
   have ALc:(0:Int)≤(i:Int):=by omega
   by_cases h64:i<64
   ·have AJU:(i:Int)<64:=by omega
    obtain⟨⟨c0,c1,c2⟩,f1,f2,hgl⟩:=hA.out.cells;obtain⟨b,o,z,rfl,hbl,hcz,hz⟩:=HR.out i hlt;have ALd:=((AA.of_below (S:=fun _=>True) hB.out).cell (b:=b) (o:=o+i) trivial hbl).trans hcz;have ACT:=Ad hbl hB.out.size;obtain⟨s2,hs2⟩:∃s2,(s*71+z)%2147483647=s2:=⟨_,rfl⟩;have HS2:=hid (show s2<2147483647 by omega);have hr1:((s:Int)*71+(z:Int)).tmod 2147483647=(s2:Int):=by
     have:=TY (s*71+z) 2147483647;rw[hs2,Int.natCast_add,Int.natCast_mul]at this;exact this
    have hw1:IntKind.i64.wrap ((s:Int)*71)=(s:Int)*71:=AY _ (by have:=hs.out;omega);have hw2:IntKind.i64.wrap ((s:Int)*71+(z:Int))=(s:Int)*71+(z:Int):=AY _ (by have:=hs.out;omega);have hw3:IntKind.i64.wrap (s2:Int)=(s2:Int):=AY _ (by omega);have hw4:IntKind.i64.wrap (z:Int)=(z:Int):=AY _ (by omega);have Uz:=hid (show GY ((wr.setCell ⟨g,2,none⟩ (.int .i64 (s2:Int))).drew) g (some ⟨b,o,none⟩) len cap 0 s2 from(hA.out.set2 s2).drew);have uE:=hid (show Below w.heap.size w ((wr.setCell ⟨g,2,none⟩ (.int .i64 (s2:Int))).drew) from(hB.out.setCell (p:=⟨g,2,none⟩) (by rw[Jr.out];exact Ap _) _).drew);clear hcz hbl hs2 hA hB hz;go_wp2_with fail;go_region_law (fail);all_goals
     go_wp2_with fail;go_roundw;case rel=>exact⟨i+1,s2,by omega,by go_num,Uz,HS2,uE⟩
     case measure=>simp[intOf]<;>omega
   ·have AJU:¬(i:Int)<64:=by omega
    have HRR:=hid (show WV a len cap w (.returned (.pointer (some ⟨g,0,none⟩))) wr from⟨g,rfl,by rw[Jr.out];exact Ap _,⟨0,s,hA.out,AU _,hs.out,HL.out⟩,hB.out⟩);clear hA hB hs;go_wp2_with fail;go_ret;exact HRR.out
  ·obtain rfl:i=len:=by omega
   have HRR:=hid (show WV a i cap w (.returned (.pointer (some ⟨g,0,none⟩))) wr from⟨g,rfl,by rw[Jr.out];exact Ap _,⟨0,s,hA.out,AU _,hs.out,HL.out⟩,hB.out⟩);clear hA hB hs hlt;go_wp2_with fail;go_ret;exact HRR.out
def ABH (L:List Int)(g:Nat)(a:Option Addr)(len cap:Nat)(w:World)(e:Ending)(w':World):Prop:=∃x:Int,x∈L∧e= .returned (.int .i64 x)∧Src w' g a len cap∧w.grownBy w' (some g)
theorem y8 (L:List Int)(m:Nat)(hm:L.length=m)(hm2:2≤m)(U7:m≤12)(w:World)(B g:Nat)(a:Option Addr)(len cap:Nat)(hB:AL (fun k=>k≠g) w (.slice (some ⟨B,0,none⟩) m m) L)(hS:Src w g a len cap)(hR:Rd w g a len):
  Calls Tryz.prog 74 #[.pointer (some ⟨g,0,none⟩),.slice (some ⟨B,0,none⟩) m m] w (ABH L g a len cap w):=by
 have HC:=hid (ZP m hm2 (by omega) w g a len cap hS hR);have HB:=hid hB;have HM:=hid hm;clear hS hR hB hm;go_enter Tryz.func74,Tryz.ntmps74;go_wp2_with fail;refine HC.out.mono ?_;rintro e w1 ⟨r,rfl,hr,hS1,hg1⟩;obtain⟨x,hx⟩:∃x,L[r]?=some x:=⟨_,AP (by rw[HM.out];exact hr)⟩;obtain⟨b',o',u,he,_,hbl,JQ,rfl⟩:=Ej (HB.out.keep (AA.grown hg1 fun k hk e=>hk (by injection e))) hx;obtain⟨rfl,rfl⟩:B=b'∧0=o':=by simpa using he
 rw[D5]at JQ;have Qe:(r:Int)<(m:Int):=by omega
 have ALe:(0:Int)≤(r:Int):=by omega
 have HR:=hid (show ABH L g a len cap w (.returned (.int .i64 x)) w1 from⟨x,Ar hx,rfl,hS1,hg1⟩);clear hS1 hg1 hx HC he;go_wp2_with fail;go_ret;exact HR.out
theorem AAc {w:World}{L:List Int}{g:Nat}(hg:g<w.heap.size)(hl:L.length≤100):AL (fun k=>k≠g) (w.alloc (.cells (L.map (Value.int .i64)).toArray 2)) (.slice (some ⟨w.heap.size,0,none⟩) L.length L.length) L:=by
 refine⟨_,L.length,rfl,Ap _,by unfold maxLen;omega,by simp,fun i x hx=>⟨w.heap.size,0,rfl,by omega,by simp,.int .i64 x,?_,rfl⟩⟩;rw[Aq _ _ _ _ _ (0,0) (Av _ _),D5];simp[hx]
theorem kJ (w:World)(o:Obj)(row:Option Nat):w.grownBy (w.alloc o) row:=⟨rfl,rfl,rfl,by simp,fun k hk _=>EO w o k hk⟩
end Go.Proofs.YtlmlamcoeegkbaaGreat.DV
namespace Go.Proofs.YtlmlamcoeegkbaaGreat.DD
open Go.RowKit Go.Proofs.YtlmlamcoeegkbaaGreat AJ
def R1 (B:Nat)(w:World)(n:Nat)(v:Value):Prop:=∃l:List Int,l.length=n∧w.ownsRow B 2 1 v n (vals l)
def R2 (B:Nat)(w:World)(L:List Nat)(v:Value):Prop:=∃us:List Value,w.ownsRow B 24 1 v L.length us∧∀(i n:Nat),L[i]?=some n→∃u,us[i]?=some u∧R1 B w n u
def R3 (B:Nat)(w:World)(M:List (List Nat))(v:Value):Prop:=∃us:List Value,w.ownsRow B 25 1 v M.length us∧∀(i:Nat) (L:List Nat),M[i]?=some L→∃u,us[i]?=some u∧R2 B w L u
structure Ty (B:Nat)(w w':World):Prop where
 one:∀n v,R1 B w n v→R1 B w' n v
 two:∀L v,R2 B w L v→R2 B w' L v
 three:∀M v,R3 B w M v→R3 B w' M v
theorem Ty.trans {B:Nat}{a b c:World}(h:Ty B a b)(g:Ty B b c):Ty B a c:=⟨fun n v x=>g.one n v (h.one n v x),fun n v x=>g.two n v (h.two n v x),fun n v x=>g.three n v (h.three n v x)⟩
theorem Ty.gM {B:Nat}{w w':World}
  (h1:∀n v,R1 B w n v→R1 B w' n v)
  (h2:∀(L:List Nat) (v:Value) us,w.ownsRow B 24 1 v L.length us→(∀(i n:Nat),L[i]?=some n→∃u,us[i]?=some u∧R1 B w n u)→∃us',w'.ownsRow B 24 1 v L.length us'∧∀(i n:Nat),L[i]?=some n→∃u,us'[i]?=some u∧R1 B w' n u)
  (h3:∀(M:List (List Nat)) (v:Value) us,w.ownsRow B 25 1 v M.length us→(∀(i:Nat) (L:List Nat),M[i]?=some L→∃u,us[i]?=some u∧R2 B w L u)→(∀L v,R2 B w L v→R2 B w' L v)→∃us',w'.ownsRow B 25 1 v M.length us'∧∀(i:Nat) (L:List Nat),M[i]?=some L→∃u,us'[i]?=some u∧R2 B w' L u):Ty B w w':=by
 have h2':∀L v,R2 B w L v→R2 B w' L v:=fun L v ⟨us,a,b⟩=>h2 L v us a b;exact⟨h1,h2',fun M v ⟨us,a,b⟩=>h3 M v us a b h2'⟩
theorem Ty.keep {B:Nat}{w w':World}{S:Nat→Prop}(hk:AA S w w')(hS:∀k,B≤k→S k):Ty B w w':=by
 have h1:∀n v,R1 B w n v→R1 B w' n v:=fun n v ⟨l,a,b⟩=>⟨l,a,BM b hk hS⟩;refine Ty.gM h1 (fun L v us a b=>⟨us,BM a hk hS,fun i n hi=>?_⟩) (fun M v us a b h2=>⟨us,BM a hk hS,fun i L hi=>?_⟩)
 ·obtain⟨u,e1,e2⟩:=b i n hi;exact⟨u,e1,h1 _ _ e2⟩
 ·obtain⟨u,e1,e2⟩:=b i L hi;exact⟨u,e1,h2 _ _ e2⟩
theorem Ty.below {B:Nat}{w w':World}(hb:Below w.heap.size w w'):Ty B w w':=Ty.keep (S:=fun _=>True) (AA.of_below hb) (fun _ _=>trivial)
theorem I4 {B b i n:Nat}{e t:TypeId}{w:World}{v c:Value}{xs:List Value}{cur:Array Value}(h:w.ownsRow B e 1 v n xs)(hb:w.heap[b]?=some (.cells cur t (0,0)))(hne:e≠t):(w.setCell ⟨b,i,none⟩ c).ownsRow B e 1 v n xs:=by
 refine⟨h.1,?_⟩;rcases h.2 with h'|⟨g,cap,cu,h',hB,hg,h3⟩
 ·exact .inl h'
 ·refine .inr ⟨g,cap,cu,h',hB,?_,h3⟩;rw[DT w ⟨b,i,none⟩ g c ?_]
  ·exact hg
  ·intro e1;have e2:g=b:=e1;subst e2;rw[hg]at hb;injection hb with hb;injection hb with _ hb _;exact hne hb
theorem ZH {B b i n:Nat}{e:TypeId}{w:World}{v c:Value}{xs:List Value}(h:w.ownsRow B e 1 v n xs):∃xs',(w.setCell ⟨b,i,none⟩ c).ownsRow B e 1 v n xs'∧∀(j:Nat) u,xs[j]?=some u→xs'[j]?=some u∨(v.ownBlock=some b∧j=i∧xs'[j]?=some c):=by
 rcases h.2 with⟨rfl,h0⟩|⟨g,cap,cu,rfl,hB,hg,h3⟩
 ·exact⟨xs,⟨h.1,.inl ⟨rfl,h0⟩⟩,fun j u hu=>.inl hu⟩
 ·by_cases e:g=b
  ·subst e;refine⟨xs.set i c,(Py h i c).1,fun j u hu=>?_⟩;by_cases hj:j=i
   ·subst hj;right;refine⟨rfl,rfl,?_⟩;have:=(Ak.1 hu).1;rw[Oz this]
   ·left;rw[Pz (fun h=>hj h.symm)];exact hu
  ·refine⟨xs,⟨h.1,.inr ⟨g,cap,cu,rfl,hB,?_,h3⟩⟩,fun j u hu=>.inl hu⟩;rw[DT w ⟨b,i,none⟩ g c e];exact hg
theorem AFg:∀(xs:List Value),(∀u∈xs,∃x:Int,u= .int .i64 x)→∃l:List Int,xs=vals l:=by
 intro xs
 induction xs with
 |nil=>exact fun _=>⟨[],rfl⟩
 |cons a t ih=>
  intro h;obtain⟨x,hx⟩:=h a (CE ..);obtain⟨l,hl⟩:=ih fun u hu=>h u (Ca _ hu);exact⟨x::l,by rw[hx,hl];rfl⟩
theorem R1.AHW {B n:Nat}{w:World}{v:Value}{xs:List Value}(h:w.ownsRow B 2 1 v n xs)(ha:∀(j:Nat) u,xs[j]?=some u→∃x:Int,u= .int .i64 x):R1 B w n v:=by
 obtain⟨l,rfl⟩:=AFg xs fun u hu=>by
  obtain⟨j,hj⟩:=IP hu;exact ha j u hj
 exact⟨l,by have:=h.1;simpa using this,h⟩
theorem Ty.set1 {B b i:Nat}{w:World}{cur:Array Value}(hb:w.heap[b]?=some (.cells cur 2 (0,0)))(x:Int):Ty B w (w.setCell ⟨b,i,none⟩ (.int .i64 x)):=by
 have h1:∀n v,R1 B w n v→R1 B (w.setCell ⟨b,i,none⟩ (.int .i64 x)) n v:=by
  intro n v ⟨l,a,h⟩;obtain⟨xs',e1,e2⟩:=ZH (b:=b) (i:=i) (c:=.int .i64 x) h;refine R1.AHW e1 fun j u hu=>?_;have hj:j<(vals l).length:=by
   have h3:=(Ak.1 hu).1;have h4:=h.1;have h5:=e1.1;omega
  rcases e2 j _ (AP hj)with h6|h6
  ·rw[hu]at h6;injection h6 with h6;exact⟨l[j]'(by simpa using hj),by rw[h6];simp⟩
  ·rw[hu]at h6;exact⟨x,by have:=h6.2.2;injection this⟩
 refine Ty.gM h1 (fun L v us a c=>⟨us,I4 a hb (by decide),fun k n hk=>?_⟩) (fun M v us a c h2=>⟨us,I4 a hb (by decide),fun k L hk=>?_⟩)
 ·obtain⟨u,e1,e2⟩:=c k n hk;exact⟨u,e1,h1 _ _ e2⟩
 ·obtain⟨u,e1,e2⟩:=c k L hk;exact⟨u,e1,h2 _ _ e2⟩
theorem R1.len {B n:Nat}{w:World}{v:Value}(h:R1 B w n v):∃a c,v= .slice a n c∧n≤c∧c≤maxLen:=by
 obtain⟨l,_,h2⟩:=h;rcases h2.2 with⟨rfl,h0⟩|⟨g,cap,cu,rfl,_,_,h3,h4,_⟩
 ·exact⟨none,0,by rw[h0],by omega,by simp[maxLen]⟩
 ·exact⟨_,cap,rfl,h3,h4⟩
theorem R1.same {B B' n m:Nat}{w w':World}{v:Value}(h:R1 B w n v)(g:R1 B' w' m v):n=m:=by
 obtain⟨a,c,e,_⟩:=h.len;obtain⟨a',c',e',_⟩:=g.len;rw[e]at e';injection e'
theorem Ty.set2 {B b i n:Nat}{w:World}{cur:Array Value}{u0 u:Value}(hb:w.heap[b]?=some (.cells cur 24 (0,0)))(h0:cur[i]?=some u0)(hu0:R1 B w n u0)(hu:R1 B w n u):Ty B w (w.setCell ⟨b,i,none⟩ u):=by
 have h1:∀n v,R1 B w n v→R1 B (w.setCell ⟨b,i,none⟩ u) n v:=fun n v ⟨l,a,h⟩=>⟨l,a,I4 h hb (by decide)⟩;refine Ty.gM h1 (fun L v us a c=>?_) (fun M v us a c h2=>⟨us,I4 a hb (by decide),fun k L hk=>?_⟩)
 ·obtain⟨us',e1,e2⟩:=ZH (b:=b) (i:=i) (c:=u) a;refine⟨us',e1,fun k m hk=>?_⟩;obtain⟨x,f1,f2⟩:=c k m hk;rcases e2 k x f1 with h6|⟨h6,rfl,h7⟩
  ·exact⟨x,h6,h1 _ _ f2⟩
  ·refine⟨u,h7,h1 _ _ ?_⟩;have hx:x=u0:=by
    rcases a.2 with⟨rfl,h8⟩|⟨g,cap,cu,rfl,hB,hg,_,_,_,ht⟩
    ·cases h6
    ·have e:g=b:=by simpa[Value.ownBlock]using h6
     subst e;rw[hg]at hb;injection hb with hb;injection hb with hb _ _;rw[←ht,MQ]at f1;split at f1
     ·rw[←hb]at h0;rw[Oq,h0]at f1;injection f1 with f1;exact f1.symm
     ·cases f1
   rw[hx]at f2;rw[f2.same hu0];exact hu
 ·obtain⟨x,e1,e2⟩:=c k L hk;exact⟨x,e1,h2 _ _ e2⟩
theorem R1.sl {B n:Nat}{w:World}{v:Value}(h:R1 B w n v):∃l:List Int,l.length=n∧AL (fun k=>B≤k) w v l:=by
 obtain⟨l,h1,h2⟩:=h;subst h1;exact⟨l,rfl,Own.sl h2⟩
theorem R1.AAd {B:Nat}{w:World}{v:Value}{x:List Int}(h:Own B w v x):R1 B w x.length v:=⟨x,rfl,h⟩
theorem R1.mono {B B' n:Nat}{w:World}{v:Value}(h:R1 B w n v)(hB:B'≤B):R1 B' w n v:=by
 obtain⟨l,h1,h2⟩:=h;exact⟨l,h1,EX h2 hB⟩
theorem R2.mono {B B':Nat}{L:List Nat}{w:World}{v:Value}(h:R2 B w L v)(hB:B'≤B):R2 B' w L v:=by
 obtain⟨us,h1,h2⟩:=h;refine⟨us,EX h1 hB,fun i n hi=>?_⟩;obtain⟨u,e1,e2⟩:=h2 i n hi;exact⟨u,e1,e2.mono hB⟩
theorem R3.mono {B B':Nat}{M:List (List Nat)}{w:World}{v:Value}(h:R3 B w M v)(hB:B'≤B):R3 B' w M v:=by
 obtain⟨us,h1,h2⟩:=h;refine⟨us,EX h1 hB,fun i n hi=>?_⟩;obtain⟨u,e1,e2⟩:=h2 i n hi;exact⟨u,e1,e2.mono hB⟩
theorem R1.grown {B n:Nat}{w w':World}{v:Value}{r:Option Nat}(h:R1 B w n v)(hg:w.grownBy w' r)(hr:v.ownBlock=none∨v.ownBlock≠r):R1 B w' n v:=by
 obtain⟨l,h1,h2⟩:=h;exact⟨l,h1,Nr h2 hg hr⟩
theorem R1.other {B n b i:Nat}{w:World}{v c:Value}{t:TypeId}{cur:Array Value}(h:R1 B w n v)(hb:w.heap[b]?=some (.cells cur t (0,0)))(ht:t≠2):R1 B (w.setCell ⟨b,i,none⟩ c) n v:=by
 obtain⟨l,h1,h2⟩:=h;exact⟨l,h1,I4 h2 hb (fun e=>ht e.symm)⟩
theorem R1.apart {B B' n m:Nat}{e:TypeId}{w:World}{v u:Value}{xs:List Value}(h:R1 B w n v)(hu:w.ownsRow B' e 1 u m xs)(he:2≠e):v.ownBlock=none∨v.ownBlock≠u.ownBlock:=by
 obtain⟨l,h1,h2⟩:=h;exact JY h2 hu he
theorem R2.grown {B B' m:Nat}{e:TypeId}{L:List Nat}{w w':World}{v u:Value}{xs:List Value}(h:R2 B w L v)(hu:w.ownsRow B' e 1 u m xs)(he:2≠e)(hg:w.grownBy w' u.ownBlock)(hr:v.ownBlock=none∨v.ownBlock≠u.ownBlock):R2 B w' L v:=by
 obtain⟨us,h1,h2⟩:=h;refine⟨us,Nr h1 hg hr,fun i n hi=>?_⟩;obtain⟨x,e1,e2⟩:=h2 i n hi;exact⟨x,e1,e2.grown hg (e2.apart hu he)⟩
theorem R2.other {B b i:Nat}{L:List Nat}{w:World}{v c:Value}{t:TypeId}{cur:Array Value}(h:R2 B w L v)(hb:w.heap[b]?=some (.cells cur t (0,0)))(ht:t≠2)(ht2:t≠24):R2 B (w.setCell ⟨b,i,none⟩ c) L v:=by
 obtain⟨us,h1,h2⟩:=h;refine⟨us,I4 h1 hb (fun e=>ht2 e.symm),fun i n hi=>?_⟩;obtain⟨x,e1,e2⟩:=h2 i n hi;exact⟨x,e1,e2.other hb ht⟩
theorem R2.AGg {B n:Nat}{w:World}{v:Value}{rows:List (List Nat)}(h:Own2 24 2 B w v rows)(hr:∀r∈rows,r.length=n):R2 B w (List.replicate rows.length n) v:=by
 obtain⟨us,h1,h2,h3⟩:=h;refine⟨us,by rw[Cf];exact h1,fun i m hi=>?_⟩;rw[Nl]at hi;split at hi
 ·injection hi with hi;subst hi;rename_i hlt;have hu:us[i]?=some (us[i]'(by omega)):=AP _;refine⟨_,hu,?_⟩;have h4:=(h3 i _ _ (AP hlt) hu).2;exact⟨ints rows[i],by rw[A7];exact hr _ (Je _),by rw[hr _ (Je _)]at h4;exact h4⟩
 ·cases hi
end Go.Proofs.YtlmlamcoeegkbaaGreat.DD
namespace Go.Proofs.YtlmlamcoeegkbaaGreat.Bv
open Go.RowKit Go.Proofs.YtlmlamcoeegkbaaGreat AJ DC CY DV DD
abbrev Any:Nat→Prop:=fun _=>True
abbrev Ez (n b:Nat):Value:=.slice (some ⟨b,0,none⟩) n n
theorem NF (n:Nat)(hn:n≤100)(w:World):(Instr.makeSlice 24 (.int .i64 (n:Int)) (.int .i64 (n:Int))).run Tryz.prog w= .ok (.slice (some ⟨w.heap.size,0,none⟩) n n) (w.alloc (.cells (madeCells #[.int .i64 0] n) 2)):=
 run_make_row' (P:=Tryz.prog) 24 2 (.int .i64 0) 8 Tryz.underlying24 Fa rfl .i64 .i64 n (by omega) (by omega) w
theorem V4:(Tryz.prog.info? 25).map (fun i=>(i.zero,i.size,i.bytes))=some (some (.slice none 0 0),1,24):=by kernel_rfl
theorem AO {w:World}{g:Nat}{a b c:Value}{t:TypeId}(h:w.heap[g]?=some (.cells #[a,b,c] t (0,0))):
  (w.cell? ⟨g,0,none⟩=some a∧w.cell? ⟨g,1,none⟩=some b∧w.cell? ⟨g,2,none⟩=some c)∧w.frozen? ⟨g,0,none⟩=false∧w.frozen? ⟨g,1,none⟩=false∧w.frozen? ⟨g,2,none⟩=false:=by
 exact⟨WR h,BP _ _ _ _ _ h,BP _ _ _ _ _ h,BP _ _ _ _ _ h⟩
theorem new2 (W:World)(o1 o2:Obj):((W.alloc o1).alloc o2).heap[W.heap.size+1]?=some o2:=by
 have h:=Av (W.alloc o1) o2;rwa[show(W.alloc o1).heap.size=W.heap.size+1 by simp]at h
theorem dM {W:World}{o1 o2 o:Obj}{k:Nat}(h:W.heap[k]?=some o):((W.alloc o1).alloc o2).heap[k]?=some o:=by
 have hk:=(BX.1 h).1;rw[EO _ _ k (by simp;omega),EO _ _ k hk,h]
theorem BL {W:World}{g:Nat}{a b c x y z:Value}{t:TypeId}(h:W.heap[g]?=some (.cells #[a,b,c] t (0,0))):
  (((W.setCell ⟨g,0,none⟩ x).setCell ⟨g,1,none⟩ y).setCell ⟨g,2,none⟩ z).heap[g]?=some (.cells #[x,y,z] t (0,0)):=by
 have hl:=(BX.1 h).1;simp[World.setCell,Array.getElem?_modify,h]
theorem FI {B n s:Nat}{e:TypeId}{w:World}{v:Value}{xs:List Value}(h:w.ownsRow B e s v n xs):∃a c,v= .slice a n c:=by
 rcases h.2 with⟨rfl,hn⟩|⟨g,cap,cur,rfl,_⟩
 ·exact⟨none,0,by rw[hn]⟩
 ·exact⟨_,cap,rfl⟩
theorem Oe {w:World}{B g:Nat}{e t:TypeId}{s n:Nat}{v:Value}{xs:List Value}{cs:Array Value}(h:w.ownsRow B e s v n xs)(hb:w.heap[g]?=some (.cells cs t (0,0)))(hne:e≠t):v.ownBlock≠some g:=fun he=>by
 rcases h.2 with⟨h0,_⟩|⟨g',cap,cur,h0,_,hgg,_⟩
 ·rw[h0]at he;simp[Value.ownBlock]at he
 ·rw[h0]at he;have he:g'=g:=by simpa[Value.ownBlock]using he
  subst he;rw[hb]at hgg;simp at hgg;exact hne hgg.2.symm
theorem ZC {S:Nat→Prop}{w w':World}{B:Nat}{e:TypeId}{s n:Nat}{v:Value}{xs:List Value}(h:w.ownsRow B e s v n xs)(hk:AA S w w')(hS:∀k,v.ownBlock=some k→S k):w'.ownsRow B e s v n xs:=by
 refine⟨h.1,?_⟩;rcases h.2 with h2|⟨g,cap,cur,rfl,hb,hh,r⟩
 ·exact .inl h2
 ·exact .inr ⟨g,cap,cur,rfl,hb,by rw[hk.block g (hS g rfl) (BX.1 hh).1];exact hh,r⟩
def KP (n i:Nat):List (List Nat):=(List.range (n-(i+1))).map fun k=>(List.replicate n 0).set (i+1+k) 1
theorem yG {n i k:Nat}(h:k<n-(i+1)):(KP n i)[k]?=some ((List.replicate n 0).set (i+1+k) 1):=by
 unfold KP;rw[Em,List.getElem?_range h];rfl
theorem AEL {n i k:Nat}(h:k<n-(i+1)):(KP n i).take k++[(List.replicate n 0).set (i+1+k) 1]=(KP n i).take (k+1):=by
 rw[Jd,yG h];rfl
theorem AEx (n i:Nat):(KP n i).length=n-(i+1):=by unfold KP;simp
theorem MM (S:Nat→Prop)(v:Value)(l:List Int)(w:World)(hv:AL S w v l)(hl:l.length≤1000000):
  Calls Tryz.prog 97 #[v] w (Ec l w):=by
 obtain⟨i0,hi,hz0,hz1,hz2⟩:=CO Fa;obtain⟨ao,c,rfl,hc,hm,hn,hx⟩:=hv;have HL:=hid hl;have HM:=hid hm;clear hl hm;have hsl:AL S w (.slice ao l.length c) l:=⟨ao,c,rfl,hc,HM.out,hn,hx⟩;have HS:=hid hsl;have h00:=FL (base:=w.heap.size) (e:=2) (size:=1) w #[] 0 AQ (AU _) rfl;have HX:=hid hx;clear hsl hx;cases ao with
 |none=>
  obtain rfl:c=0:=hn rfl;obtain rfl:l=[]:=EY (by omega);go_enter Tryz.func97,Tryz.ntmps97;go_wp2_with fail;go_ret;exact⟨w.heap.size,0,rfl,h00,AR.alloc AQ _⟩
 |some ad=>
  have C1:=hid (AL.src (w':=w.alloc (.cells #[] 2)) HS.out (AB.alloc _));have C2:=hid (NZ l);have C3:=hid (show 0+l.length≤maxLen from by have:=HL.out;unfold maxLen;omega);have C4:=hid (show(0+l.length)*8≤140737488355328 from by have:=HL.out;omega);have C5:=hid (show(vals l).length=l.length*1 by simp[vals]);go_enter Tryz.func97,Tryz.ntmps97;go_wp2_with (at_builtin;refine GQ _ rfl _ _ 24 rfl w.heap.size 2 i0 (.int .i64 0) 1 8 Tryz.underlying24 hi hz0 hz1 hz2 rfl (by decide) _ _ _ rfl h00 ad l.length c (vals l) rfl C5.out C1.out C2.out C3.out C4.out (by simp) ?_);intro v' w1 hown' hgrow hnil;have hO:Own w.heap.size w1 v' l:=by simpa[Own]using hown'
  have hB:Below w.heap.size w w1:=(AR.alloc AQ _).grown hgrow (by simp) (by intro k hk;simp[Value.ownBlock]at hk;omega);have hne:v'≠.slice none 0 0:=hnil;clear hown' hgrow hnil;go_wp2_with fail;go_ret;obtain⟨g,cap,rfl⟩:=hO.head hne;exact⟨g,cap,rfl,hO,hB⟩
theorem Pt {B:Nat}(w:World)(cs:Array Value)(x:List Int)(hB:B≤w.heap.size)(hn:x.length≤maxLen)(h:cs.toList=vals x):Own B (w.alloc (.cells cs 2)) (.slice (some ⟨w.heap.size,0,none⟩) x.length x.length) x:=by
 have:=KT (base:=B) (e:=2) (size:=1) w cs x.length hB hn (by rw[←Array.length_toList,h];simp[vals]);rw[h]at this;exact this
def AH4 (n k:Nat)(w:World)(e:Ending)(w':World):Prop:=∃g,e= .returned (Ez n g)∧Own w.heap.size w' (Ez n g) (ints ((List.replicate n 0).set k 1))∧Below w.heap.size w w'
theorem y9 (n k:Nat)(hn:n≤100)(hk:k<n)(w:World):
  Calls Tryz.prog 94 #[.int .i64 (n:Int),.int .i64 (k:Int)] w (AH4 n k w):=by
 have hmk:=NF n (by omega) w;have HO:=Own.made (B:=w.heap.size) w n AQ (by unfold maxLen;omega);obtain⟨s1,f1⟩:=HO.cell (j:=k) (a:=0) (by simp[hk]);have Jt:=hid (Pt (B:=w.heap.size) w ((madeCells #[.int .i64 0] n).setIfInBounds k (.int .i64 1)) (ints ((List.replicate n 0).set k 1)) AQ (by simp[ints];unfold maxLen;omega) (by
  rw[Array.toList_setIfInBounds,Ni];simp[vals,ints]))
 clear HO;go_enter Tryz.func94,Tryz.ntmps94;go_wp2_with fail;go_ret;have:=Jt.out;simp only[A7,List.length_set,Cf]at this;exact⟨w.heap.size,rfl,this,AR.alloc AQ _⟩
theorem Vl (n k:Nat)(hn:n≤100)(hk:k<n)(w:World):
  Calls Tryz.prog 94 #[.int .i64 (n:Int),.int .i64 (k:Int)] w (Ec (ints ((List.replicate n 0).set k 1)) w):=
 (y9 n k hn hk w).mono fun e w' ⟨g,h1,h2,h3⟩=>⟨g,n,by rw[h1];simp[ints],by simpa[ints]using h2,h3⟩
theorem UZ (x lo hi:Int)(h1:lo≤x)(h2:x≤hi)(w:World):Calls Tryz.prog 180 #[.int .i64 x,.int .i64 lo,.int .i64 hi] w fun e w'=>e= .returned (.bool true)∧w'=w:=by
 have h1':x≥lo:=h1;go_enter Tryz.func180,Tryz.ntmps180;go_wp2_with fail;go_ret;exact⟨rfl,rfl⟩
theorem nu (x lo hi:Int)(h:¬(lo≤x∧x≤hi))(w:World):Calls Tryz.prog 180 #[.int .i64 x,.int .i64 lo,.int .i64 hi] w fun e w'=>e= .returned (.bool false)∧w'=w:=by
 by_cases h1:lo≤x
 ·have h2:¬x≤hi:=fun h2=>h ⟨h1,h2⟩;have h3:decide (x≤hi)=false:=Dh h2;have h4:decide (lo≤x)=true:=En h1;clear h;go_enter Tryz.func180,Tryz.ntmps180;go_wp2_with fail;go_ret;exact⟨rfl,rfl⟩
 ·have h4:decide (lo≤x)=false:=Dh h1;clear h;go_enter Tryz.func180,Tryz.ntmps180;go_wp2_with fail;go_ret;exact⟨rfl,rfl⟩
structure TT (B n:Nat)(W:World)(g:Nat)(vO vP vC:Value)(p q:Nat):Prop where
 bx:W.heap[g]?=some (.cells #[vO,vP,vC] 28 (0,0))
 hg:B≤g
 O:R1 B W n vO
 P:∃us,W.ownsRow B 24 1 vP p us∧∀(i:Nat) u,us[i]?=some u→R1 B W n u
 C:∃us,W.ownsRow B 25 1 vC q us∧∀(i:Nat) u,us[i]?=some u→R2 B W (List.replicate (n-(i+1)) n) u∧∀k,vP.ownBlock=some k→u.ownBlock≠some k
theorem TT.lt {B n:Nat}{W:World}{g:Nat}{vO vP vC:Value}{p q:Nat}(h:TT B n W g vO vP vC p q):g<W.heap.size:=(BX.1 h.bx).1
theorem TT.kept {B n:Nat}{W W':World}{g:Nat}{vO vP vC:Value}{p q:Nat}(h:TT B n W g vO vP vC p q)(hk:AA (fun k=>B≤k) W W'):TT B n W' g vO vP vC p q:=by
 have hT:Ty B W W':=Ty.keep hk fun _ h=>h;obtain⟨us,p1,p2⟩:=h.P;obtain⟨vs,c1,c2⟩:=h.C;exact⟨(hk.block g h.hg h.lt).trans h.bx,h.hg,hT.one _ _ h.O,⟨us,BM p1 hk (fun _ h=>h),fun i u hu=>hT.one _ _ (p2 i u hu)⟩,vs,BM c1 hk (fun _ h=>h),fun i u hu=>⟨hT.two _ _ (c2 i u hu).1,(c2 i u hu).2⟩⟩
theorem TT.below {B n:Nat}{W W':World}{g:Nat}{vO vP vC:Value}{p q:Nat}(h:TT B n W g vO vP vC p q)(hb:Below W.heap.size W W'):TT B n W' g vO vP vC p q:=h.kept ((AA.of_below (S:=Any) hb).mono fun _ _=>trivial)
theorem TT.start {B n:Nat}{W:World}{g:Nat}{vO:Value}(h:W.heap[g]?=some (.cells #[vO,.slice none 0 0,.slice none 0 0] 28 (0,0)))(hB:B≤g)(hO:R1 B W n vO):TT B n W g vO (.slice none 0 0) (.slice none 0 0) 0 0:=
 ⟨h,hB,hO,⟨[],Jc _ _ _ _,fun i u hu=>by simp at hu⟩,[],Jc _ _ _ _,fun i u hu=>by simp at hu⟩
theorem TT.mono {B B' n:Nat}{W:World}{g:Nat}{vO vP vC:Value}{p q:Nat}(h:TT B n W g vO vP vC p q)(hB:B'≤B):TT B' n W g vO vP vC p q:=by
 obtain⟨us,p1,p2⟩:=h.P;obtain⟨vs,c1,c2⟩:=h.C;exact⟨h.bx,Ab hB h.hg,h.O.mono hB,⟨us,EX p1 hB,fun i u hu=>(p2 i u hu).mono hB⟩,vs,EX c1 hB,fun i u hu=>⟨(c2 i u hu).1.mono hB,(c2 i u hu).2⟩⟩
theorem TT.row {B n c g2:Nat}{W W1 W2:World}{g:Nat}{vO vP vC u:Value}{p q:Nat}{us:List Value}(h:TT B n W g vO vP vC p q)(hb:Below W.heap.size W W1)(hp1:W1.ownsRow B 24 1 vP p us)(hp2:∀(i:Nat) u,us[i]?=some u→R1 B W n u)(hu:R1 B W1 n u)
  (ho:W2.ownsRow B 24 1 (.slice (some ⟨g2,0,none⟩) (p+1) c) (p+1) (us++[u])) (hg:W1.grownBy W2 vP.ownBlock) (hat:vP.ownBlock=some g2∨W1.heap.size≤g2):
  TT B n (W2.setCell ⟨g,1,none⟩ (.slice (some ⟨g2,0,none⟩) (p+1) c)) g vO (.slice (some ⟨g2,0,none⟩) (p+1) c) vC (p+1) q:=by
 have h1:=h.below hb;have hT:Ty B W W1:=Ty.below hb;have ny:g<W1.heap.size:=h1.lt;have AJV:vP.ownBlock≠some g:=Oe hp1 h1.bx (by decide);obtain⟨vs,c1,c2⟩:=h1.C;have Mj:W2.heap[g]?=some (.cells #[vO,vP,vC] 28 (0,0)):=(hg.block g ny (fun e=>AJV e.symm)).trans h1.bx;have r1:∀v,R1 B W1 n v→R1 B (W2.setCell ⟨g,1,none⟩ (.slice (some ⟨g2,0,none⟩) (p+1) c)) n v:=fun v hv=>(hv.grown hg (hv.apart hp1 (by decide))).other Mj (by decide);refine⟨Ho W2 g 1 _ _ _ Mj,h.hg,r1 _ h1.O,⟨us++[u],I4 ho Mj (by decide),fun i x hx=>?_⟩,vs,I4 (Nr c1 hg (JY c1 hp1 (by decide))) Mj (by decide),fun i x hx=>?_⟩
 ·rcases Fe i us.length with hi|hi
  ·rw[GN hi]at hx;exact r1 _ (hT.one _ _ (hp2 i x hx))
  ·rw[Fb hi]at hx;rcases hj:i-us.length with _|j
   ·rw[hj]at hx;simp at hx;subst hx;exact r1 _ hu
   ·rw[hj]at hx;simp at hx
 ·obtain⟨d1,d2⟩:=c2 i x hx;have hne:x.ownBlock=none∨x.ownBlock≠vP.ownBlock:=by
   rcases hk:vP.ownBlock with _|k
   ·rcases hx':x.ownBlock with _|k'
    ·exact .inl rfl
    ·exact .inr (by simp)
   ·exact .inr (d2 k hk)
  refine⟨(d1.grown hp1 (by decide) hg hne).other Mj (by decide) (by decide),fun k hk=>?_⟩;have hk:g2=k:=by simpa[Value.ownBlock]using hk
  subst hk;rcases hat with h3|h3
  ·exact d2 _ h3
  ·intro e;obtain⟨us',q1,q2⟩:=d1;have:=(BH q1 _ e).2;omega
theorem TT.J8 {B n c g2:Nat}{W W1 W2:World}{g:Nat}{vO vP vC u:Value}{p q:Nat}{us:List Value}(h:TT B n W g vO vP vC p q)(hb:Below W.heap.size W W1)(hc1:W1.ownsRow B 25 1 vC q us)(hc2:∀(i:Nat) u,us[i]?=some u→R2 B W (List.replicate (n-(i+1)) n) u∧∀k,vP.ownBlock=some k→u.ownBlock≠some k)
  (hu:R2 B W1 (List.replicate (n-(q+1)) n) u) (hup:∀k,vP.ownBlock=some k→u.ownBlock≠some k)
  (ho:W2.ownsRow B 25 1 (.slice (some ⟨g2,0,none⟩) (q+1) c) (q+1) (us++[u])) (hg:W1.grownBy W2 vC.ownBlock):
  TT B n (W2.setCell ⟨g,2,none⟩ (.slice (some ⟨g2,0,none⟩) (q+1) c)) g vO vP (.slice (some ⟨g2,0,none⟩) (q+1) c) p (q+1):=by
 have h1:=h.below hb;have hT:Ty B W W1:=Ty.below hb;have ny:g<W1.heap.size:=h1.lt;have AJW:vC.ownBlock≠some g:=Oe hc1 h1.bx (by decide);have Mj:W2.heap[g]?=some (.cells #[vO,vP,vC] 28 (0,0)):=(hg.block g ny (fun e=>AJW e.symm)).trans h1.bx;have r1:∀v,R1 B W1 n v→R1 B (W2.setCell ⟨g,2,none⟩ (.slice (some ⟨g2,0,none⟩) (q+1) c)) n v:=fun v hv=>(hv.grown hg (hv.apart hc1 (by decide))).other Mj (by decide);have r2:∀L v,R2 B W1 L v→R2 B (W2.setCell ⟨g,2,none⟩ (.slice (some ⟨g2,0,none⟩) (q+1) c)) L v:=fun L v hv=>by
  obtain⟨xs,q1,q2⟩:=id hv;exact(hv.grown hc1 (by decide) hg (JY q1 hc1 (by decide))).other Mj (by decide) (by decide)
 obtain⟨vs,p1,p2⟩:=h1.P;have hl:us.length=q:=by have:=hc1.1;omega
 refine⟨Ho W2 g 2 _ _ _ Mj,h.hg,r1 _ h1.O,⟨vs,I4 (Nr p1 hg (JY p1 hc1 (by decide))) Mj (by decide),fun i x hx=>r1 _ (p2 i x hx)⟩,us++[u],I4 ho Mj (by decide),fun i x hx=>?_⟩;rcases Fe i us.length with hi|hi
 ·rw[GN hi]at hx;exact⟨r2 _ _ (hT.two _ _ (hc2 i x hx).1),(hc2 i x hx).2⟩
 ·rw[Fb hi]at hx;rcases hj:i-us.length with _|j
  ·rw[hj]at hx;simp at hx;subst hx;have:i=q:=by omega
   subst this;exact⟨r2 _ _ hu,hup⟩
  ·rw[hj]at hx;simp at hx
def PT (B:Nat)(w:World)(n:Nat)(vO vP vC:Value):Prop:=R1 B w n vO∧R2 B w (List.replicate n n) vP∧R3 B w ((List.range n).map fun i=>List.replicate (n-(i+1)) n) vC
theorem TT.pt {B n:Nat}{W:World}{g:Nat}{vO vP vC:Value}(h:TT B n W g vO vP vC n n):PT B W n vO vP vC:=by
 obtain⟨us,p1,p2⟩:=h.P;obtain⟨vs,c1,c2⟩:=h.C;have l1:us.length=n:=by have:=p1.1;omega
 have l2:vs.length=n:=by have:=c1.1;omega
 refine⟨h.O,⟨us,by simpa using p1,fun i m hi=>?_⟩,vs,by simpa using c1,fun i L hi=>?_⟩
 ·rw[Nl]at hi;split at hi
  ·injection hi with hi;subst hi;have hu:us[i]?=some (us[i]'(by omega)):=AP _;exact⟨_,hu,p2 i _ hu⟩
  ·cases hi
 ·rw[Em]at hi;rcases Fe i n with h3|h3
  ·rw[List.getElem?_range h3]at hi;simp at hi;subst hi;have hu:vs[i]?=some (vs[i]'(by omega)):=AP _;exact⟨_,hu,(c2 i _ hu).1⟩
  ·rw[MZ (by simpa using h3)]at hi;cases hi
def KQ (n:Nat)(w:World)(e:Ending)(w':World):Prop:=∃vO vP vC,e= .returned (.agg #[vO,vP,vC])∧PT w.heap.size w' n vO vP vC∧Below w.heap.size w w'
theorem TZ (os:List Int)(v:Value)(w:World)(hv:AL Any w v os)(hn:os.length≤100):
  Calls Tryz.prog 96 #[v] w (KQ os.length w):=by
 obtain⟨i0,hi,hz0,hz1,hz2⟩:=CO JC;obtain⟨j0,ji,YQ,jz1,YR⟩:=CO V4;obtain⟨a,c,rfl,hcl,hcm⟩:=Ob hv;obtain⟨n,hnn⟩:∃n,os.length=n:=⟨_,rfl⟩;have HV:=hid hv;have H8:=hid hnn;have HC:=hid (fun W hv=>(MM Any (.slice a os.length c) os W hv (by omega)).mono (R':=fun e w'=>∃a2 c2,e= .returned (.slice a2 os.length c2)∧R1 W.heap.size w' os.length (.slice a2 os.length c2)∧Below W.heap.size W w') (by
  rintro e w2 ⟨g2,c2,rfl,ho2,hb2⟩;exact⟨_,c2,rfl,R1.AAd ho2,hb2⟩))
 have HU:=hid (fun k hk W=>Vl n k (by omega) hk W);rw[hnn]at hn HC hcl ⊢;have hv':=hv;rw[hnn]at hv';have HV:=hid hv';have hmk:∀W:World,(Instr.makeSlice 24 (.int .i64 (n:Int)) (.int .i64 (n:Int))).run Tryz.prog W= .ok (.slice (some ⟨W.heap.size,0,none⟩) n n) (W.alloc (.cells (madeCells #[.int .i64 0] n) 2)):=fun W=>NF n (by omega) W;clear hv hv' hnn;go_enter Tryz.func96,Tryz.ntmps96;go_upto_region 1 with fail;obtain⟨w1,hw1⟩:∃w1,w1=w.alloc (.cells #[.slice none 0 0,.slice none 0 0,.slice none 0 0] 28):=⟨_,rfl⟩;rw[←hw1];have hb1:Below w.heap.size w w1:=by rw[hw1];exact AR.alloc AQ _
 have hs1:w1.heap.size=w.heap.size+1:=by rw[hw1];simp
 have G1:=hid (show w1.heap[w.heap.size]?=some (.cells #[.slice none 0 0,.slice none 0 0,.slice none 0 0] 28 (0,0)) by rw[hw1];exact Av _ _);have Qf:=hid (HV.out.keep (AA.of_below hb1));have HB1:=hid hb1;have BA:=hid hs1;clear hw1 hb1 hs1;go_wp2_with (first|(go_at_call 97;refine(HC.out _ Qf.out).mono ?_;rintro e w2 ⟨a2,c2,rfl,ho2,hb2⟩)|fail);obtain⟨g,hg⟩:∃g,w2.heap.size=g:=⟨_,rfl⟩;obtain⟨w3,hw3⟩:∃w3,w3=w2.alloc (.cells #[.slice a2 n c2,.slice none 0 0,.slice none 0 0] 28):=⟨_,rfl⟩;have HT0:=hid (show TT w1.heap.size n w3 g (.slice a2 n c2) (.slice none 0 0) (.slice none 0 0) 0 0 from TT.start (by rw[hw3,←hg];exact Av _ _) (by have:=hb2.size;omega) (by
  rw[hw3];exact(Ty.keep (S:=Any) ((AA.refl _ w2).alloc _) fun _ _=>trivial).one _ _ ho2))
 have HB3:=hid (show Below w1.heap.size w1 w3 from by rw[hw3];exact hb2.alloc hb2.size _);rw[←hw3,hg];clear hw3 hg ho2 hb2;have hn63:(n:Int)≤100:=by omega
 go_loopw [5] (fun iv wr=>∃(i:Nat) (vP vC:Value),i≤n∧iv= .int .i64 (i:Int)∧Hid (TT w1.heap.size n wr g (.slice a2 n c2) vP vC i i)∧Hid (Below w1.heap.size w1 wr)) (fun iv _=>n-(intOf iv).toNat);case atStart=>exact⟨0,_,_,AU _,rfl,HT0,HB3⟩
 case round=>
  obtain⟨i,vP,vC,hi',rfl,hS,hB⟩:=hrel;by_cases hlt:i<n
  ·obtain⟨us,hp1,hp2⟩:=hS.out.P;obtain⟨aP,cP,rfl⟩:=FI hp1;have HP:=hid hp1;have YS:=hid hp2;clear hp1 hp2;obtain⟨⟨e0,e1,e2⟩,f0,f1,f2⟩:=AO hS.out.bx;have hgl:g<wr.heap.size:=hS.out.lt;have Cb:=hid hS.out.bx;have hne:some g≠(Value.slice aP i cP).ownBlock:=fun e=>Oe HP.out Cb.out (by decide) e.symm;have BA:=hid hB.out.size;have hki:(i:Int)<(n:Int):=by omega
   have KH:i≤100:=by omega
   obtain⟨w4,hw4⟩:∃w4,w4=wr:=⟨_,rfl⟩;have HW4:=hid hw4;clear hw4;go_upto_region 6 with fail;go_cut [23] (fun sv W=>∃c5 gg,sv= .slice (some ⟨gg,0,none⟩) (i+1) c5∧Hid (TT w1.heap.size n W g (.slice a2 n c2) (.slice (some ⟨gg,0,none⟩) (i+1) c5) vC (i+1) i)∧Hid (Below w1.heap.size w1 W));case rest=>
    obtain⟨c5,gg,rfl,hS',hB'⟩:=hcut;clear hS hB HP YS Cb hne BA e0 e1 e2 f0 f1 f2 hgl;obtain⟨wo,hwo⟩:∃wo,wo=wc:=⟨_,rfl⟩;rw[←hwo]at hS' hB' ⊢;have hgo:g<wo.heap.size:=hS'.out.lt;clear hwo;have hw1:IntKind.i64.wrap ((i:Int)+1)=(i:Int)+1:=AY _ (by omega);have Cj:=hid (AEx n i);have AJX:=hid (show Own2 24 2 wo.heap.size (wo.alloc (.cells #[] 24)) (.slice (some ⟨wo.heap.size,0,none⟩) 0 0) ((KP n i).take 0) from⟨[],KT (base:=wo.heap.size) (e:=24) (size:=1) wo #[] 0 AQ (by unfold maxLen;omega) (by simp),rfl,by simp⟩);go_wp2_with fail;go_loopw [6,7] (fun lv jv wr=>∃k:Nat,i+1+k≤n∧jv= .int .i64 ((i:Int)+1+(k:Int))∧Hid (Own2 24 2 wo.heap.size wr lv ((KP n i).take k))∧Hid (Below wo.heap.size wo wr)) (fun _ jv _=>n-(intOf jv).toNat);case atStart=>exact⟨0,by omega,by simp,AJX,(hid (AR.alloc AQ _))⟩
    case round=>
     obtain⟨k,hk,rfl,hO,hBI⟩:=hrel;obtain⟨aL,cL,rfl,_,_⟩:=hO.out.form;have hll:((KP n i).take k).length=k:=by rw[Gl,Cj.out];omega
     rw[hll]at hO ⊢;have hw2:IntKind.i64.wrap ((i:Int)+1+(k:Int))=(i:Int)+1+(k:Int):=AY _ (by omega);by_cases hlt2:i+1+k<n
     ·have ACU:(i:Int)+1+(k:Int)<(n:Int):=by omega
      have PZ:=hid (show Calls Tryz.prog 94 #[.int .i64 (n:Int),.int .i64 ((i:Int)+1+(k:Int))] _ (Ec (ints ((List.replicate n 0).set (i+1+k) 1)) _) from by
       have h:=HU.out (i+1+k) hlt2 wr;rw[show(((i+1+k:Nat)):Int)=(i:Int)+1+(k:Int) by omega]at h;exact h)
      obtain⟨us,q1,q2,q4⟩:=hO.out;have Gz:=hid (And.intro q1 (And.intro q2 q4));rw[hll]at Gz;have Bn:=hid hBI.out.size;have Da:k≤100:=by omega
      clear q1 q2 q4 hll;go_wp2_with fail;refine PZ.out.mono ?_;rintro e w5 ⟨g5,NG,rfl,BF,hb5⟩;have hl5:(ints ((List.replicate n 0).set (i+1+k) 1)).length=n:=by rw[A7];simp
      have HRW:=hid (CL.keep (Ec.row (BF.mono Bn.out)) ((AA.refl Any w5).alloc (.cells #[.slice (some ⟨g5,0,none⟩) (ints ((List.replicate n 0).set (i+1+k) 1)).length NG] 24)) fun _ _=>trivial);rw[hl5]at HRW ⊢;have a1:=BM Gz.out.1 (S:=Any) ((AA.of_below hb5).trans ((AA.refl Any w5).alloc (.cells #[.slice (some ⟨g5,0,none⟩) n NG] 24))) (fun _ _=>trivial);have AZ:=hid ((hBI.out.trans (hb5.mono hBI.out.size)).alloc (by have:=Bn.out;have:=hb5.size;omega) (.cells #[.slice (some ⟨g5,0,none⟩) n NG] 24));have YT:=hid (show AA Any wr _ from(AA.of_below hb5).trans ((AA.refl Any w5).alloc (.cells #[.slice (some ⟨g5,0,none⟩) n NG] 24)));have Bi:=hid (show wo.heap.size≤w5.heap.size by have:=Bn.out;have:=hb5.size;omega);clear BF hb5 hl5;go_wp2_with (at_builtin;(refine Hg _ rfl _ _ 25 rfl wo.heap.size 24 i0 (.slice none 0 0) 1 24 Tryz.underlying25 hi hz0 hz1 hz2 rfl (by decide) _ _ _ rfl a1 ⟨w5.heap.size,0,none⟩ 1 1 [.slice (some ⟨g5,0,none⟩) n NG] rfl rfl (Ea (cs:= #[.slice (some ⟨g5,0,none⟩) n NG]) (t:=24) (fr:=(0,0)) (Av w5 _)) (by simp[Value.oneCell']) (by decide) (by unfold maxLen;omega) (by omega) (by have:=Bi.out;simp;omega) _ rfl ?_));intro g6 c6 w6 Al Br QH QI;have M7:((KP n i).take k).length=k:=by rw[Gl,Cj.out];omega
      have HN:=hid (Own2.push (rows:=(KP n i).take k) (by decide) M7 a1 (by rw[Gz.out.2.1,M7]) (fun i' r u h1 h2=>(Gz.out.2.2 i' r u h1 h2).keep YT.out (fun _ _=>trivial)) HRW.out Al Br);rw[AEL (by omega)]at HN;have Hz:=hid (AZ.out.grown Br (by have:=Bi.out;simp;omega) (by intro b hb;exact(BH a1 b hb).1));clear Al Br QH QI a1 M7 hO hBI AZ;go_wp2_with fail;go_roundw;case rel=>exact⟨k+1,by omega,by go_num,HN,Hz⟩
      case measure=>simp[intOf];omega
     ·obtain rfl:k=n-(i+1):=by omega
      have hlx:n-(i+1)=(KP n i).length:=Cj.out.symm;have gW:=hid (show Own2 24 2 wo.heap.size wr (.slice aL (n-(i+1)) cL) (KP n i) from by
       have h:=hO.out;rw[Mf (by rw[Cj.out];exact Ap _)]at h;exact h)
      obtain⟨ln,hln⟩:∃ln,n-(i+1)=ln:=⟨_,rfl⟩;have ACV:ln≤100:=by omega
      have hjn:(i:Int)+1+(ln:Int)=(n:Int):=by omega
      rw[hln]at gW ⊢;have HT:=hid (hS'.out.below hBI.out);have EC:=hid (hB'.out.trans (hBI.out.mono hB'.out.size));have Ac:=hid (show w1.heap.size≤wr.heap.size from EC.out.size);obtain⟨us,c1,c3⟩:=HT.out.C;obtain⟨aC,cC,rfl⟩:=FI c1;have fT:=hid c3;obtain⟨⟨e0,e1,e2⟩,f0,f1,f2⟩:=AO HT.out.bx;have hgl:g<wr.heap.size:=HT.out.lt;have Cb:=hid HT.out.bx;have hne:some g≠(Value.slice aC i cC).ownBlock:=fun e=>Oe c1 Cb.out (by decide) e.symm;obtain⟨pus,ACW,AJY⟩:=hS'.out.P;have AJZ:=BH ACW gg rfl;have HUF:=hid (show R2 w1.heap.size (wr.alloc (.cells #[.slice aL ln cL] 25)) (List.replicate (n-(i+1)) n) (.slice aL ln cL) from(Ty.keep (S:=Any) ((AA.refl _ wr).alloc _) fun _ _=>trivial).two _ _ (by
       have h:=R2.AGg (n:=n) gW.out (fun r hr=>by
        obtain⟨k',hk'⟩:=IP hr;have h5:k'<n-(i+1):=by have:=(Ak.1 hk').1;rw[Cj.out]at this;exact this
        rw[yG h5]at hk';injection hk' with hk';rw[←hk'];simp)
       rw[Cj.out]at h;exact h.mono (by have:=hB'.out.size;omega)))
      have SA:=hid (show∀k,(Value.slice (some ⟨gg,0,none⟩) (i+1) c5).ownBlock=some k→(Value.slice aL ln cL).ownBlock≠some k from fun k hk hk2=>by
       obtain⟨xs,q1,_⟩:=gW.out;have h5:=(BH q1 k hk2).1;have h6:gg=k:=by simpa[Value.ownBlock]using hk
       omega)
      clear ACW AJY AJZ;have a1:=BM c1 (S:=Any) ((AA.refl Any wr).alloc (.cells #[.slice aL ln cL] 25)) (fun _ _=>trivial);have Au:=hid (show Below wr.heap.size wr (wr.alloc (.cells #[.slice aL ln cL] 25)) from AR.alloc AQ _);clear hlx hO hll hBI hlt2 c3 gW;have hfin:¬((i:Int)+1+(ln:Int)<(n:Int)):=by omega
      have AJa:i≤100:=by omega
      go_wp2_with (at_builtin;(refine Hg _ rfl _ _ 26 rfl w1.heap.size 25 j0 (.slice none 0 0) 1 24 Tryz.underlying26 ji YQ jz1 YR rfl (by decide) _ _ _ rfl a1 ⟨wr.heap.size,0,none⟩ 1 1 [.slice aL ln cL] rfl rfl (Ea (cs:= #[.slice aL ln cL]) (t:=25) (fr:=(0,0)) (Av wr _)) (by simp[Value.oneCell']) (by decide) (by unfold maxLen;omega) (by omega) (by have:=Ac.out;simp;omega) _ rfl ?_));intro g7 c7 w7 Bz Dk oD XL;have g10:=(Dk.block g (by simp;omega) hne).trans ((EO wr _ g hgl).trans Cb.out);obtain⟨⟨m0,m1,m2⟩,n0,n1,n2⟩:=AO g10;have HN:=hid (TT.J8 HT.out Au.out a1 fT.out HUF.out SA.out Bz Dk);have Hz:=hid ((EC.out.alloc Ac.out (.cells #[.slice aL ln cL] 25)).grown Dk (by have:=Ac.out;simp;omega) (by intro b hb;exact(BH a1 b hb).1));have oG:=hid (Hz.out.setCell (p:=⟨g,2,none⟩) HT.out.hg (.slice (some ⟨g7,0,none⟩) (i+1) c7));clear Bz Dk oD XL a1 g10 c1 e0 e1 e2 HT HUF Au Hz fT SA;go_wp2_with fail;go_roundw;case rel=>exact⟨i+1,_,_,by omega,by go_num,HN,oG⟩
      case measure=>simp[intOf];omega
   go_region_law
    (first|(refine Ot _ (by rfl) _ _ _ (by rfl) w1.heap.size 24 i0 (.slice none 0 0) 1 24 Tryz.underlying25 hi hz0 hz1 hz2 rfl (by omega) (.slice aP i cP) i us (by rfl) (BM HP.out (S:=Any) (by repeat(first|exact AB.drew|exact AA.refl _ _|refine AA.drew ?_|refine AA.alloc ?_ _)) (fun _ _=>trivial)) ⟨wr.heap.size+1,0,none⟩ 1 1 [Ez n wr.heap.size] (by rfl) (by rfl) (Ea (cs:= #[Ez n wr.heap.size]) (t:=24) (fr:=(0,0)) (by first|exact new2 wr.drew _ _|exact new2 wr _ _)) (by simp[Value.oneCell']) (by omega) (by unfold maxLen;omega) (by omega) (by have:=BA.out;simp;omega) _ rfl ?_;intro gg cap Co IJ EF MR Nk;have g10:=(EF.block g (by simp;omega) hne).trans (by first|exact dM (W:=wr.drew) Cb.out|exact dM (W:=wr) Cb.out);obtain⟨⟨m0,m1,m2⟩,n0,n1,n2⟩:=AO g10))
   all_goals
    have HW:Below wr.heap.size wr ((wr.alloc (Obj.cells (madeCells #[Value.int IntKind.i64 0] n) 2)).alloc (Obj.cells #[Ez n wr.heap.size] 24)).drew:=((AR.alloc AQ _).alloc (by simp) _).drew;have HOW:=hid (show R1 w1.heap.size ((wr.alloc (Obj.cells (madeCells #[Value.int IntKind.i64 0] n) 2)).alloc (Obj.cells #[Ez n wr.heap.size] 24)).drew n (Ez n wr.heap.size) from by
     have h:=Own.made (B:=w1.heap.size) wr n BA.out (by unfold maxLen;omega);have h2:=R1.AAd (h.alloc (.cells #[Ez n wr.heap.size] 24)).drew;rw[Cf]at h2;exact h2)
    have HR:=hid (TT.row hS.out HW (BM HP.out (S:=Any) (AA.of_below HW) (fun _ _=>trivial)) YS.out HOW.out IJ EF (by rcases MR with h|h;exact .inl h;exact .inr (by rw[h];exact Ap _)));go_wp2_with fail;go_meet;refine⟨cap,gg,rfl,HR,?_⟩
    ·exact hid (((hB.out.trans (HW.mono BA.out)).grown EF (Ab BA.out HW.size) (by intro k hk;exact(BH HP.out k hk).1)).setCell (p:=⟨g,1,none⟩) hS.out.hg _)
  ·obtain rfl:i=n:=by omega
   have G5:=hid (D7 hB.out (by have:=BA.out;omega) G1.out);obtain⟨⟨r0,r1,r2⟩,s0,s1,s2⟩:=AO G5.out;obtain⟨⟨e0,e1,e2⟩,f0,f1,f2⟩:=AO hS.out.bx;obtain⟨us,k1,k2⟩:=hS.out.C;obtain⟨ps,k3,k4⟩:=hS.out.P;obtain⟨aP,cP,rfl⟩:=FI k3;obtain⟨aC,cC,rfl⟩:=FI k1;have DZ:=hid (show KQ i w (.returned (.agg #[.slice a2 i c2,.slice aP i cP,.slice aC i cC])) (((wr.setCell ⟨w.heap.size,0,none⟩ (.slice a2 i c2)).setCell ⟨w.heap.size,1,none⟩ (.slice aP i cP)).setCell ⟨w.heap.size,2,none⟩ (.slice aC i cC)) from by
    refine⟨_,_,_,rfl,?_,?_⟩
    ·exact((hS.out.kept ((((AA.refl _ wr).setCell (by have:=BA.out;simp;omega) _).setCell (by have:=BA.out;simp;omega) _).setCell (by have:=BA.out;simp;omega) _)).mono (by have:=BA.out;omega)).pt
    ·exact(((HB1.out.trans (hB.out.mono (by have:=BA.out;omega))).setCell (p:=⟨w.heap.size,0,none⟩) AQ _).setCell (p:=⟨w.heap.size,1,none⟩) AQ _).setCell (p:=⟨w.heap.size,2,none⟩) AQ _)
   clear hS k1 k2 k3 k4;go_wp2_with fail;obtain⟨⟨z0,z1,z2⟩,-⟩:=AO (BL (x:=.slice a2 i c2) (y:=.slice aP i cP) (z:=.slice aC i cC) G5.out);exact Am (v:=.agg #[.slice a2 i c2,.slice aP i cP,.slice aC i cC]) (by simp[results,Tryz.results96,go_sem,z0,z1,z2]) rfl DZ.out
end Go.Proofs.YtlmlamcoeegkbaaGreat.Bv
