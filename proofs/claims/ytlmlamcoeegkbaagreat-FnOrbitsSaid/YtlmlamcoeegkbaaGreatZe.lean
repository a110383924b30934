import Derived.Test.YtlmlamcoeegkbaaGreatZ0
import Derived.Test.YtlmlamcoeegkbaaGreatZb
import Derived.Laws.AppendOwnNone
import Derived.Deep.RegionLaw
import Derived.Deep.AppendLies
/-
  Lemmas for the law FnOrbits, in short spelling.
-/
open Go.Lib (hid)
set_option linter.unusedVariables false
set_option linter.unusedSimpArgs false
set_option maxRecDepth 100000
set_option maxHeartbeats 40000000
namespace Go.Proofs.YtlmlamcoeegkbaaGreat.CyA
open Go.RowKit Go.Proofs.YtlmlamcoeegkbaaGreat Tow
theorem slg_form {α:Type}{E:World→Value→α→Prop}{S:Nat→Prop}{w:World}{v:Value}{l:List α}(h:SlG E S w v l):∃a c,v= .slice a l.length c∧l.length≤c∧c≤maxLen:=by
 obtain⟨a,c,h1,h2,h3,_⟩:=h;exact⟨a,c,h1,h2,h3⟩
theorem slg_get {α:Type}{E:World→Value→α→Prop}{S:Nat→Prop}{w:World}{a:Option Addr}{n c:Nat}{l:List α}(h:SlG E S w (.slice a n c) l){k:Nat}{x:α}(hx:l[k]?=some x):
  ∃b o u,a=some ⟨b,o,none⟩∧S b∧b<w.heap.size∧w.cell? ⟨b,o+k,none⟩=some u∧E w u x:=by
 obtain⟨ao,c',e,_,_,_,h4⟩:=h;obtain⟨rfl,_,_⟩:a=ao∧n=l.length∧c=c':=by simpa using e
 obtain⟨b,o,e1,e2,e3,u,e4,e5⟩:=h4 k x hx;exact⟨b,o,u,e1,e2,e3,e4,e5⟩
theorem blk' {w w':World}{o:Obj}{B g:Nat}(hb:Below B w w')(hg:g<B)(h:w.heap[g]?=some o):w'.heap[g]?=some o:=(hb.block g hg).trans h
theorem row3' {w:World}{g:Nat}{a b c:Value}{t:TypeId}(h:w.heap[g]?=some (.cells #[a,b,c] t (0,0))):
  w.cell? ⟨g,0,none⟩=some a∧w.cell? ⟨g,1,none⟩=some b∧w.cell? ⟨g,2,none⟩=some c:=
 ⟨(zq15 _ _ _ _ _ _ h).trans rfl,(zq15 _ _ _ _ _ _ h).trans rfl,(zq15 _ _ _ _ _ _ h).trans rfl⟩
end Go.Proofs.YtlmlamcoeegkbaaGreat.CyA
namespace Go.Proofs.YtlmlamcoeegkbaaGreat.CyB
open Go.RowKit Go.Proofs.YtlmlamcoeegkbaaGreat Tow CyA
def SrcA (w:World)(g:Nat)(a:Option Addr)(len cap k s:Nat):Prop:=w.heap[g]?=some (.cells #[.slice a len cap,.int .i64 (k:Int),.int .i64 (s:Int)] 98 (0,0))
def Src (w:World)(g:Nat)(a:Option Addr)(len cap:Nat):Prop:=∃k s:Nat,SrcA w g a len cap k s∧k≤len∧s<2147483647∧len≤4096
def Rd (w:World)(g:Nat)(a:Option Addr)(len:Nat):Prop:=∀i,i<len→∃b o,∃z:Nat,a=some ⟨b,o,none⟩∧b≠g∧b<w.heap.size∧w.cell? ⟨b,o+i,none⟩=some (.int .u8 (z:Int))∧z<256
theorem Rd.keep {w w':World}{g:Nat}{a:Option Addr}{len:Nat}(h:Rd w g a len)(hk:Keep (fun k=>k≠g) w w'):Rd w' g a len:=fun i hi=>by
 obtain⟨b,o,z,h1,h2,h3,h4,h5⟩:=h i hi;exact⟨b,o,z,h1,h2,zq7 h3 hk.size,by rw[hk.cell h2 h3];exact h4,h5⟩
theorem Rd.grown {w w':World}{g:Nat}{a:Option Addr}{len:Nat}(h:Rd w g a len)(hg:w.grownBy w' (some g)):Rd w' g a len:=h.keep (Keep.grown hg fun k hk e=>hk (by injection e))
theorem SrcA.set1 {w:World}{g:Nat}{a:Option Addr}{len cap k s:Nat}(h:SrcA w g a len cap k s)(k':Nat):SrcA (w.setCell ⟨g,1,none⟩ (.int .i64 (k':Int))) g a len cap k' s:=zq60 w g 1 _ _ _ h
theorem SrcA.set2 {w:World}{g:Nat}{a:Option Addr}{len cap k s:Nat}(h:SrcA w g a len cap k s)(s':Nat):SrcA (w.setCell ⟨g,2,none⟩ (.int .i64 (s':Int))) g a len cap k s':=zq60 w g 2 _ _ _ h
theorem SrcA.drew {w:World}{g:Nat}{a:Option Addr}{len cap k s:Nat}(h:SrcA w g a len cap k s):SrcA w.drew g a len cap k s:=h
theorem SrcA.cells {w:World}{g:Nat}{a:Option Addr}{len cap k s:Nat}(h:SrcA w g a len cap k s):(w.cell? ⟨g,0,none⟩=some (.slice a len cap)∧w.cell? ⟨g,1,none⟩=some (.int .i64 (k:Int))∧w.cell? ⟨g,2,none⟩=some (.int .i64 (s:Int)))∧
  w.frozen? ⟨g,1,none⟩=false∧w.frozen? ⟨g,2,none⟩=false∧g<w.heap.size:=⟨row3' h,by simp[World.frozen?,show w.heap[g]?=_ from h],by simp[World.frozen?,show w.heap[g]?=_ from h],(zq10.1 h).1⟩
theorem gr_set {w w':World}{g i:Nat}(h:w.grownBy w' (some g))(u:Value):w.grownBy (w'.setCell ⟨g,i,none⟩ u) (some g):=
 ⟨h.os,h.tape,h.output,by simpa using h.size,fun k hk hne=>(zq53 w' ⟨g,i,none⟩ k u (fun e=>hne (by rw[e]))).trans (h.block k hk hne)⟩
theorem gr_refl (w:World)(row:Option Nat):w.grownBy w row:=⟨rfl,rfl,rfl,zq1 _,fun _ _ _=>rfl⟩
theorem gr_drew {w w':World}{row:Option Nat}(h:w.grownBy w' row):w.grownBy w'.drew row:=⟨h.os,h.tape,h.output,h.size,h.block⟩
theorem gr_tr {a b c:World}{row:Option Nat}(h1:a.grownBy b row)(h2:b.grownBy c row):a.grownBy c row:=
 ⟨h2.os.trans h1.os,h2.tape.trans h1.tape,h2.output.trans h1.output,zq11 h1.size h2.size,fun k hk hr=>(h2.block k (zq7 hk h1.size) hr).trans (h1.block k hk hr)⟩
def NextR (n g:Nat)(a:Option Addr)(len cap:Nat)(w:World)(e:Ending)(w':World):Prop:=∃r:Nat,e= .returned (.int .i64 (r:Int))∧r<n∧Src w' g a len cap∧w.grownBy w' (some g)
theorem tmod_nat (x n:Nat):((x:Int)).tmod (n:Int)=((x%n:Nat):Int):=by rw[zq134 (by omega)];rfl
theorem tdiv_nat (x n:Nat):((x:Int)).tdiv (n:Int)=((x/n:Nat):Int):=by rw[Int.tdiv_eq_ediv_of_nonneg (by omega)];rfl
theorem next_l (n:Nat)(h2:2≤n)(w:World)(g:Nat)(a:Option Addr)(len cap:Nat)(hS:Src w g a len cap)(hR:Rd w g a len):
  Calls Tryz.prog 52 #[.pointer (some ⟨g,0,none⟩),.int .i64 (n:Int)] w (NextR n g a len cap w):=by
 obtain⟨k,s,hA,hk,hs,hl⟩:=hS;have HR:=hid hR;have HH2:=hid h2;obtain⟨s2,hs2⟩:∃s2,(s*48271+71)%2147483647=s2:=⟨_,rfl⟩;have HS2:=hid (show s2<2147483647 by omega);obtain⟨q,hq⟩:∃q,s2/47=q:=⟨_,rfl⟩;have HQ:=hid (show q≤45691142 by omega);have hw1:IntKind.i64.wrap ((s:Int)*48271)=(s:Int)*48271:=zq6 _ (by omega);have hw2:IntKind.i64.wrap ((s:Int)*48271+71)=(s:Int)*48271+71:=zq6 _ (by omega);have hr1:((s:Int)*48271+71).tmod 2147483647=(s2:Int):=by
  have:=tmod_nat (s*48271+71) 2147483647;rw[hs2,Int.natCast_add,Int.natCast_mul]at this;exact this
 have hr2:((s2:Int)).tdiv 47=(q:Int):=by
  have:=tdiv_nat s2 47;rw[hq]at this;exact this
 have hle:¬(n:Int)≤1:=by omega
 have hw3:IntKind.i64.wrap (s2:Int)=(s2:Int):=zq6 _ (by omega);have hw4:IntKind.i64.wrap (q:Int)=(q:Int):=zq6 _ (by omega);obtain⟨⟨c0,c1,c2⟩,f1,f2,hgl⟩:=hA.cells;have HA:=hid hA;have HL:=hid hl;have HK:=hid hk;clear hA hs hs2 hq hR h2 hl;go_enter Tryz.func52,Tryz.ntmps52;go_upto_region 4 with fail;obtain⟨wa,hwa⟩:∃wa,w.setCell ⟨g,2,none⟩ (.int .i64 (s2:Int))=wa:=⟨_,rfl⟩;simp only[hwa];have HA_wa:=hid (show SrcA wa g a len cap k s2 by rw[←hwa];exact HA.out.set2 s2);have HG_wa:=hid (show w.grownBy wa (some g) by rw[←hwa];exact gr_set (gr_refl _ _) _);clear hwa c0 c1 c2 f1 f2 hgl hr1 hw1 hw2 hw3;obtain⟨⟨c0,c1,c2⟩,f1,f2,hgl⟩:=HA_wa.out.cells;go_wp2_with fail;go_region_held3 (fun w'=>(∀b o,b<wa.heap.size→w'.cell? ⟨b,o,none⟩=wa.cell? ⟨b,o,none⟩)∧Keep (fun _=>True) wa w')
  (first|exact ks_mk (by repeat(first|exact zqK.drew|exact Keep.refl _ _)))
  (fail)
 rename_i hHd;clear hHd;obtain⟨wb,hwb⟩:∃wb,wa.drew=wb:=⟨_,rfl⟩;simp only[hwb];have HA_wb:=hid (show SrcA wb g a len cap k s2 by rw[←hwb];exact HA_wa.out.drew);have HG_wb:=hid (show w.grownBy wb (some g) by rw[←hwb];exact gr_drew HG_wa.out);clear hwb c0 c1 c2 f1 f2 hgl;obtain⟨⟨c0,c1,c2⟩,f1,f2,hgl⟩:=HA_wb.out.cells;have HMOD:=hid (show∀x:Nat,∃r:Nat,((x:Int)).tmod (n:Int)=(r:Int)∧r<n∧r≤x from fun x=>⟨x%n,tmod_nat x n,Nat.mod_lt _ (by have:=HH2.out;omega),Nat.mod_le _ _⟩);have hn0:¬(n:Int)=0:=by have:=HH2.out;omega
 by_cases hkl:k<len
 ·obtain⟨b,o,z,rfl,hbg,hbl,hcz,hz⟩:=HR.out.grown HG_wb.out k hkl;have hki:(k:Int)<(len:Int):=by omega
  have hki0:(0:Int)≤(k:Int):=by omega
  have hwz:IntKind.i64.wrap ((q:Int)+(z:Int))=(q:Int)+(z:Int):=zq6 _ (by have:=HQ.out;omega);have hzw:IntKind.i64.wrap (z:Int)=(z:Int):=zq6 _ (by omega);have hwk:IntKind.i64.wrap ((k:Int)+1)=(k:Int)+1:=zq6 _ (by have:=HL.out;omega);go_wp2_with fail;go_region_held3 (fun w'=>(∀b o,b<wb.heap.size→w'.cell? ⟨b,o,none⟩=wb.cell? ⟨b,o,none⟩)∧Keep (fun _=>True) wb w')
   (first|exact ks_mk (by repeat(first|exact zqK.drew|exact Keep.refl _ _)))
   (fail)
  rename_i hHd;clear hHd;obtain⟨wc,hwc⟩:∃wc,wb.drew=wc:=⟨_,rfl⟩;simp only[hwc];have HA_wc:=hid (show SrcA wc g (some ⟨b,o,none⟩) len cap k s2 by rw[←hwc];exact HA_wb.out.drew);have HG_wc:=hid (show w.grownBy wc (some g) by rw[←hwc];exact gr_drew HG_wb.out);clear hwc c0 c1 c2 f1 f2 hgl;obtain⟨⟨c0,c1,c2⟩,f1,f2,hgl⟩:=HA_wc.out.cells;go_upto_region 8 with fail;obtain⟨wd,hwd⟩:∃wd,wc.setCell ⟨g,1,none⟩ (.int .i64 ((k:Int)+1))=wd:=⟨_,rfl⟩;simp only[hwd];have HA_wd:=hid (show SrcA wd g (some ⟨b,o,none⟩) len cap (k+1) s2 by rw[←hwd];exact HA_wc.out.set1 (k+1));have HG_wd:=hid (show w.grownBy wd (some g) by rw[←hwd];exact gr_set HG_wc.out _);have hczd:=(Keep.grown HG_wd.out (S:=fun k=>k≠g) (fun k hk e=>hk (by injection e))).cell (b:=b) (o:=o+k) hbg (by
   obtain⟨b',o',z',e,_,h3,_⟩:=HR.out k hkl;simp only[zq42,zq96]at e;rw[e.1];exact h3)
  have hczw:w.cell? ⟨b,o+k,none⟩=some (.int .u8 (z:Int)):=by
   obtain⟨b',o',z',e,_,h3,h4,_⟩:=HR.out k hkl;simp only[zq42,zq96,and_true]at e;obtain⟨rfl,rfl⟩:=e;have:=(Keep.grown HG_wb.out (S:=fun k=>k≠g) (fun k hk e=>hk (by injection e))).cell (b:=b) (o:=o+k) hbg h3;rw[←this];exact hcz
  rw[hczw]at hczd;have hbld:b<wd.heap.size:=by
   obtain⟨b',o',z',e,_,h3,_⟩:=HR.out k hkl;simp only[zq42,zq96]at e;rw[e.1];exact zq7 h3 HG_wd.out.size
  obtain⟨k1,hk1⟩:∃k1,k+1=k1:=⟨_,rfl⟩;rw[hk1]at HA_wd;have HK1:=hid (show k1=k+1∧k<len by omega);have hsub:IntKind.i64.wrap ((k1:Int)-1)=(k:Int):=by rw[zq6 _ (by have:=HL.out;omega)];omega
  clear hwd c0 c1 c2 f1 f2 hgl hcz hbl hwk hczw hk1;obtain⟨⟨c0,c1,c2⟩,f1,f2,hgl⟩:=HA_wd.out.cells;obtain⟨p,hp⟩:∃p,k1%2=p:=⟨_,rfl⟩;have hpm:((k1:Int)).tmod 2=(p:Int):=by
   have:=tmod_nat k1 2;rw[hp]at this;exact this
  have hwp:IntKind.i64.wrap (p:Int)=(p:Int):=zq6 _ (by omega);clear hp;by_cases h256:n≤256
  ·have h256i:(n:Int)≤256:=by omega
   by_cases hp0:p=0
   ·subst hp0;go_wp2_with fail;go_region_held3 (fun w'=>(∀b o,b<wd.heap.size→w'.cell? ⟨b,o,none⟩=wd.cell? ⟨b,o,none⟩)∧Keep (fun _=>True) wd w')
     (first|exact ks_mk (by repeat(first|exact zqK.drew|exact Keep.refl _ _)))
     (fail)
    rename_i hHd;clear hHd;obtain⟨we,hwe⟩:∃we,wd.drew=we:=⟨_,rfl⟩;simp only[hwe];have HA_we:=hid (show SrcA we g (some ⟨b,o,none⟩) len cap k1 s2 by rw[←hwe];exact HA_wd.out.drew);have HG_we:=hid (show w.grownBy we (some g) by rw[←hwe];exact gr_drew HG_wd.out);clear hwe c0 c1 c2 f1 f2 hgl;obtain⟨⟨c0,c1,c2⟩,f1,f2,hgl⟩:=HA_we.out.cells;obtain⟨r,hr,hrn,hrx⟩:=HMOD.out (z)
    skip
    have hwr:IntKind.i64.wrap (r:Int)=(r:Int):=zq6 _ (by have:=HQ.out;omega);have HRR:=hid (show NextR n g (some ⟨b,o,none⟩) len cap w (.returned (.int .i64 (r:Int))) we from⟨r,rfl,hrn,⟨k1,s2,HA_we.out,by have:=HK1.out;omega,HS2.out,HL.out⟩,HG_we.out⟩);clear hrn hrx;go_wp2_with fail;go_ret;exact HRR.out
   ·have hpi:((p:Int)==0)=false:=by simp;omega
    obtain⟨r,hr,hrn,hrx⟩:=HMOD.out (q+z);rw[Int.natCast_add]at hr;have hwr:IntKind.i64.wrap (r:Int)=(r:Int):=zq6 _ (by have:=HQ.out;omega);have HRR:=hid (show NextR n g (some ⟨b,o,none⟩) len cap w (.returned (.int .i64 (r:Int))) wd from⟨r,rfl,hrn,⟨k1,s2,HA_wd.out,by have:=HK1.out;omega,HS2.out,HL.out⟩,HG_wd.out⟩);clear hrn hrx;go_wp2_with fail;go_ret;exact HRR.out
  ·have h256i:¬(n:Int)≤256:=by omega
   obtain⟨r,hr,hrn,hrx⟩:=HMOD.out (q+z);rw[Int.natCast_add]at hr;have hwr:IntKind.i64.wrap (r:Int)=(r:Int):=zq6 _ (by have:=HQ.out;omega);have HRR:=hid (show NextR n g (some ⟨b,o,none⟩) len cap w (.returned (.int .i64 (r:Int))) wd from⟨r,rfl,hrn,⟨k1,s2,HA_wd.out,by have:=HK1.out;omega,HS2.out,HL.out⟩,HG_wd.out⟩);clear hrn hrx;go_wp2_with fail;go_ret;exact HRR.out
 ·have hki:¬(k:Int)<(len:Int):=by omega
  obtain⟨r,hr,hrn,hrx⟩:=HMOD.out q;have hwr:IntKind.i64.wrap (r:Int)=(r:Int):=zq6 _ (by have:=HQ.out;omega);have HRR:=hid (show NextR n g a len cap w (.returned (.int .i64 (r:Int))) wb from⟨r,rfl,hrn,⟨k,s2,HA_wb.out,hk,HS2.out,HL.out⟩,HG_wb.out⟩);clear hrn hrx;go_wp2_with fail;go_ret;exact HRR.out
theorem next_any (n:Nat)(h2:2≤n)(hn:n≤1000000)(w:World)(g:Nat)(a:Option Addr)(len cap:Nat)(hS:Src w g a len cap)(hR:Rd w g a len):
  Calls Tryz.prog 52 #[.pointer (some ⟨g,0,none⟩),.int .i64 (n:Int)] w (NextR n g a len cap w):=next_l n h2 w g a len cap hS hR
theorem Src.lt {w:World}{g:Nat}{a:Option Addr}{len cap:Nat}(h:Src w g a len cap):g<w.heap.size:=by
 obtain⟨k,s,h1,_⟩:=h;exact(zq10.1 h1).1
end Go.Proofs.YtlmlamcoeegkbaaGreat.CyB
namespace Go.Proofs.YtlmlamcoeegkbaaGreat.CyC
open Go.RowKit Go.Proofs.YtlmlamcoeegkbaaGreat Tow CyA CyB
def Rd0 (w:World)(a:Option Addr)(len:Nat):Prop:=∀i,i<len→∃b o,∃z:Nat,a=some ⟨b,o,none⟩∧b<w.heap.size∧w.cell? ⟨b,o+i,none⟩=some (.int .u8 (z:Int))∧z<256
theorem Rd0.rd {w w':World}{a:Option Addr}{len g:Nat}(h:Rd0 w a len)(hb:Below w.heap.size w w')(hg:w.heap.size≤g):Rd w' g a len:=fun i hi=>by
 obtain⟨b,o,z,h1,h3,h4,h5⟩:=h i hi;exact⟨b,o,z,h1,by omega,zq7 h3 hb.size,by rw[(Keep.of_below (S:=fun _=>True) hb).cell trivial h3];exact h4,h5⟩
def FromR (a:Option Addr)(len cap:Nat)(w:World)(e:Ending)(w':World):Prop:=∃g,e= .returned (.pointer (some ⟨g,0,none⟩))∧w.heap.size≤g∧Src w' g a len cap∧Below w.heap.size w w'
theorem from_any (w:World)(a:Option Addr)(len cap:Nat)(hl:len≤4096)(hR:Rd0 w a len):Calls Tryz.prog 31 #[.slice a len cap] w (FromR a len cap w):=by
 have HR:=hid hR;obtain⟨g,hg⟩:∃g,w.heap.size=g:=⟨_,rfl⟩;obtain⟨w1,hw1⟩:∃w1,w1=w.alloc (.cells #[.slice a len cap,.int .i64 0,.int .i64 76001] 98):=⟨_,rfl⟩;have HA:=hid (show SrcA w1 g a len cap 0 76001 by rw[hw1,←hg];exact zq17 _ _);have HB:=hid (show Below w.heap.size w w1 by rw[hw1];exact zqB.alloc zqN _);have HL:=hid hl;have HGG:=hid hg;have hl63:(len:Int)≤9223372036854775807:=by omega
 clear hR hg;go_enter Tryz.func31,Tryz.ntmps31;go_upto_region 2 with fail;rw[←hw1];rw[HGG.out];clear hw1;go_wp2_with fail;go_loopw [4] (fun iv wr=>∃i s:Nat,i≤len∧iv= .int .i64 (i:Int)∧Hid (SrcA wr g a len cap 0 s)∧Hid (s<2147483647)∧Hid (Below w.heap.size w wr)) (fun iv _=>len-(intOf iv).toNat);case atStart=>exact⟨0,76001,zq4 _,rfl,HA,hid (by decide),HB⟩
 case round=>
  obtain⟨i,s,hi,rfl,hA,hs,hB⟩:=hrel;by_cases hlt:i<len
  ·have hii:(i:Int)<(len:Int):=by omega
   have hii0:(0:Int)≤(i:Int):=by omega
   by_cases h64:i<64
   ·have h64i:(i:Int)<64:=by omega
    obtain⟨⟨c0,c1,c2⟩,f1,f2,hgl⟩:=hA.out.cells;obtain⟨b,o,z,rfl,hbl,hcz,hz⟩:=HR.out i hlt;have hcz':=((Keep.of_below (S:=fun _=>True) hB.out).cell (b:=b) (o:=o+i) trivial hbl).trans hcz;have hbl':=zq7 hbl hB.out.size;obtain⟨s2,hs2⟩:∃s2,(s*71+z)%2147483647=s2:=⟨_,rfl⟩;have HS2:=hid (show s2<2147483647 by omega);have hr1:((s:Int)*71+(z:Int)).tmod 2147483647=(s2:Int):=by
     have:=tmod_nat (s*71+z) 2147483647;rw[hs2,Int.natCast_add,Int.natCast_mul]at this;exact this
    have hw1:IntKind.i64.wrap ((s:Int)*71)=(s:Int)*71:=zq6 _ (by have:=hs.out;omega);have hw2:IntKind.i64.wrap ((s:Int)*71+(z:Int))=(s:Int)*71+(z:Int):=zq6 _ (by have:=hs.out;omega);have hw3:IntKind.i64.wrap (s2:Int)=(s2:Int):=zq6 _ (by omega);have hw4:IntKind.i64.wrap (z:Int)=(z:Int):=zq6 _ (by omega);have HA':=hid (show SrcA ((wr.setCell ⟨g,2,none⟩ (.int .i64 (s2:Int))).drew) g (some ⟨b,o,none⟩) len cap 0 s2 from(hA.out.set2 s2).drew);have HB':=hid (show Below w.heap.size w ((wr.setCell ⟨g,2,none⟩ (.int .i64 (s2:Int))).drew) from(hB.out.setCell (p:=⟨g,2,none⟩) (by rw[HGG.out];exact zq1 _) _).drew);clear hcz hbl hs2 hA hB hz;go_wp2_with fail;go_region_law (fail);all_goals
     go_wp2_with fail;go_roundw;case rel=>exact⟨i+1,s2,by omega,by go_num,HA',HS2,HB'⟩
     case measure=>simp[intOf]<;>omega
   ·have h64i:¬(i:Int)<64:=by omega
    have HRR:=hid (show FromR a len cap w (.returned (.pointer (some ⟨g,0,none⟩))) wr from⟨g,rfl,by rw[HGG.out];exact zq1 _,⟨0,s,hA.out,zq4 _,hs.out,HL.out⟩,hB.out⟩);clear hA hB hs;go_wp2_with fail;go_ret;exact HRR.out
  ·obtain rfl:i=len:=by omega
   have HRR:=hid (show FromR a i cap w (.returned (.pointer (some ⟨g,0,none⟩))) wr from⟨g,rfl,by rw[HGG.out];exact zq1 _,⟨0,s,hA.out,zq4 _,hs.out,HL.out⟩,hB.out⟩);clear hA hB hs hlt;go_wp2_with fail;go_ret;exact HRR.out
def PickR (L:List Int)(g:Nat)(a:Option Addr)(len cap:Nat)(w:World)(e:Ending)(w':World):Prop:=∃x:Int,x∈L∧e= .returned (.int .i64 x)∧Src w' g a len cap∧w.grownBy w' (some g)
theorem pick_any (L:List Int)(m:Nat)(hm:L.length=m)(hm2:2≤m)(hm8:m≤12)(w:World)(B g:Nat)(a:Option Addr)(len cap:Nat)(hB:SlI (fun k=>k≠g) w (.slice (some ⟨B,0,none⟩) m m) L)(hS:Src w g a len cap)(hR:Rd w g a len):
  Calls Tryz.prog 74 #[.pointer (some ⟨g,0,none⟩),.slice (some ⟨B,0,none⟩) m m] w (PickR L g a len cap w):=by
 have HC:=hid (next_any m hm2 (by omega) w g a len cap hS hR);have HB:=hid hB;have HM:=hid hm;clear hS hR hB hm;go_enter Tryz.func74,Tryz.ntmps74;go_wp2_with fail;refine HC.out.mono ?_;rintro e w1 ⟨r,rfl,hr,hS1,hg1⟩;obtain⟨x,hx⟩:∃x,L[r]?=some x:=⟨_,zq0 (by rw[HM.out];exact hr)⟩;obtain⟨b',o',u,he,_,hbl,hcu,rfl⟩:=slg_get (HB.out.keep (Keep.grown hg1 fun k hk e=>hk (by injection e))) hx;obtain⟨rfl,rfl⟩:B=b'∧0=o':=by simpa using he
 rw[zq39]at hcu;have hri:(r:Int)<(m:Int):=by omega
 have hri0:(0:Int)≤(r:Int):=by omega
 have HR:=hid (show PickR L g a len cap w (.returned (.int .i64 x)) w1 from⟨x,zq5 hx,rfl,hS1,hg1⟩);clear hS1 hg1 hx HC he;go_wp2_with fail;go_ret;exact HR.out
theorem lit_sl {w:World}{L:List Int}{g:Nat}(hg:g<w.heap.size)(hl:L.length≤100):SlI (fun k=>k≠g) (w.alloc (.cells (L.map (Value.int .i64)).toArray 2)) (.slice (some ⟨w.heap.size,0,none⟩) L.length L.length) L:=by
 refine⟨_,L.length,rfl,zq1 _,by unfold maxLen;omega,by simp,fun i x hx=>⟨w.heap.size,0,rfl,by omega,by simp,.int .i64 x,?_,rfl⟩⟩;rw[zq15 _ _ _ _ _ (0,0) (zq17 _ _),zq39];simp[hx]
theorem gr_alloc (w:World)(o:Obj)(row:Option Nat):w.grownBy (w.alloc o) row:=⟨rfl,rfl,rfl,by simp,fun k hk _=>zq48 w o k hk⟩
end Go.Proofs.YtlmlamcoeegkbaaGreat.CyC
namespace Go.Proofs.YtlmlamcoeegkbaaGreat.DwT
open Go.RowKit Go.Proofs.YtlmlamcoeegkbaaGreat Tow
def R1 (B:Nat)(w:World)(n:Nat)(v:Value):Prop:=∃l:List Int,l.length=n∧w.ownsRow B 2 1 v n (vals l)
def R2 (B:Nat)(w:World)(L:List Nat)(v:Value):Prop:=∃us:List Value,w.ownsRow B 24 1 v L.length us∧∀(i n:Nat),L[i]?=some n→∃u,us[i]?=some u∧R1 B w n u
def R3 (B:Nat)(w:World)(M:List (List Nat))(v:Value):Prop:=∃us:List Value,w.ownsRow B 25 1 v M.length us∧∀(i:Nat) (L:List Nat),M[i]?=some L→∃u,us[i]?=some u∧R2 B w L u
structure Ty (B:Nat)(w w':World):Prop where
 one:∀n v,R1 B w n v→R1 B w' n v
 two:∀L v,R2 B w L v→R2 B w' L v
 three:∀M v,R3 B w M v→R3 B w' M v
theorem Ty.trans {B:Nat}{a b c:World}(h:Ty B a b)(g:Ty B b c):Ty B a c:=⟨fun n v x=>g.one n v (h.one n v x),fun n v x=>g.two n v (h.two n v x),fun n v x=>g.three n v (h.three n v x)⟩
theorem Ty.mk1 {B:Nat}{w w':World}
  (h1:∀n v,R1 B w n v→R1 B w' n v)
  (h2:∀(L:List Nat) (v:Value) us,w.ownsRow B 24 1 v L.length us→(∀(i n:Nat),L[i]?=some n→∃u,us[i]?=some u∧R1 B w n u)→∃us',w'.ownsRow B 24 1 v L.length us'∧∀(i n:Nat),L[i]?=some n→∃u,us'[i]?=some u∧R1 B w' n u)
  (h3:∀(M:List (List Nat)) (v:Value) us,w.ownsRow B 25 1 v M.length us→(∀(i:Nat) (L:List Nat),M[i]?=some L→∃u,us[i]?=some u∧R2 B w L u)→(∀L v,R2 B w L v→R2 B w' L v)→∃us',w'.ownsRow B 25 1 v M.length us'∧∀(i:Nat) (L:List Nat),M[i]?=some L→∃u,us'[i]?=some u∧R2 B w' L u):Ty B w w':=by
 have h2':∀L v,R2 B w L v→R2 B w' L v:=fun L v ⟨us,a,b⟩=>h2 L v us a b;exact⟨h1,h2',fun M v ⟨us,a,b⟩=>h3 M v us a b h2'⟩
theorem Ty.keep {B:Nat}{w w':World}{S:Nat→Prop}(hk:Keep S w w')(hS:∀k,B≤k→S k):Ty B w w':=by
 have h1:∀n v,R1 B w n v→R1 B w' n v:=fun n v ⟨l,a,b⟩=>⟨l,a,ownsRow_keep b hk hS⟩;refine Ty.mk1 h1 (fun L v us a b=>⟨us,ownsRow_keep a hk hS,fun i n hi=>?_⟩) (fun M v us a b h2=>⟨us,ownsRow_keep a hk hS,fun i L hi=>?_⟩)
 ·obtain⟨u,e1,e2⟩:=b i n hi;exact⟨u,e1,h1 _ _ e2⟩
 ·obtain⟨u,e1,e2⟩:=b i L hi;exact⟨u,e1,h2 _ _ e2⟩
theorem Ty.below {B:Nat}{w w':World}(hb:Below w.heap.size w w'):Ty B w w':=Ty.keep (S:=fun _=>True) (Keep.of_below hb) (fun _ _=>trivial)
theorem owns_other {B b i n:Nat}{e t:TypeId}{w:World}{v c:Value}{xs:List Value}{cur:Array Value}(h:w.ownsRow B e 1 v n xs)(hb:w.heap[b]?=some (.cells cur t (0,0)))(hne:e≠t):(w.setCell ⟨b,i,none⟩ c).ownsRow B e 1 v n xs:=by
 refine⟨h.1,?_⟩;rcases h.2 with h'|⟨g,cap,cu,h',hB,hg,h3⟩
 ·exact .inl h'
 ·refine .inr ⟨g,cap,cu,h',hB,?_,h3⟩;rw[zq53 w ⟨b,i,none⟩ g c ?_]
  ·exact hg
  ·intro e1;have e2:g=b:=e1;subst e2;rw[hg]at hb;injection hb with hb;injection hb with _ hb _;exact hne hb
theorem owns_same {B b i n:Nat}{e:TypeId}{w:World}{v c:Value}{xs:List Value}(h:w.ownsRow B e 1 v n xs):∃xs',(w.setCell ⟨b,i,none⟩ c).ownsRow B e 1 v n xs'∧∀(j:Nat) u,xs[j]?=some u→xs'[j]?=some u∨(v.ownBlock=some b∧j=i∧xs'[j]?=some c):=by
 rcases h.2 with⟨rfl,h0⟩|⟨g,cap,cu,rfl,hB,hg,h3⟩
 ·exact⟨xs,⟨h.1,.inl ⟨rfl,h0⟩⟩,fun j u hu=>.inl hu⟩
 ·by_cases e:g=b
  ·subst e;refine⟨xs.set i c,(zq109 h i c).1,fun j u hu=>?_⟩;by_cases hj:j=i
   ·subst hj;right;refine⟨rfl,rfl,?_⟩;have:=(zq2.1 hu).1;rw[zq94 this]
   ·left;rw[zq111 (fun h=>hj h.symm)];exact hu
  ·refine⟨xs,⟨h.1,.inr ⟨g,cap,cu,rfl,hB,?_,h3⟩⟩,fun j u hu=>.inl hu⟩;rw[zq53 w ⟨b,i,none⟩ g c e];exact hg
theorem all_vals:∀(xs:List Value),(∀u∈xs,∃x:Int,u= .int .i64 x)→∃l:List Int,xs=vals l:=by
 intro xs
 induction xs with
 |nil=>exact fun _=>⟨[],rfl⟩
 |cons a t ih=>
  intro h;obtain⟨x,hx⟩:=h a (zq24 ..);obtain⟨l,hl⟩:=ih fun u hu=>h u (zq23 _ hu);exact⟨x::l,by rw[hx,hl];rfl⟩
theorem R1.of_all {B n:Nat}{w:World}{v:Value}{xs:List Value}(h:w.ownsRow B 2 1 v n xs)(ha:∀(j:Nat) u,xs[j]?=some u→∃x:Int,u= .int .i64 x):R1 B w n v:=by
 obtain⟨l,rfl⟩:=all_vals xs fun u hu=>by
  obtain⟨j,hj⟩:=zq45 hu;exact ha j u hj
 exact⟨l,by have:=h.1;simpa using this,h⟩
theorem Ty.set1 {B b i:Nat}{w:World}{cur:Array Value}(hb:w.heap[b]?=some (.cells cur 2 (0,0)))(x:Int):Ty B w (w.setCell ⟨b,i,none⟩ (.int .i64 x)):=by
 have h1:∀n v,R1 B w n v→R1 B (w.setCell ⟨b,i,none⟩ (.int .i64 x)) n v:=by
  intro n v ⟨l,a,h⟩;obtain⟨xs',e1,e2⟩:=owns_same (b:=b) (i:=i) (c:=.int .i64 x) h;refine R1.of_all e1 fun j u hu=>?_;have hj:j<(vals l).length:=by
   have h3:=(zq2.1 hu).1;have h4:=h.1;have h5:=e1.1;omega
  rcases e2 j _ (zq0 hj)with h6|h6
  ·rw[hu]at h6;injection h6 with h6;exact⟨l[j]'(by simpa using hj),by rw[h6];simp⟩
  ·rw[hu]at h6;exact⟨x,by have:=h6.2.2;injection this⟩
 refine Ty.mk1 h1 (fun L v us a c=>⟨us,owns_other a hb (by decide),fun k n hk=>?_⟩) (fun M v us a c h2=>⟨us,owns_other a hb (by decide),fun k L hk=>?_⟩)
 ·obtain⟨u,e1,e2⟩:=c k n hk;exact⟨u,e1,h1 _ _ e2⟩
 ·obtain⟨u,e1,e2⟩:=c k L hk;exact⟨u,e1,h2 _ _ e2⟩
theorem R1.len {B n:Nat}{w:World}{v:Value}(h:R1 B w n v):∃a c,v= .slice a n c∧n≤c∧c≤maxLen:=by
 obtain⟨l,_,h2⟩:=h;rcases h2.2 with⟨rfl,h0⟩|⟨g,cap,cu,rfl,_,_,h3,h4,_⟩
 ·exact⟨none,0,by rw[h0],by omega,by simp[maxLen]⟩
 ·exact⟨_,cap,rfl,h3,h4⟩
theorem R1.same {B B' n m:Nat}{w w':World}{v:Value}(h:R1 B w n v)(g:R1 B' w' m v):n=m:=by
 obtain⟨a,c,e,_⟩:=h.len;obtain⟨a',c',e',_⟩:=g.len;rw[e]at e';injection e'
theorem Ty.set2 {B b i n:Nat}{w:World}{cur:Array Value}{u0 u:Value}(hb:w.heap[b]?=some (.cells cur 24 (0,0)))(h0:cur[i]?=some u0)(hu0:R1 B w n u0)(hu:R1 B w n u):Ty B w (w.setCell ⟨b,i,none⟩ u):=by
 have h1:∀n v,R1 B w n v→R1 B (w.setCell ⟨b,i,none⟩ u) n v:=fun n v ⟨l,a,h⟩=>⟨l,a,owns_other h hb (by decide)⟩;refine Ty.mk1 h1 (fun L v us a c=>?_) (fun M v us a c h2=>⟨us,owns_other a hb (by decide),fun k L hk=>?_⟩)
 ·obtain⟨us',e1,e2⟩:=owns_same (b:=b) (i:=i) (c:=u) a;refine⟨us',e1,fun k m hk=>?_⟩;obtain⟨x,f1,f2⟩:=c k m hk;rcases e2 k x f1 with h6|⟨h6,rfl,h7⟩
  ·exact⟨x,h6,h1 _ _ f2⟩
  ·refine⟨u,h7,h1 _ _ ?_⟩;have hx:x=u0:=by
    rcases a.2 with⟨rfl,h8⟩|⟨g,cap,cu,rfl,hB,hg,_,_,_,ht⟩
    ·cases h6
    ·have e:g=b:=by simpa[Value.ownBlock]using h6
     subst e;rw[hg]at hb;injection hb with hb;injection hb with hb _ _;rw[←ht,zq106]at f1;split at f1
     ·rw[←hb]at h0;rw[zq118,h0]at f1;injection f1 with f1;exact f1.symm
     ·cases f1
   rw[hx]at f2;rw[f2.same hu0];exact hu
 ·obtain⟨x,e1,e2⟩:=c k L hk;exact⟨x,e1,h2 _ _ e2⟩
theorem R1.sl {B n:Nat}{w:World}{v:Value}(h:R1 B w n v):∃l:List Int,l.length=n∧SlI (fun k=>B≤k) w v l:=by
 obtain⟨l,h1,h2⟩:=h;subst h1;exact⟨l,rfl,Own.sl h2⟩
theorem R1.of_own {B:Nat}{w:World}{v:Value}{x:List Int}(h:Own B w v x):R1 B w x.length v:=⟨x,rfl,h⟩
theorem R1.mono {B B' n:Nat}{w:World}{v:Value}(h:R1 B w n v)(hB:B'≤B):R1 B' w n v:=by
 obtain⟨l,h1,h2⟩:=h;exact⟨l,h1,ownsRow_mono h2 hB⟩
theorem R2.mono {B B':Nat}{L:List Nat}{w:World}{v:Value}(h:R2 B w L v)(hB:B'≤B):R2 B' w L v:=by
 obtain⟨us,h1,h2⟩:=h;refine⟨us,ownsRow_mono h1 hB,fun i n hi=>?_⟩;obtain⟨u,e1,e2⟩:=h2 i n hi;exact⟨u,e1,e2.mono hB⟩
theorem R3.mono {B B':Nat}{M:List (List Nat)}{w:World}{v:Value}(h:R3 B w M v)(hB:B'≤B):R3 B' w M v:=by
 obtain⟨us,h1,h2⟩:=h;refine⟨us,ownsRow_mono h1 hB,fun i n hi=>?_⟩;obtain⟨u,e1,e2⟩:=h2 i n hi;exact⟨u,e1,e2.mono hB⟩
theorem R1.grown {B n:Nat}{w w':World}{v:Value}{r:Option Nat}(h:R1 B w n v)(hg:w.grownBy w' r)(hr:v.ownBlock=none∨v.ownBlock≠r):R1 B w' n v:=by
 obtain⟨l,h1,h2⟩:=h;exact⟨l,h1,zq93 h2 hg hr⟩
theorem R1.other {B n b i:Nat}{w:World}{v c:Value}{t:TypeId}{cur:Array Value}(h:R1 B w n v)(hb:w.heap[b]?=some (.cells cur t (0,0)))(ht:t≠2):R1 B (w.setCell ⟨b,i,none⟩ c) n v:=by
 obtain⟨l,h1,h2⟩:=h;exact⟨l,h1,owns_other h2 hb (fun e=>ht e.symm)⟩
theorem R1.apart {B B' n m:Nat}{e:TypeId}{w:World}{v u:Value}{xs:List Value}(h:R1 B w n v)(hu:w.ownsRow B' e 1 u m xs)(he:2≠e):v.ownBlock=none∨v.ownBlock≠u.ownBlock:=by
 obtain⟨l,h1,h2⟩:=h;exact rows_apart h2 hu he
theorem R2.grown {B B' m:Nat}{e:TypeId}{L:List Nat}{w w':World}{v u:Value}{xs:List Value}(h:R2 B w L v)(hu:w.ownsRow B' e 1 u m xs)(he:2≠e)(hg:w.grownBy w' u.ownBlock)(hr:v.ownBlock=none∨v.ownBlock≠u.ownBlock):R2 B w' L v:=by
 obtain⟨us,h1,h2⟩:=h;refine⟨us,zq93 h1 hg hr,fun i n hi=>?_⟩;obtain⟨x,e1,e2⟩:=h2 i n hi;exact⟨x,e1,e2.grown hg (e2.apart hu he)⟩
theorem R2.other {B b i:Nat}{L:List Nat}{w:World}{v c:Value}{t:TypeId}{cur:Array Value}(h:R2 B w L v)(hb:w.heap[b]?=some (.cells cur t (0,0)))(ht:t≠2)(ht2:t≠24):R2 B (w.setCell ⟨b,i,none⟩ c) L v:=by
 obtain⟨us,h1,h2⟩:=h;refine⟨us,owns_other h1 hb (fun e=>ht2 e.symm),fun i n hi=>?_⟩;obtain⟨x,e1,e2⟩:=h2 i n hi;exact⟨x,e1,e2.other hb ht⟩
theorem R2.of_own2 {B n:Nat}{w:World}{v:Value}{rows:List (List Nat)}(h:Own2 24 2 B w v rows)(hr:∀r∈rows,r.length=n):R2 B w (List.replicate rows.length n) v:=by
 obtain⟨us,h1,h2,h3⟩:=h;refine⟨us,by rw[zq29];exact h1,fun i m hi=>?_⟩;rw[zq64]at hi;split at hi
 ·injection hi with hi;subst hi;rename_i hlt;have hu:us[i]?=some (us[i]'(by omega)):=zq0 _;refine⟨_,hu,?_⟩;have h4:=(h3 i _ _ (zq0 hlt) hu).2;exact⟨ints rows[i],by rw[ints_length];exact hr _ (zq76 _),by rw[hr _ (zq76 _)]at h4;exact h4⟩
 ·cases hi
end Go.Proofs.YtlmlamcoeegkbaaGreat.DwT
namespace Go.Proofs.YtlmlamcoeegkbaaGreat.DwB
open Go.RowKit Go.Proofs.YtlmlamcoeegkbaaGreat Tow CyA CyB CyC DwT
abbrev Any:Nat→Prop:=fun _=>True
abbrev rowV (n b:Nat):Value:=.slice (some ⟨b,0,none⟩) n n
theorem mkE (n:Nat)(hn:n≤100)(w:World):(Instr.makeSlice 24 (.int .i64 (n:Int)) (.int .i64 (n:Int))).run Tryz.prog w= .ok (.slice (some ⟨w.heap.size,0,none⟩) n n) (w.alloc (.cells (madeCells #[.int .i64 0] n) 2)):=
 run_make_row' (P:=Tryz.prog) 24 2 (.int .i64 0) 8 Tryz.underlying24 infoI rfl .i64 .i64 n (by omega) (by omega) w
theorem infoR3:(Tryz.prog.info? 25).map (fun i=>(i.zero,i.size,i.bytes))=some (some (.slice none 0 0),1,24):=by kernel_rfl
theorem row3f {w:World}{g:Nat}{a b c:Value}{t:TypeId}(h:w.heap[g]?=some (.cells #[a,b,c] t (0,0))):
  (w.cell? ⟨g,0,none⟩=some a∧w.cell? ⟨g,1,none⟩=some b∧w.cell? ⟨g,2,none⟩=some c)∧w.frozen? ⟨g,0,none⟩=false∧w.frozen? ⟨g,1,none⟩=false∧w.frozen? ⟨g,2,none⟩=false:=by
 exact⟨row3' h,zq25 _ _ _ _ _ h,zq25 _ _ _ _ _ h,zq25 _ _ _ _ _ h⟩
theorem new2 (W:World)(o1 o2:Obj):((W.alloc o1).alloc o2).heap[W.heap.size+1]?=some o2:=by
 have h:=zq17 (W.alloc o1) o2;rwa[show(W.alloc o1).heap.size=W.heap.size+1 by simp]at h
theorem old2 {W:World}{o1 o2 o:Obj}{k:Nat}(h:W.heap[k]?=some o):((W.alloc o1).alloc o2).heap[k]?=some o:=by
 have hk:=(zq10.1 h).1;rw[zq48 _ _ k (by simp;omega),zq48 _ _ k hk,h]
theorem put3 {W:World}{g:Nat}{a b c x y z:Value}{t:TypeId}(h:W.heap[g]?=some (.cells #[a,b,c] t (0,0))):
  (((W.setCell ⟨g,0,none⟩ x).setCell ⟨g,1,none⟩ y).setCell ⟨g,2,none⟩ z).heap[g]?=some (.cells #[x,y,z] t (0,0)):=by
 have hl:=(zq10.1 h).1;simp[World.setCell,Array.getElem?_modify,h]
theorem owns_form {B n s:Nat}{e:TypeId}{w:World}{v:Value}{xs:List Value}(h:w.ownsRow B e s v n xs):∃a c,v= .slice a n c:=by
 rcases h.2 with⟨rfl,hn⟩|⟨g,cap,cur,rfl,_⟩
 ·exact⟨none,0,by rw[hn]⟩
 ·exact⟨_,cap,rfl⟩
theorem owns_ne {w:World}{B g:Nat}{e t:TypeId}{s n:Nat}{v:Value}{xs:List Value}{cs:Array Value}(h:w.ownsRow B e s v n xs)(hb:w.heap[g]?=some (.cells cs t (0,0)))(hne:e≠t):v.ownBlock≠some g:=fun he=>by
 rcases h.2 with⟨h0,_⟩|⟨g',cap,cur,h0,_,hgg,_⟩
 ·rw[h0]at he;simp[Value.ownBlock]at he
 ·rw[h0]at he;have he:g'=g:=by simpa[Value.ownBlock]using he
  subst he;rw[hb]at hgg;simp at hgg;exact hne hgg.2.symm
theorem owns_keep1 {S:Nat→Prop}{w w':World}{B:Nat}{e:TypeId}{s n:Nat}{v:Value}{xs:List Value}(h:w.ownsRow B e s v n xs)(hk:Keep S w w')(hS:∀k,v.ownBlock=some k→S k):w'.ownsRow B e s v n xs:=by
 refine⟨h.1,?_⟩;rcases h.2 with h2|⟨g,cap,cur,rfl,hb,hh,r⟩
 ·exact .inl h2
 ·exact .inr ⟨g,cap,cur,rfl,hb,by rw[hk.block g (hS g rfl) (zq10.1 hh).1];exact hh,r⟩
def crowI (n i:Nat):List (List Nat):=(List.range (n-(i+1))).map fun k=>(List.replicate n 0).set (i+1+k) 1
theorem crowI_get {n i k:Nat}(h:k<n-(i+1)):(crowI n i)[k]?=some ((List.replicate n 0).set (i+1+k) 1):=by
 unfold crowI;rw[zq20,List.getElem?_range h];rfl
theorem crowI_succ {n i k:Nat}(h:k<n-(i+1)):(crowI n i).take k++[(List.replicate n 0).set (i+1+k) 1]=(crowI n i).take (k+1):=by
 rw[zq69,crowI_get h];rfl
theorem crowI_len (n i:Nat):(crowI n i).length=n-(i+1):=by unfold crowI;simp
theorem own_any (S:Nat→Prop)(v:Value)(l:List Int)(w:World)(hv:SlI S w v l)(hl:l.length≤1000000):
  Calls Tryz.prog 97 #[v] w (NewS l w):=by
 obtain⟨i0,hi,hz0,hz1,hz2⟩:=zq41 infoI;obtain⟨ao,c,rfl,hc,hm,hn,hx⟩:=hv;have HL:=hid hl;have HM:=hid hm;clear hl hm;have hsl:SlI S w (.slice ao l.length c) l:=⟨ao,c,rfl,hc,HM.out,hn,hx⟩;have HS:=hid hsl;have h00:=zq47 (base:=w.heap.size) (e:=2) (size:=1) w #[] 0 zqN (zq4 _) rfl;have HX:=hid hx;clear hsl hx;cases ao with
 |none=>
  obtain rfl:c=0:=hn rfl;obtain rfl:l=[]:=zq21 (by omega);go_enter Tryz.func97,Tryz.ntmps97;go_wp2_with fail;go_ret;exact⟨w.heap.size,0,rfl,h00,zqB.alloc zqN _⟩
 |some ad=>
  have C1:=hid (SlI.src (w':=w.alloc (.cells #[] 2)) HS.out (zqK.alloc _));have C2:=hid (vals_one l);have C3:=hid (show 0+l.length≤maxLen from by have:=HL.out;unfold maxLen;omega);have C4:=hid (show(0+l.length)*8≤140737488355328 from by have:=HL.out;omega);have C5:=hid (show(vals l).length=l.length*1 by simp[vals]);go_enter Tryz.func97,Tryz.ntmps97;go_wp2_with (at_builtin;refine zq55 _ rfl _ _ 24 rfl w.heap.size 2 i0 (.int .i64 0) 1 8 Tryz.underlying24 hi hz0 hz1 hz2 rfl (by decide) _ _ _ rfl h00 ad l.length c (vals l) rfl C5.out C1.out C2.out C3.out C4.out (by simp) ?_);intro v' w1 hown' hgrow hnil;have hO:Own w.heap.size w1 v' l:=by simpa[Own]using hown'
  have hB:Below w.heap.size w w1:=(zqB.alloc zqN _).grown hgrow (by simp) (by intro k hk;simp[Value.ownBlock]at hk;omega);have hne:v'≠.slice none 0 0:=hnil;clear hown' hgrow hnil;go_wp2_with fail;go_ret;obtain⟨g,cap,rfl⟩:=hO.head hne;exact⟨g,cap,rfl,hO,hB⟩
theorem Own_lit {B:Nat}(w:World)(cs:Array Value)(x:List Int)(hB:B≤w.heap.size)(hn:x.length≤maxLen)(h:cs.toList=vals x):Own B (w.alloc (.cells cs 2)) (.slice (some ⟨w.heap.size,0,none⟩) x.length x.length) x:=by
 have:=zq98 (base:=B) (e:=2) (size:=1) w cs x.length hB hn (by rw[←Array.length_toList,h];simp[vals]);rw[h]at this;exact this
def UnitR (n k:Nat)(w:World)(e:Ending)(w':World):Prop:=∃g,e= .returned (rowV n g)∧Own w.heap.size w' (rowV n g) (ints ((List.replicate n 0).set k 1))∧Below w.heap.size w w'
theorem unit_row (n k:Nat)(hn:n≤100)(hk:k<n)(w:World):
  Calls Tryz.prog 94 #[.int .i64 (n:Int),.int .i64 (k:Int)] w (UnitR n k w):=by
 have hmk:=mkE n (by omega) w;have HO:=Own.made (B:=w.heap.size) w n zqN (by unfold maxLen;omega);obtain⟨s1,f1⟩:=HO.cell (j:=k) (a:=0) (by simp[hk]);have HFF:=hid (Own_lit (B:=w.heap.size) w ((madeCells #[.int .i64 0] n).setIfInBounds k (.int .i64 1)) (ints ((List.replicate n 0).set k 1)) zqN (by simp[ints];unfold maxLen;omega) (by
  rw[Array.toList_setIfInBounds,zq108];simp[vals,ints]))
 clear HO;go_enter Tryz.func94,Tryz.ntmps94;go_wp2_with fail;go_ret;have:=HFF.out;simp only[ints_length,List.length_set,zq29]at this;exact⟨w.heap.size,rfl,this,zqB.alloc zqN _⟩
theorem unit_any (n k:Nat)(hn:n≤100)(hk:k<n)(w:World):
  Calls Tryz.prog 94 #[.int .i64 (n:Int),.int .i64 (k:Int)] w (NewS (ints ((List.replicate n 0).set k 1)) w):=
 (unit_row n k hn hk w).mono fun e w' ⟨g,h1,h2,h3⟩=>⟨g,n,by rw[h1];simp[ints],by simpa[ints]using h2,h3⟩
theorem in_T (x lo hi:Int)(h1:lo≤x)(h2:x≤hi)(w:World):Calls Tryz.prog 180 #[.int .i64 x,.int .i64 lo,.int .i64 hi] w fun e w'=>e= .returned (.bool true)∧w'=w:=by
 have h1':x≥lo:=h1;go_enter Tryz.func180,Tryz.ntmps180;go_wp2_with fail;go_ret;exact⟨rfl,rfl⟩
theorem in_F (x lo hi:Int)(h:¬(lo≤x∧x≤hi))(w:World):Calls Tryz.prog 180 #[.int .i64 x,.int .i64 lo,.int .i64 hi] w fun e w'=>e= .returned (.bool false)∧w'=w:=by
 by_cases h1:lo≤x
 ·have h2:¬x≤hi:=fun h2=>h ⟨h1,h2⟩;have h3:decide (x≤hi)=false:=zq67 h2;have h4:decide (lo≤x)=true:=zq83 h1;clear h;go_enter Tryz.func180,Tryz.ntmps180;go_wp2_with fail;go_ret;exact⟨rfl,rfl⟩
 ·have h4:decide (lo≤x)=false:=zq67 h1;clear h;go_enter Tryz.func180,Tryz.ntmps180;go_wp2_with fail;go_ret;exact⟨rfl,rfl⟩
structure TT (B n:Nat)(W:World)(g:Nat)(vO vP vC:Value)(p q:Nat):Prop where
 bx:W.heap[g]?=some (.cells #[vO,vP,vC] 28 (0,0))
 hg:B≤g
 O:R1 B W n vO
 P:∃us,W.ownsRow B 24 1 vP p us∧∀(i:Nat) u,us[i]?=some u→R1 B W n u
 C:∃us,W.ownsRow B 25 1 vC q us∧∀(i:Nat) u,us[i]?=some u→R2 B W (List.replicate (n-(i+1)) n) u∧∀k,vP.ownBlock=some k→u.ownBlock≠some k
theorem TT.lt {B n:Nat}{W:World}{g:Nat}{vO vP vC:Value}{p q:Nat}(h:TT B n W g vO vP vC p q):g<W.heap.size:=(zq10.1 h.bx).1
theorem TT.kept {B n:Nat}{W W':World}{g:Nat}{vO vP vC:Value}{p q:Nat}(h:TT B n W g vO vP vC p q)(hk:Keep (fun k=>B≤k) W W'):TT B n W' g vO vP vC p q:=by
 have hT:Ty B W W':=Ty.keep hk fun _ h=>h;obtain⟨us,p1,p2⟩:=h.P;obtain⟨vs,c1,c2⟩:=h.C;exact⟨(hk.block g h.hg h.lt).trans h.bx,h.hg,hT.one _ _ h.O,⟨us,ownsRow_keep p1 hk (fun _ h=>h),fun i u hu=>hT.one _ _ (p2 i u hu)⟩,vs,ownsRow_keep c1 hk (fun _ h=>h),fun i u hu=>⟨hT.two _ _ (c2 i u hu).1,(c2 i u hu).2⟩⟩
theorem TT.below {B n:Nat}{W W':World}{g:Nat}{vO vP vC:Value}{p q:Nat}(h:TT B n W g vO vP vC p q)(hb:Below W.heap.size W W'):TT B n W' g vO vP vC p q:=h.kept ((Keep.of_below (S:=Any) hb).mono fun _ _=>trivial)
theorem TT.start {B n:Nat}{W:World}{g:Nat}{vO:Value}(h:W.heap[g]?=some (.cells #[vO,.slice none 0 0,.slice none 0 0] 28 (0,0)))(hB:B≤g)(hO:R1 B W n vO):TT B n W g vO (.slice none 0 0) (.slice none 0 0) 0 0:=
 ⟨h,hB,hO,⟨[],zq56 _ _ _ _,fun i u hu=>by simp at hu⟩,[],zq56 _ _ _ _,fun i u hu=>by simp at hu⟩
theorem TT.mono {B B' n:Nat}{W:World}{g:Nat}{vO vP vC:Value}{p q:Nat}(h:TT B n W g vO vP vC p q)(hB:B'≤B):TT B' n W g vO vP vC p q:=by
 obtain⟨us,p1,p2⟩:=h.P;obtain⟨vs,c1,c2⟩:=h.C;exact⟨h.bx,zq11 hB h.hg,h.O.mono hB,⟨us,ownsRow_mono p1 hB,fun i u hu=>(p2 i u hu).mono hB⟩,vs,ownsRow_mono c1 hB,fun i u hu=>⟨(c2 i u hu).1.mono hB,(c2 i u hu).2⟩⟩
theorem TT.row {B n c g2:Nat}{W W1 W2:World}{g:Nat}{vO vP vC u:Value}{p q:Nat}{us:List Value}(h:TT B n W g vO vP vC p q)(hb:Below W.heap.size W W1)(hp1:W1.ownsRow B 24 1 vP p us)(hp2:∀(i:Nat) u,us[i]?=some u→R1 B W n u)(hu:R1 B W1 n u)
  (ho:W2.ownsRow B 24 1 (.slice (some ⟨g2,0,none⟩) (p+1) c) (p+1) (us++[u])) (hg:W1.grownBy W2 vP.ownBlock) (hat:vP.ownBlock=some g2∨W1.heap.size≤g2):
  TT B n (W2.setCell ⟨g,1,none⟩ (.slice (some ⟨g2,0,none⟩) (p+1) c)) g vO (.slice (some ⟨g2,0,none⟩) (p+1) c) vC (p+1) q:=by
 have h1:=h.below hb;have hT:Ty B W W1:=Ty.below hb;have hgl1:g<W1.heap.size:=h1.lt;have hPne:vP.ownBlock≠some g:=owns_ne hp1 h1.bx (by decide);obtain⟨vs,c1,c2⟩:=h1.C;have hbx2:W2.heap[g]?=some (.cells #[vO,vP,vC] 28 (0,0)):=(hg.block g hgl1 (fun e=>hPne e.symm)).trans h1.bx;have r1:∀v,R1 B W1 n v→R1 B (W2.setCell ⟨g,1,none⟩ (.slice (some ⟨g2,0,none⟩) (p+1) c)) n v:=fun v hv=>(hv.grown hg (hv.apart hp1 (by decide))).other hbx2 (by decide);refine⟨zq60 W2 g 1 _ _ _ hbx2,h.hg,r1 _ h1.O,⟨us++[u],owns_other ho hbx2 (by decide),fun i x hx=>?_⟩,vs,owns_other (zq93 c1 hg (rows_apart c1 hp1 (by decide))) hbx2 (by decide),fun i x hx=>?_⟩
 ·rcases zq36 i us.length with hi|hi
  ·rw[zq28 hi]at hx;exact r1 _ (hT.one _ _ (hp2 i x hx))
  ·rw[zq27 hi]at hx;rcases hj:i-us.length with _|j
   ·rw[hj]at hx;simp at hx;subst hx;exact r1 _ hu
   ·rw[hj]at hx;simp at hx
 ·obtain⟨d1,d2⟩:=c2 i x hx;have hne:x.ownBlock=none∨x.ownBlock≠vP.ownBlock:=by
   rcases hk:vP.ownBlock with _|k
   ·rcases hx':x.ownBlock with _|k'
    ·exact .inl rfl
    ·exact .inr (by simp)
   ·exact .inr (d2 k hk)
  refine⟨(d1.grown hp1 (by decide) hg hne).other hbx2 (by decide) (by decide),fun k hk=>?_⟩;have hk:g2=k:=by simpa[Value.ownBlock]using hk
  subst hk;rcases hat with h3|h3
  ·exact d2 _ h3
  ·intro e;obtain⟨us',q1,q2⟩:=d1;have:=(zq8 q1 _ e).2;omega
theorem TT.con {B n c g2:Nat}{W W1 W2:World}{g:Nat}{vO vP vC u:Value}{p q:Nat}{us:List Value}(h:TT B n W g vO vP vC p q)(hb:Below W.heap.size W W1)(hc1:W1.ownsRow B 25 1 vC q us)(hc2:∀(i:Nat) u,us[i]?=some u→R2 B W (List.replicate (n-(i+1)) n) u∧∀k,vP.ownBlock=some k→u.ownBlock≠some k)
  (hu:R2 B W1 (List.replicate (n-(q+1)) n) u) (hup:∀k,vP.ownBlock=some k→u.ownBlock≠some k)
  (ho:W2.ownsRow B 25 1 (.slice (some ⟨g2,0,none⟩) (q+1) c) (q+1) (us++[u])) (hg:W1.grownBy W2 vC.ownBlock):
  TT B n (W2.setCell ⟨g,2,none⟩ (.slice (some ⟨g2,0,none⟩) (q+1) c)) g vO vP (.slice (some ⟨g2,0,none⟩) (q+1) c) p (q+1):=by
 have h1:=h.below hb;have hT:Ty B W W1:=Ty.below hb;have hgl1:g<W1.heap.size:=h1.lt;have hCne:vC.ownBlock≠some g:=owns_ne hc1 h1.bx (by decide);have hbx2:W2.heap[g]?=some (.cells #[vO,vP,vC] 28 (0,0)):=(hg.block g hgl1 (fun e=>hCne e.symm)).trans h1.bx;have r1:∀v,R1 B W1 n v→R1 B (W2.setCell ⟨g,2,none⟩ (.slice (some ⟨g2,0,none⟩) (q+1) c)) n v:=fun v hv=>(hv.grown hg (hv.apart hc1 (by decide))).other hbx2 (by decide);have r2:∀L v,R2 B W1 L v→R2 B (W2.setCell ⟨g,2,none⟩ (.slice (some ⟨g2,0,none⟩) (q+1) c)) L v:=fun L v hv=>by
  obtain⟨xs,q1,q2⟩:=id hv;exact(hv.grown hc1 (by decide) hg (rows_apart q1 hc1 (by decide))).other hbx2 (by decide) (by decide)
 obtain⟨vs,p1,p2⟩:=h1.P;have hl:us.length=q:=by have:=hc1.1;omega
 refine⟨zq60 W2 g 2 _ _ _ hbx2,h.hg,r1 _ h1.O,⟨vs,owns_other (zq93 p1 hg (rows_apart p1 hc1 (by decide))) hbx2 (by decide),fun i x hx=>r1 _ (p2 i x hx)⟩,us++[u],owns_other ho hbx2 (by decide),fun i x hx=>?_⟩;rcases zq36 i us.length with hi|hi
 ·rw[zq28 hi]at hx;exact⟨r2 _ _ (hT.two _ _ (hc2 i x hx).1),(hc2 i x hx).2⟩
 ·rw[zq27 hi]at hx;rcases hj:i-us.length with _|j
  ·rw[hj]at hx;simp at hx;subst hx;have:i=q:=by omega
   subst this;exact⟨r2 _ _ hu,hup⟩
  ·rw[hj]at hx;simp at hx
def PT (B:Nat)(w:World)(n:Nat)(vO vP vC:Value):Prop:=R1 B w n vO∧R2 B w (List.replicate n n) vP∧R3 B w ((List.range n).map fun i=>List.replicate (n-(i+1)) n) vC
theorem TT.pt {B n:Nat}{W:World}{g:Nat}{vO vP vC:Value}(h:TT B n W g vO vP vC n n):PT B W n vO vP vC:=by
 obtain⟨us,p1,p2⟩:=h.P;obtain⟨vs,c1,c2⟩:=h.C;have l1:us.length=n:=by have:=p1.1;omega
 have l2:vs.length=n:=by have:=c1.1;omega
 refine⟨h.O,⟨us,by simpa using p1,fun i m hi=>?_⟩,vs,by simpa using c1,fun i L hi=>?_⟩
 ·rw[zq64]at hi;split at hi
  ·injection hi with hi;subst hi;have hu:us[i]?=some (us[i]'(by omega)):=zq0 _;exact⟨_,hu,p2 i _ hu⟩
  ·cases hi
 ·rw[zq20]at hi;rcases zq36 i n with h3|h3
  ·rw[List.getElem?_range h3]at hi;simp at hi;subst hi;have hu:vs[i]?=some (vs[i]'(by omega)):=zq0 _;exact⟨_,hu,(c2 i _ hu).1⟩
  ·rw[zq51 (by simpa using h3)]at hi;cases hi
def TrivR (n:Nat)(w:World)(e:Ending)(w':World):Prop:=∃vO vP vC,e= .returned (.agg #[vO,vP,vC])∧PT w.heap.size w' n vO vP vC∧Below w.heap.size w w'
theorem triv_any (os:List Int)(v:Value)(w:World)(hv:SlI Any w v os)(hn:os.length≤100):
  Calls Tryz.prog 96 #[v] w (TrivR os.length w):=by
 obtain⟨i0,hi,hz0,hz1,hz2⟩:=zq41 infoR;obtain⟨j0,ji,jz0,jz1,jz2⟩:=zq41 infoR3;obtain⟨a,c,rfl,hcl,hcm⟩:=slg_form hv;obtain⟨n,hnn⟩:∃n,os.length=n:=⟨_,rfl⟩;have HV:=hid hv;have HNN:=hid hnn;have HC:=hid (fun W hv=>(own_any Any (.slice a os.length c) os W hv (by omega)).mono (R':=fun e w'=>∃a2 c2,e= .returned (.slice a2 os.length c2)∧R1 W.heap.size w' os.length (.slice a2 os.length c2)∧Below W.heap.size W w') (by
  rintro e w2 ⟨g2,c2,rfl,ho2,hb2⟩;exact⟨_,c2,rfl,R1.of_own ho2,hb2⟩))
 have HU:=hid (fun k hk W=>unit_any n k (by omega) hk W);rw[hnn]at hn HC hcl ⊢;have hv':=hv;rw[hnn]at hv';have HV:=hid hv';have hmk:∀W:World,(Instr.makeSlice 24 (.int .i64 (n:Int)) (.int .i64 (n:Int))).run Tryz.prog W= .ok (.slice (some ⟨W.heap.size,0,none⟩) n n) (W.alloc (.cells (madeCells #[.int .i64 0] n) 2)):=fun W=>mkE n (by omega) W;clear hv hv' hnn;go_enter Tryz.func96,Tryz.ntmps96;go_upto_region 1 with fail;obtain⟨w1,hw1⟩:∃w1,w1=w.alloc (.cells #[.slice none 0 0,.slice none 0 0,.slice none 0 0] 28):=⟨_,rfl⟩;rw[←hw1];have hb1:Below w.heap.size w w1:=by rw[hw1];exact zqB.alloc zqN _
 have hs1:w1.heap.size=w.heap.size+1:=by rw[hw1];simp
 have G1:=hid (show w1.heap[w.heap.size]?=some (.cells #[.slice none 0 0,.slice none 0 0,.slice none 0 0] 28 (0,0)) by rw[hw1];exact zq17 _ _);have HV1:=hid (HV.out.keep (Keep.of_below hb1));have HB1:=hid hb1;have HS1:=hid hs1;clear hw1 hb1 hs1;go_wp2_with (first|(go_at_call 97;refine(HC.out _ HV1.out).mono ?_;rintro e w2 ⟨a2,c2,rfl,ho2,hb2⟩)|fail);obtain⟨g,hg⟩:∃g,w2.heap.size=g:=⟨_,rfl⟩;obtain⟨w3,hw3⟩:∃w3,w3=w2.alloc (.cells #[.slice a2 n c2,.slice none 0 0,.slice none 0 0] 28):=⟨_,rfl⟩;have HT0:=hid (show TT w1.heap.size n w3 g (.slice a2 n c2) (.slice none 0 0) (.slice none 0 0) 0 0 from TT.start (by rw[hw3,←hg];exact zq17 _ _) (by have:=hb2.size;omega) (by
  rw[hw3];exact(Ty.keep (S:=Any) ((Keep.refl _ w2).alloc _) fun _ _=>trivial).one _ _ ho2))
 have HB3:=hid (show Below w1.heap.size w1 w3 from by rw[hw3];exact hb2.alloc hb2.size _);rw[←hw3,hg];clear hw3 hg ho2 hb2;have hn63:(n:Int)≤100:=by omega
 go_loopw [5] (fun iv wr=>∃(i:Nat) (vP vC:Value),i≤n∧iv= .int .i64 (i:Int)∧Hid (TT w1.heap.size n wr g (.slice a2 n c2) vP vC i i)∧Hid (Below w1.heap.size w1 wr)) (fun iv _=>n-(intOf iv).toNat);case atStart=>exact⟨0,_,_,zq4 _,rfl,HT0,HB3⟩
 case round=>
  obtain⟨i,vP,vC,hi',rfl,hS,hB⟩:=hrel;by_cases hlt:i<n
  ·obtain⟨us,hp1,hp2⟩:=hS.out.P;obtain⟨aP,cP,rfl⟩:=owns_form hp1;have HP:=hid hp1;have HP2:=hid hp2;clear hp1 hp2;obtain⟨⟨e0,e1,e2⟩,f0,f1,f2⟩:=row3f hS.out.bx;have hgl:g<wr.heap.size:=hS.out.lt;have HBX:=hid hS.out.bx;have hne:some g≠(Value.slice aP i cP).ownBlock:=fun e=>owns_ne HP.out HBX.out (by decide) e.symm;have HS1:=hid hB.out.size;have hki:(i:Int)<(n:Int):=by omega
   have hi6:i≤100:=by omega
   obtain⟨w4,hw4⟩:∃w4,w4=wr:=⟨_,rfl⟩;have HW4:=hid hw4;clear hw4;go_upto_region 6 with fail;go_cut [23] (fun sv W=>∃c5 gg,sv= .slice (some ⟨gg,0,none⟩) (i+1) c5∧Hid (TT w1.heap.size n W g (.slice a2 n c2) (.slice (some ⟨gg,0,none⟩) (i+1) c5) vC (i+1) i)∧Hid (Below w1.heap.size w1 W));case rest=>
    obtain⟨c5,gg,rfl,hS',hB'⟩:=hcut;clear hS hB HP HP2 HBX hne HS1 e0 e1 e2 f0 f1 f2 hgl;obtain⟨wo,hwo⟩:∃wo,wo=wc:=⟨_,rfl⟩;rw[←hwo]at hS' hB' ⊢;have hgo:g<wo.heap.size:=hS'.out.lt;clear hwo;have hw1:IntKind.i64.wrap ((i:Int)+1)=(i:Int)+1:=zq6 _ (by omega);have HLN:=hid (crowI_len n i);have HNIL:=hid (show Own2 24 2 wo.heap.size (wo.alloc (.cells #[] 24)) (.slice (some ⟨wo.heap.size,0,none⟩) 0 0) ((crowI n i).take 0) from⟨[],zq98 (base:=wo.heap.size) (e:=24) (size:=1) wo #[] 0 zqN (by unfold maxLen;omega) (by simp),rfl,by simp⟩);go_wp2_with fail;go_loopw [6,7] (fun lv jv wr=>∃k:Nat,i+1+k≤n∧jv= .int .i64 ((i:Int)+1+(k:Int))∧Hid (Own2 24 2 wo.heap.size wr lv ((crowI n i).take k))∧Hid (Below wo.heap.size wo wr)) (fun _ jv _=>n-(intOf jv).toNat);case atStart=>exact⟨0,by omega,by simp,HNIL,(hid (zqB.alloc zqN _))⟩
    case round=>
     obtain⟨k,hk,rfl,hO,hBI⟩:=hrel;obtain⟨aL,cL,rfl,_,_⟩:=hO.out.form;have hll:((crowI n i).take k).length=k:=by rw[zq75,HLN.out];omega
     rw[hll]at hO ⊢;have hw2:IntKind.i64.wrap ((i:Int)+1+(k:Int))=(i:Int)+1+(k:Int):=zq6 _ (by omega);by_cases hlt2:i+1+k<n
     ·have hki2:(i:Int)+1+(k:Int)<(n:Int):=by omega
      have HUC:=hid (show Calls Tryz.prog 94 #[.int .i64 (n:Int),.int .i64 ((i:Int)+1+(k:Int))] _ (NewS (ints ((List.replicate n 0).set (i+1+k) 1)) _) from by
       have h:=HU.out (i+1+k) hlt2 wr;rw[show(((i+1+k:Nat)):Int)=(i:Int)+1+(k:Int) by omega]at h;exact h)
      obtain⟨us,q1,q2,q4⟩:=hO.out;have HUS:=hid (And.intro q1 (And.intro q2 q4));rw[hll]at HUS;have HSZ:=hid hBI.out.size;have hk6:k≤100:=by omega
      clear q1 q2 q4 hll;go_wp2_with fail;refine HUC.out.mono ?_;rintro e w5 ⟨g5,c5',rfl,ho5,hb5⟩;have hl5:(ints ((List.replicate n 0).set (i+1+k) 1)).length=n:=by rw[ints_length];simp
      have HRW:=hid (RowOk.keep (NewS.row (ho5.mono HSZ.out)) ((Keep.refl Any w5).alloc (.cells #[.slice (some ⟨g5,0,none⟩) (ints ((List.replicate n 0).set (i+1+k) 1)).length c5'] 24)) fun _ _=>trivial);rw[hl5]at HRW ⊢;have a1:=ownsRow_keep HUS.out.1 (S:=Any) ((Keep.of_below hb5).trans ((Keep.refl Any w5).alloc (.cells #[.slice (some ⟨g5,0,none⟩) n c5'] 24))) (fun _ _=>trivial);have HB5:=hid ((hBI.out.trans (hb5.mono hBI.out.size)).alloc (by have:=HSZ.out;have:=hb5.size;omega) (.cells #[.slice (some ⟨g5,0,none⟩) n c5'] 24));have HK5:=hid (show Keep Any wr _ from(Keep.of_below hb5).trans ((Keep.refl Any w5).alloc (.cells #[.slice (some ⟨g5,0,none⟩) n c5'] 24)));have HS5:=hid (show wo.heap.size≤w5.heap.size by have:=HSZ.out;have:=hb5.size;omega);clear ho5 hb5 hl5;go_wp2_with (at_builtin;(refine zq52 _ rfl _ _ 25 rfl wo.heap.size 24 i0 (.slice none 0 0) 1 24 Tryz.underlying25 hi hz0 hz1 hz2 rfl (by decide) _ _ _ rfl a1 ⟨w5.heap.size,0,none⟩ 1 1 [.slice (some ⟨g5,0,none⟩) n c5'] rfl rfl (zq50 (cs:= #[.slice (some ⟨g5,0,none⟩) n c5']) (t:=24) (fr:=(0,0)) (zq17 w5 _)) (by simp[Value.oneCell']) (by decide) (by unfold maxLen;omega) (by omega) (by have:=HS5.out;simp;omega) _ rfl ?_));intro g6 c6 w6 ho6 hg6 hat6 hlt6;have hl7:((crowI n i).take k).length=k:=by rw[zq75,HLN.out];omega
      have HN:=hid (Own2.push (rows:=(crowI n i).take k) (by decide) hl7 a1 (by rw[HUS.out.2.1,hl7]) (fun i' r u h1 h2=>(HUS.out.2.2 i' r u h1 h2).keep HK5.out (fun _ _=>trivial)) HRW.out ho6 hg6);rw[crowI_succ (by omega)]at HN;have HBN:=hid (HB5.out.grown hg6 (by have:=HS5.out;simp;omega) (by intro b hb;exact(zq8 a1 b hb).1));clear ho6 hg6 hat6 hlt6 a1 hl7 hO hBI HB5;go_wp2_with fail;go_roundw;case rel=>exact⟨k+1,by omega,by go_num,HN,HBN⟩
      case measure=>simp[intOf];omega
     ·obtain rfl:k=n-(i+1):=by omega
      have hlx:n-(i+1)=(crowI n i).length:=HLN.out.symm;have HOF:=hid (show Own2 24 2 wo.heap.size wr (.slice aL (n-(i+1)) cL) (crowI n i) from by
       have h:=hO.out;rw[zq90 (by rw[HLN.out];exact zq1 _)]at h;exact h)
      obtain⟨ln,hln⟩:∃ln,n-(i+1)=ln:=⟨_,rfl⟩;have hln6:ln≤100:=by omega
      have hjn:(i:Int)+1+(ln:Int)=(n:Int):=by omega
      rw[hln]at HOF ⊢;have HT:=hid (hS'.out.below hBI.out);have HBB:=hid (hB'.out.trans (hBI.out.mono hB'.out.size));have HS6:=hid (show w1.heap.size≤wr.heap.size from HBB.out.size);obtain⟨us,c1,c3⟩:=HT.out.C;obtain⟨aC,cC,rfl⟩:=owns_form c1;have HC3:=hid c3;obtain⟨⟨e0,e1,e2⟩,f0,f1,f2⟩:=row3f HT.out.bx;have hgl:g<wr.heap.size:=HT.out.lt;have HBX:=hid HT.out.bx;have hne:some g≠(Value.slice aC i cC).ownBlock:=fun e=>owns_ne c1 HBX.out (by decide) e.symm;obtain⟨pus,hpu1,hpu2⟩:=hS'.out.P;have hgl2:=zq8 hpu1 gg rfl;have HUF:=hid (show R2 w1.heap.size (wr.alloc (.cells #[.slice aL ln cL] 25)) (List.replicate (n-(i+1)) n) (.slice aL ln cL) from(Ty.keep (S:=Any) ((Keep.refl _ wr).alloc _) fun _ _=>trivial).two _ _ (by
       have h:=R2.of_own2 (n:=n) HOF.out (fun r hr=>by
        obtain⟨k',hk'⟩:=zq45 hr;have h5:k'<n-(i+1):=by have:=(zq2.1 hk').1;rw[HLN.out]at this;exact this
        rw[crowI_get h5]at hk';injection hk' with hk';rw[←hk'];simp)
       rw[HLN.out]at h;exact h.mono (by have:=hB'.out.size;omega)))
      have HAP:=hid (show∀k,(Value.slice (some ⟨gg,0,none⟩) (i+1) c5).ownBlock=some k→(Value.slice aL ln cL).ownBlock≠some k from fun k hk hk2=>by
       obtain⟨xs,q1,_⟩:=HOF.out;have h5:=(zq8 q1 k hk2).1;have h6:gg=k:=by simpa[Value.ownBlock]using hk
       omega)
      clear hpu1 hpu2 hgl2;have a1:=ownsRow_keep c1 (S:=Any) ((Keep.refl Any wr).alloc (.cells #[.slice aL ln cL] 25)) (fun _ _=>trivial);have HBW:=hid (show Below wr.heap.size wr (wr.alloc (.cells #[.slice aL ln cL] 25)) from zqB.alloc zqN _);clear hlx hO hll hBI hlt2 c3 HOF;have hfin:¬((i:Int)+1+(ln:Int)<(n:Int)):=by omega
      have hi66:i≤100:=by omega
      go_wp2_with (at_builtin;(refine zq52 _ rfl _ _ 26 rfl w1.heap.size 25 j0 (.slice none 0 0) 1 24 Tryz.underlying26 ji jz0 jz1 jz2 rfl (by decide) _ _ _ rfl a1 ⟨wr.heap.size,0,none⟩ 1 1 [.slice aL ln cL] rfl rfl (zq50 (cs:= #[.slice aL ln cL]) (t:=25) (fr:=(0,0)) (zq17 wr _)) (by simp[Value.oneCell']) (by decide) (by unfold maxLen;omega) (by omega) (by have:=HS6.out;simp;omega) _ rfl ?_));intro g7 c7 w7 ho7 hg7 hat7 hlt7;have g10:=(hg7.block g (by simp;omega) hne).trans ((zq48 wr _ g hgl).trans HBX.out);obtain⟨⟨m0,m1,m2⟩,n0,n1,n2⟩:=row3f g10;have HN:=hid (TT.con HT.out HBW.out a1 HC3.out HUF.out HAP.out ho7 hg7);have HBN:=hid ((HBB.out.alloc HS6.out (.cells #[.slice aL ln cL] 25)).grown hg7 (by have:=HS6.out;simp;omega) (by intro b hb;exact(zq8 a1 b hb).1));have HBN2:=hid (HBN.out.setCell (p:=⟨g,2,none⟩) HT.out.hg (.slice (some ⟨g7,0,none⟩) (i+1) c7));clear ho7 hg7 hat7 hlt7 a1 g10 c1 e0 e1 e2 HT HUF HBW HBN HC3 HAP;go_wp2_with fail;go_roundw;case rel=>exact⟨i+1,_,_,by omega,by go_num,HN,HBN2⟩
      case measure=>simp[intOf];omega
   go_region_law
    (first|(refine zq119 _ (by rfl) _ _ _ (by rfl) w1.heap.size 24 i0 (.slice none 0 0) 1 24 Tryz.underlying25 hi hz0 hz1 hz2 rfl (by omega) (.slice aP i cP) i us (by rfl) (ownsRow_keep HP.out (S:=Any) (by repeat(first|exact zqK.drew|exact Keep.refl _ _|refine Keep.drew ?_|refine Keep.alloc ?_ _)) (fun _ _=>trivial)) ⟨wr.heap.size+1,0,none⟩ 1 1 [rowV n wr.heap.size] (by rfl) (by rfl) (zq50 (cs:= #[rowV n wr.heap.size]) (t:=24) (fr:=(0,0)) (by first|exact new2 wr.drew _ _|exact new2 wr _ _)) (by simp[Value.oneCell']) (by omega) (by unfold maxLen;omega) (by omega) (by have:=HS1.out;simp;omega) _ rfl ?_;intro gg cap w10 hown10 hgrow10 hat10 hlt10;have g10:=(hgrow10.block g (by simp;omega) hne).trans (by first|exact old2 (W:=wr.drew) HBX.out|exact old2 (W:=wr) HBX.out);obtain⟨⟨m0,m1,m2⟩,n0,n1,n2⟩:=row3f g10))
   all_goals
    have HW:Below wr.heap.size wr ((wr.alloc (Obj.cells (madeCells #[Value.int IntKind.i64 0] n) 2)).alloc (Obj.cells #[rowV n wr.heap.size] 24)).drew:=((zqB.alloc zqN _).alloc (by simp) _).drew;have HOW:=hid (show R1 w1.heap.size ((wr.alloc (Obj.cells (madeCells #[Value.int IntKind.i64 0] n) 2)).alloc (Obj.cells #[rowV n wr.heap.size] 24)).drew n (rowV n wr.heap.size) from by
     have h:=Own.made (B:=w1.heap.size) wr n HS1.out (by unfold maxLen;omega);have h2:=R1.of_own (h.alloc (.cells #[rowV n wr.heap.size] 24)).drew;rw[zq29]at h2;exact h2)
    have HR:=hid (TT.row hS.out HW (ownsRow_keep HP.out (S:=Any) (Keep.of_below HW) (fun _ _=>trivial)) HP2.out HOW.out hown10 hgrow10 (by rcases hat10 with h|h;exact .inl h;exact .inr (by rw[h];exact zq1 _)));go_wp2_with fail;go_meet;refine⟨cap,gg,rfl,HR,?_⟩
    ·exact hid (((hB.out.trans (HW.mono HS1.out)).grown hgrow10 (zq11 HS1.out HW.size) (by intro k hk;exact(zq8 HP.out k hk).1)).setCell (p:=⟨g,1,none⟩) hS.out.hg _)
  ·obtain rfl:i=n:=by omega
   have HR0:=hid (blk' hB.out (by have:=HS1.out;omega) G1.out);obtain⟨⟨r0,r1,r2⟩,s0,s1,s2⟩:=row3f HR0.out;obtain⟨⟨e0,e1,e2⟩,f0,f1,f2⟩:=row3f hS.out.bx;obtain⟨us,k1,k2⟩:=hS.out.C;obtain⟨ps,k3,k4⟩:=hS.out.P;obtain⟨aP,cP,rfl⟩:=owns_form k3;obtain⟨aC,cC,rfl⟩:=owns_form k1;have HFIN:=hid (show TrivR i w (.returned (.agg #[.slice a2 i c2,.slice aP i cP,.slice aC i cC])) (((wr.setCell ⟨w.heap.size,0,none⟩ (.slice a2 i c2)).setCell ⟨w.heap.size,1,none⟩ (.slice aP i cP)).setCell ⟨w.heap.size,2,none⟩ (.slice aC i cC)) from by
    refine⟨_,_,_,rfl,?_,?_⟩
    ·exact((hS.out.kept ((((Keep.refl _ wr).setCell (by have:=HS1.out;simp;omega) _).setCell (by have:=HS1.out;simp;omega) _).setCell (by have:=HS1.out;simp;omega) _)).mono (by have:=HS1.out;omega)).pt
    ·exact(((HB1.out.trans (hB.out.mono (by have:=HS1.out;omega))).setCell (p:=⟨w.heap.size,0,none⟩) zqN _).setCell (p:=⟨w.heap.size,1,none⟩) zqN _).setCell (p:=⟨w.heap.size,2,none⟩) zqN _)
   clear hS k1 k2 k3 k4;go_wp2_with fail;obtain⟨⟨z0,z1,z2⟩,-⟩:=row3f (put3 (x:=.slice a2 i c2) (y:=.slice aP i cP) (z:=.slice aC i cC) HR0.out);exact zq12 (v:=.agg #[.slice a2 i c2,.slice aP i cP,.slice aC i cC]) (by simp[results,Tryz.results96,go_sem,z0,z1,z2]) rfl HFIN.out
end Go.Proofs.YtlmlamcoeegkbaaGreat.DwB
