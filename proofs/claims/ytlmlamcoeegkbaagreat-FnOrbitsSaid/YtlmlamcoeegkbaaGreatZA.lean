import Derived.Test.YtlmlamcoeegkbaaGreatZ0
import Derived.Test.YtlmlamcoeegkbaaGreatZz
import Derived.Lib.Overlaps
import Derived.Shelf.Spec.SlicesInsert
import Derived.Lib.AppendZerosOnto
import Derived.Laws.NewBlocks
import Derived.Lib.BufferMore
import Derived.Lib.BufferOwn
/-
  Lemmas for the law FnOrbits, in short spelling.
-/
open Go.Lib (hid)
set_option linter.unusedVariables false
set_option linter.unusedSimpArgs false
set_option maxRecDepth 100000
set_option maxHeartbeats 40000000
namespace Go.Proofs.YtlmlamcoeegkbaaGreat.CmpI
open Go.RowKit Go.Proofs.YtlmlamcoeegkbaaGreat Tow
open Go.Proofs.YtlmlamcoeegkbaaGreat.Cmp (cmpN cmpL cmpL_drop)
theorem nan_any (x:Nat)(w:World):Calls Tryz.prog 178 #[.int .i64 (x:Int)] w fun e w'=>e= .returned (.bool false)∧w=w':=by
 go_enter Tryz.func178,Tryz.ntmps178;go_wp2_with fail;go_ret;exact⟨by simp,rfl⟩
theorem cmp_any (x y:Nat)(w:World):Calls Tryz.prog 129 #[.int .i64 (x:Int),.int .i64 (y:Int)] w fun e w'=>e= .returned (.int .i64 (cmpN x y))∧w=w':=by
 rcases zq123 x y with h|h|h
 ·have h1:decide ((x:Int)<(y:Int))=true:=by simp;omega
  have HC:=hid (show cmpN x y= -1 by simp[cmpN,h]);go_enter Tryz.func129,Tryz.ntmps129;go_wp2_with (go_at_call 178;refine(nan_any _ _).mono ?_;rintro e w' ⟨rfl,rfl⟩);go_ret;exact⟨by rw[HC.out];rfl,rfl⟩
 ·subst h;have h1:decide ((x:Int)<(x:Int))=false:=by simp
  have HC:=hid (show cmpN x x=0 by simp[cmpN]);go_enter Tryz.func129,Tryz.ntmps129;go_wp2_with (go_at_call 178;refine(nan_any _ _).mono ?_;rintro e w' ⟨rfl,rfl⟩);go_ret;exact⟨by rw[HC.out];rfl,rfl⟩
 ·have h1:decide ((x:Int)<(y:Int))=false:=by simp;omega
  have h2:decide ((x:Int)>(y:Int))=true:=by simp;omega
  have HC:=hid (show cmpN x y=1 by simp[cmpN,h];omega);go_enter Tryz.func129,Tryz.ntmps129;go_wp2_with (go_at_call 178;refine(nan_any _ _).mono ?_;rintro e w' ⟨rfl,rfl⟩);go_ret;exact⟨by rw[HC.out];rfl,rfl⟩
theorem compare_any (w:World)(vx vy:Value)(x y:List Nat)(hx:SlI (fun _=>True) w vx (ints x))(hy:SlI (fun _=>True) w vy (ints y))(hl:x.length=y.length):
  Calls Tryz.prog 72 #[vx,vy] w fun e w'=>e= .returned (.int .i64 (cmpL x y))∧w=w':=by
 have hm:(x.length:Int)≤9223372036854775807:=by
  obtain⟨_,_,_,h1,h2,_⟩:=hx;rw[ints_length]at h1;unfold maxLen at h2;omega
 obtain⟨aX,cX,rfl,hcx⟩:=hx.open;obtain⟨aY,cY,rfl,hcy⟩:=hy.open;rw[←hl]at hcy hy ⊢;have HX:=hid hx;have HY:=hid hy;have HL:=hid hl;clear hx hy hl;go_enter Tryz.func72,Tryz.ntmps72;go_wp2_with fail;go_loop [11] (fun iv=>∃k:Nat,k≤x.length∧iv= .int .i64 (k:Int)∧Hid (cmpL (x.drop k) (y.drop k)=cmpL x y)) (fun iv=>x.length-(intOf iv).toNat);case atStart=>exact⟨0,zq4 _,rfl,hid rfl⟩
 case round=>
  obtain⟨k,hk,rfl,hR⟩:=hrel;by_cases hlt:k<x.length
  ·obtain⟨a,ha⟩:∃a,x[k]?=some a:=⟨_,zq0 hlt⟩;obtain⟨c,hc⟩:∃c,y[k]?=some c:=⟨_,zq0 (by rw[←HL.out];exact hlt)⟩;obtain⟨bX,oX,rfl,_,_,hcX⟩:=HX.out.at ha;obtain⟨bY,oY,rfl,_,_,hcY⟩:=HY.out.at hc;have HD:=hid ((cmpL_drop ha hc).symm.trans hR.out);have hd:decide ((k:Int)<(x.length:Int))=true:=by simp;omega
   have hd2:decide ((k:Int)≥(x.length:Int))=false:=by simp;omega
   clear ha hc;go_wp2_with fail;refine(cmp_any _ _ _).mono ?_;rintro e w' ⟨rfl,rfl⟩;rcases zq123 a c with h|h|h
   ·have HC:=hid (show cmpN a c= -1 by simp[cmpN,h]);have HR:=hid (show -1=cmpL x y by have:=HD.out;rwa[zq57 h]at this);rw[HC.out];clear h;go_wp2_with fail;go_ret;exact⟨by rw[←HR.out];rfl,rfl⟩
   ·subst h;have HC:=hid (show cmpN a a=0 by simp[cmpN]);have HR:=hid (show cmpL (x.drop (k+1)) (y.drop (k+1))=cmpL x y by have:=HD.out;rwa[zq37 (zq105 _),zq37 (zq105 _)]at this);rw[HC.out];go_wp2_with fail;go_round;case rel=>exact⟨k+1,by omega,by go_num,HR⟩
    case measure=>simp[intOf];omega
   ·have HC:=hid (show cmpN a c=1 by simp[cmpN,h];omega);have HR:=hid (show 1=cmpL x y by have:=HD.out;rwa[zq37 (by omega),zq57 h]at this);rw[HC.out];clear h;go_wp2_with fail;go_ret;exact⟨by rw[←HR.out];rfl,rfl⟩
  ·obtain rfl:k=x.length:=by omega
   have hd:decide ((x.length:Int)<(x.length:Int))=false:=by simp
   have HR:=hid (show 0=cmpL x y by have:=hR.out;rw[zq104]at this;simpa[cmpL]using this);go_wp2_with fail;go_ret;exact⟨by rw[←HR.out];rfl,rfl⟩
end Go.Proofs.YtlmlamcoeegkbaaGreat.CmpI
namespace Go.Proofs.YtlmlamcoeegkbaaGreat.BinS
open Go.RowKit Go.Proofs.YtlmlamcoeegkbaaGreat SpecB Cmp Srt
theorem cmpL_zero:∀(x y:List Nat),x.length=y.length→cmpL x y=0→x=y
 |[],[],_,_=>rfl
 |[],_::_,h,_=>by simp at h
 |_::_,[],h,_=>by simp at h
 |a::x,b::y,h,h0=>by
  rw[cmpL_cons]at h0;by_cases h1:a<b
  ·rw[zq57 h1]at h0;omega
  ·rw[zq37 h1]at h0;by_cases h2:b<a
   ·rw[zq57 h2]at h0;omega
   ·rw[zq37 h2]at h0;obtain rfl:a=b:=by omega
    rw[cmpL_zero x y (by simpa using h) h0]
def Pos (rows:List (List Nat))(y:List Nat)(i:Nat):Prop:=i≤rows.length∧(∀k r,k<i→rows[k]?=some r→cmpL r y<0)∧∀k r,i≤k→rows[k]?=some r→¬cmpL r y<0
def Lft (rows:List (List Nat))(y:List Nat)(i j:Nat):Prop:=(∀k r,k<i→rows[k]?=some r→cmpL r y<0)∧∀k r,j≤k→rows[k]?=some r→¬cmpL r y<0
def Fnd (rows:List (List Nat))(y:List Nat)(i:Nat)(b:Bool):Prop:=b=true↔rows[i]?=some y
def SeaR (rows:List (List Nat))(y:List Nat)(w:World)(e:Ending)(w':World):Prop:=∃(i:Nat) (b:Bool),e= .returned (.tuple #[.int .i64 (i:Int),.bool b])∧Pos rows y i∧Fnd rows y i b∧w=w'
theorem asc_get {rows:List (List Nat)}(h:Asc rows){i j:Nat}{a b:List Nat}(hij:i<j)(ha:rows[i]?=some a)(hb:rows[j]?=some b):¬cmpL b a<0:=by
 obtain⟨hi,rfl⟩:=zq2.1 ha;obtain⟨hj,rfl⟩:=zq2.1 hb;exact List.pairwise_iff_getElem.1 h i j hi hj hij
theorem search_any (w:World)(v vy:Value)(rows:List (List Nat))(y:List Nat)(n:Nat)(hv:Sl2 Any w v (rows.map ints))(hy:SlI Any w vy (ints y))(hasc:Asc rows)(hl:∀r∈rows,r.length=n)(hyl:y.length=n)(hn:n≤1000)(hr:rows.length≤1000000):
  Calls Tryz.prog 77 #[v,vy,.func (.func 72) #[] #[]] w (SeaR rows y w):=by
 obtain⟨aX,cX,rfl,_,_⟩:=SlG.form hv;rw[zq18]at hv ⊢;have HV:=hid hv;have HY:=hid hy;have HA:=hid hasc;have HL:=hid hl;have HYL:=hid hyl;obtain⟨m,hm⟩:∃m,rows.length=m:=⟨_,rfl⟩;have HM:=hid hm;rw[hm]at HV hr ⊢;have hm63:(m:Int)≤1000000:=by omega
 clear hv hy hasc hl hyl hm;go_enter Tryz.func77,Tryz.ntmps77;go_wp2_with fail;go_loop [9,10] (fun iv jv=>∃i j:Nat,i≤j∧j≤m∧iv= .int .i64 (i:Int)∧jv= .int .i64 (j:Int)∧Hid (Lft rows y i j)) (fun iv jv=>(intOf jv).toNat-(intOf iv).toNat);case atStart=>exact⟨0,m,zq4 _,zq1 _,rfl,rfl,hid ⟨fun k r h=>absurd h (zq33 _),fun k r h hr=>by
  have:=(zq2.1 hr).1;rw[HM.out]at this;omega⟩⟩
 case round=>
  obtain⟨i,j,hij,hjm,rfl,rfl,hR⟩:=hrel;by_cases hlt:i<j
  ·have hd:decide ((i:Int)<(j:Int))=true:=by simp;omega
   have hih:i≤(i+j)/2∧(i+j)/2<j:=by omega
   obtain⟨r,hr'⟩:∃r,rows[(i+j)/2]?=some r:=⟨_,zq0 (by rw[HM.out];omega)⟩;obtain⟨b,o,u,rfl,_,hb,hc,hu⟩:=SlG.get HV.out (k:=(i+j)/2) (x:=ints r) (by rw[zq20,hr'];rfl);have hrl:=HL.out r (zq5 hr');have HCM:=hid (CmpI.compare_any w u vy r y hu HY.out (by rw[hrl,HYL.out]));have HRR:=hid hr';have HRL:=hid hrl;have HIH:=hid hih;have hm2:(i+j)/2<m:=by omega
   clear hr' hu hrl hih;go_wp2_with fail;refine HCM.out.mono ?_;rintro e w' ⟨rfl,rfl⟩;by_cases hcc:cmpL r y<0
   ·have hd2:decide (cmpL r y<0)=true:=by simpa using hcc
    have HN:=hid (show Lft rows y ((i+j)/2+1) j from⟨fun k r' hk hr'=>by
     rcases zq30.1 hk with h|h
     ·have h1:=asc_get HA.out h hr' HRR.out;have l1:=HL.out r' (zq5 hr');apply Classical.byContradiction;intro h2;exact cmpL_ntrans r r' y (by rw[HRL.out,l1]) (by rw[l1,HYL.out]) h1 h2 hcc
     ·subst h;rw[HRR.out]at hr';cases hr';exact hcc,hR.out.2⟩)
    clear hR;go_wp2_with fail;go_round;case rel=>exact⟨(i+j)/2+1,j,by have:=HIH.out;omega,hjm,zq38 (Value.int .i64) (by omega),rfl,HN⟩
    case measure=>simp[intOf];omega
   ·have hd2:decide (cmpL r y<0)=false:=by simpa using hcc
    have HN:=hid (show Lft rows y i ((i+j)/2) from⟨hR.out.1,fun k r' hk hr'=>by
     rcases Nat.lt_or_eq_of_le hk with h|h
     ·have h1:=asc_get HA.out h HRR.out hr';have l1:=HL.out r' (zq5 hr');exact cmpL_ntrans r' r y (by rw[HRL.out,l1]) (by rw[HRL.out,HYL.out]) h1 hcc
     ·subst h;rw[HRR.out]at hr';cases hr';exact hcc⟩)
    clear hR;go_wp2_with fail;go_round;case rel=>exact⟨i,(i+j)/2,HIH.out.1,by omega,rfl,zq38 (Value.int .i64) (by omega),HN⟩
    case measure=>simp[intOf];have:=HIH.out;omega
  ·obtain rfl:i=j:=by omega
   have hd:decide ((i:Int)<(i:Int))=false:=by simp
   have HP:=hid (show Pos rows y i from⟨by rw[HM.out];exact hjm,hR.out.1,hR.out.2⟩);by_cases him:i<m
   ·obtain⟨r,hr'⟩:∃r,rows[i]?=some r:=⟨_,zq0 (by rw[HM.out];omega)⟩;obtain⟨b,o,u,rfl,_,hb,hc,hu⟩:=SlG.get HV.out (k:=i) (x:=ints r) (by rw[zq20,hr'];rfl);have hrl:=HL.out r (zq5 hr');have HCM:=hid (CmpI.compare_any w u vy r y hu HY.out (by rw[hrl,HYL.out]));have HRR:=hid hr';have HRL:=hid hrl;have hd2:decide ((i:Int)<(m:Int))=true:=by simp;omega
    clear hr' hu hrl hR;go_wp2_with fail;refine HCM.out.mono ?_;rintro e w' ⟨rfl,rfl⟩;by_cases hz:cmpL r y=0
    ·have hd3:(cmpL r y==0)=true:=by simpa using hz
     have HE:=hid (show Fnd rows y i true from⟨fun _=>by rw[HRR.out,cmpL_zero r y (by rw[HRL.out,HYL.out]) hz],fun _=>rfl⟩);clear hz;go_wp2_with fail;exact zq12 (v:=.tuple #[.int .i64 (i:Int),.bool true]) (by simp[results,Tryz.results77,go_sem]) rfl ⟨i,true,rfl,HP.out,HE.out,rfl⟩
    ·have hd3:(cmpL r y==0)=false:=by simpa using hz
     have HE:=hid (show Fnd rows y i false from⟨fun h=>Bool.noConfusion h,fun h=>by
      rw[HRR.out]at h;cases h;exact absurd (cmpL_self y) hz⟩)
     clear hz;go_wp2_with fail;exact zq12 (v:=.tuple #[.int .i64 (i:Int),.bool false]) (by simp[results,Tryz.results77,go_sem]) rfl ⟨i,false,rfl,HP.out,HE.out,rfl⟩
   ·obtain rfl:i=m:=by omega
    have HE:=hid (show Fnd rows y i false from⟨fun h=>Bool.noConfusion h,fun h=>by
     have:=(zq2.1 h).1;rw[HM.out]at this;omega⟩)
    clear hR;go_wp2_with fail;exact zq12 (v:=.tuple #[.int .i64 (i:Int),.bool false]) (by simp[results,Tryz.results77,go_sem]) rfl ⟨i,false,rfl,HP.out,HE.out,rfl⟩
end Go.Proofs.YtlmlamcoeegkbaaGreat.BinS
namespace Go.Proofs.YtlmlamcoeegkbaaGreat.Ins
open Go.RowKit Go.Proofs.YtlmlamcoeegkbaaGreat SpecB
def InsR (B i n:Nat)(vS:Value)(us:List Value)(y:Value)(w:World)(e:Ending)(w':World):Prop:=∃v,e= .returned v∧w'.ownsRow B 24 1 v (n+1) (us.take i++y::us.drop i)∧w.grownBy w' vS.ownBlock
theorem insert_end (B n gV:Nat)(w:World)(vS y:Value)(us:List Value)(hS:w.ownsRow B 24 1 vS n us)(hV:w.heap[gV]?=some (.cells #[y] 24 (0,0)))(h1:y.oneCell'=true)(hn:n≤1000000)(hB:B≤w.heap.size):
  Calls Tryz.prog 78 #[vS,.int .i64 (n:Int),.slice (some ⟨gV,0,none⟩) 1 1] w (InsR B n n vS us y w):=by
 obtain⟨i0,hi,hz0,hz1,hz2⟩:=zq41 infoR;have hl:us.length=n:=by have:=hS.1;omega
 obtain⟨a,c,hv,hc1,hc2,hc3⟩:∃a c,vS= .slice a n c∧n≤c∧c≤maxLen∧(a=none→c=0∧n=0):=by
  rcases hS.2 with⟨rfl,hn0⟩|⟨g,cap,cur,rfl,hb,hgg,hn0,hm,hs,ht⟩
  ·exact⟨none,0,by rw[hn0],by omega,by simp,fun _=>⟨rfl,hn0⟩⟩
  ·exact⟨_,cap,rfl,hn0,hm,by simp⟩
 have HS:=hid hS;have HV:=hid hV;have HL:=hid hl;have hcv:w.cell? ⟨gV,0,none⟩=some y:=(zq15 _ _ _ _ _ _ hV).trans rfl;unfold maxLen at hc2;have hc63:(c:Int)≤9223372036854775807:=by omega
 have hn63:(n:Int)≤9223372036854775807:=by omega
 have hnc:(n:Int)≤(c:Int):=by omega
 have hn0:(0:Int)≤(n:Int):=by omega
 subst hv;clear hS hV hl hc2;cases a with
 |none=>
  obtain⟨rfl,rfl⟩:=hc3 rfl;have h1':=HS.out;go_enter Tryz.func78,Tryz.ntmps78;go_wp2_with (at_builtin;(refine zq55 _ rfl _ _ 25 rfl B 24 i0 (.slice none 0 0) 1 24 Tryz.underlying25 hi hz0 hz1 hz2 rfl (by decide) _ _ _ rfl h1' ⟨gV,0,none⟩ 1 1 [y] rfl rfl ?c1 ?c2 ?c3 ?c4 hB ?_));case c1=>
   intro j u hj
   match j,hj with
   |0,hj=>simp at hj;subst hj;simpa[Addr.add]using hcv
  try (case c2=>intro u hu;simp at hu;subst hu;exact h1)
  try (case c3=>unfold maxLen;omega)
  try (case c4=>omega)
  intro v' w1 hown hgrow _;have HR:=hid (show InsR B 0 0 (.slice none 0 0) us y w (.returned v') w1 from⟨v',rfl,by
   have hu:us=[]:=zq21 HL.out;subst hu;exact hown,hgrow⟩)
  clear hown hgrow;go_wp2_with fail;go_ret;exact HR.out
 |some ad=>
  have h1':=HS.out;by_cases hcn:c=n
  ·subst hcn;go_enter Tryz.func78,Tryz.ntmps78;go_wp2_with (at_builtin;(refine zq55 _ rfl _ _ 25 rfl B 24 i0 (.slice none 0 0) 1 24 Tryz.underlying25 hi hz0 hz1 hz2 rfl (by decide) _ _ _ rfl h1' ⟨gV,0,none⟩ 1 1 [y] rfl rfl ?d1 ?d2 ?d3 ?d4 hB ?_));case d1=>
    intro j u hj
    match j,hj with
    |0,hj=>simp at hj;subst hj;simpa[Addr.add]using hcv
   try (case d2=>intro u hu;simp at hu;subst hu;exact h1)
   try (case d3=>unfold maxLen;omega)
   try (case d4=>omega)
   intro v' w1 hown hgrow _;have HR:=hid (show InsR B c c (.slice (some ad) c c) us y w (.returned v') w1 from⟨v',rfl,by
    rw[zq90 (by rw[HL.out];exact zq1 _),List.drop_of_length_le (by rw[HL.out];exact zq1 _)];exact hown,hgrow⟩)
   clear hown hgrow;go_wp2_with fail;go_ret;exact HR.out
  ·go_enter Tryz.func78,Tryz.ntmps78;go_wp2_with (at_builtin;(refine zq55 _ rfl _ _ 25 rfl B 24 i0 (.slice none 0 0) 1 24 Tryz.underlying25 hi hz0 hz1 hz2 rfl (by decide) _ _ _ rfl h1' ⟨gV,0,none⟩ 1 1 [y] rfl rfl ?e1 ?e2 ?e3 ?e4 hB ?_));case e1=>
    intro j u hj
    match j,hj with
    |0,hj=>simp at hj;subst hj;simpa[Addr.add]using hcv
   try (case e2=>intro u hu;simp at hu;subst hu;exact h1)
   try (case e3=>unfold maxLen;omega)
   try (case e4=>omega)
   intro v' w1 hown hgrow _;have HR:=hid (show InsR B n n (.slice (some ad) n c) us y w (.returned v') w1 from⟨v',rfl,by
    rw[zq90 (by rw[HL.out];exact zq1 _),List.drop_of_length_le (by rw[HL.out];exact zq1 _)];exact hown,hgrow⟩)
   clear hown hgrow;go_wp2_with fail;go_ret;exact HR.out
end Go.Proofs.YtlmlamcoeegkbaaGreat.Ins
namespace Go.Proofs.YtlmlamcoeegkbaaGreat.Ins
open Go.RowKit Go.Lib Go.Proofs.YtlmlamcoeegkbaaGreat SpecB
theorem sizeR (w:World):(Go.sizeOf 24).run Tryz.prog w= .ok 1 w:=by
 obtain⟨i0,hi0,h0,h1,h2⟩:=zq41 infoR;simp[Go.sizeOf,hi0,h1,Result.andThen];try first|rfl|kernel_rfl|decide
theorem insert_shift (b n c i vb:Nat)(cs:List Value)(y:Value)(w:World)(hi:i<n)(hroom:n+1≤c)(hc63:c≤9223372036854775807)(hvb:vb≠b)
  (hcl:cs.length=n)
  (hcs:∀j v,cs[j]?=some v→w.cell? ⟨b,j,none⟩=some v) (hsp:∀j,j<n+1→(w.cell? ⟨b,j,none⟩).isSome=true) (hfz:∀j,j<n+1→w.frozen? ⟨b,j,none⟩=false)
  (hvs:∀j v,[y][j]?=some v→w.cell? ⟨vb,0+j,none⟩=some v) (h1c:∀v∈cs,v.oneCell'=true) (h1v:∀v∈[y],v.oneCell'=true)
  (tA tB:TypeId) (kA kB:Nat) (hsa:w.shape? vb=some (tA,kA)) (hsb:w.shape? b=some (tB,kB)) (hkB:kB≠0) (hfa:w.frozen? ⟨vb,0,none⟩=false) (hfe:w.frozen? ⟨vb,kA,none⟩=false):
  Calls Tryz.prog 78 #[.slice (some ⟨b,0,none⟩) n c,.int .i64 (i:Int),.slice (some ⟨vb,0,none⟩) 1 1] w fun e w'=>
   e= .returned (.slice (some ⟨b,0,none⟩) (n+1) c)∧w'=(w.drew.setCells b (i+1) (cs.drop i)).setCells b i [y]:=by
 have hz2:¬((i:Int)=(n:Int)):=by omega
 have hsz:(Tryz.prog.info? 24).map (·.size)=some 1:=by
  obtain⟨i0,hi0,h0,h1,h2⟩:=zq41 infoR;rw[hi0];simp[h1]
 have hov:∀lb cb,(callFunc 131 #[.slice (some ⟨vb,0,none⟩) 1 1,.slice (some ⟨b,i+1,none⟩) lb cb]).run Tryz.prog w= .ok (.value (.bool false)) w:=fun lb cb=>by
  rw[run_callFunc_extern Tryz.func131 (by kernel_rfl) (by kernel_rfl) (by kernel_rfl) (e:=Extern.SlicesOverlaps.overlaps #[25,25] #[4]) (by kernel_rfl),
   Lib.run_overlaps_apart w 25 4 24 Tryz.underlying25 1 sizeR ⟨vb,0,none⟩ ⟨b,i+1,none⟩ 1 1 lb cb hvb tA tB kA kB hsa hsb hkB hfa hfe]
  rfl
 have hdl:(cs.drop i).length=n-i:=by rw[zq34,hcl]
 have hw1:IntKind.i64.wrap ((i:Int)+1)=(i:Int)+1:=by rw[IntKind.wrap_i64];omega
 have hw2:IntKind.i64.wrap ((n:Int)+1)=(n:Int)+1:=by rw[IntKind.wrap_i64];omega
 have hb1:(0:Int)≤(i:Int)+1:=by omega
 have hin:i≤n:=by omega
 have htn:((i:Int)+1).toNat=i+1:=by omega
 have hb2:¬(c=i+1):=by omega
 have hb3:(i:Int)≤(n:Int)+1:=by omega
 have hb4:¬(c=i):=by omega
 have hcp1:∀ty dc sc,(Builtin.copy_ #[25,25] ty #[.slice (some ⟨b,i+1,none⟩) (n-i) dc,.slice (some ⟨b,i,none⟩) (n+1-i) sc]).run Tryz.prog w.drew= .ok (goInt (cs.drop i).length) (w.drew.setCells b (i+1) (cs.drop i)):=fun ty dc sc=>
  run_copy_cells w.drew _ _ ty 24 b (i+1) (n-i) dc ⟨b,i,none⟩ (n+1-i) sc (cs.drop i) Tryz.underlying25 hsz (by rw[hdl];simp only[Nat.min_def];split<;>omega)
   (fun j v hj=>by rw[Addr.add_lit];exact hcs (i+j) v (by rwa[zq63]at hj))
   (fun j hj=>hsp (i+1+j) (by rw[hdl]at hj;omega)) (fun j hj=>hfz (i+1+j) (by rw[hdl]at hj;omega)) (fun v hv=>h1c v (zq72 hv))
 obtain⟨W1,hW1⟩:∃W1,W1=w.drew.setCells b (i+1) (cs.drop i):=⟨_,rfl⟩;have hsp1:∀k,k<n+1→(W1.cell? ⟨b,k,none⟩).isSome=true:=fun k hk=>by
  rw[hW1];exact isSome_setCells b (cs.drop i) (i+1) w.drew (fun j hj=>hsp (i+1+j) (by rw[hdl]at hj;omega)) k (hsp k hk)
 have hcp2:∀(W:World),(∀x,W.cell? x=W1.cell? x)→(∀x,W.frozen? x=W1.frozen? x)→∀ty dc,(Builtin.copy_ #[25,25] ty #[.slice (some ⟨b,i,none⟩) (n+1-i) dc,.slice (some ⟨vb,0,none⟩) 1 1]).run Tryz.prog W= .ok (goInt [y].length) (W.setCells b i [y]):=fun W hWc hWf ty dc=>
  run_copy_cells W _ _ ty 24 b i (n+1-i) dc ⟨vb,0,none⟩ 1 1 [y] Tryz.underlying25 hsz (by simp only[List.length_singleton,Nat.min_def];split<;>omega)
   (fun j v hj=>by
    rw[Addr.add_lit,hWc,hW1,World.cell?_setCells_out b _ _ _ _ (fun h _=>absurd h hvb)];exact hvs j v hj)
   (fun j hj=>by
    have hj':j<1:=hj;rw[hWc];exact hsp1 _ (by omega)) (fun j hj=>by
    have hj':j<1:=hj;rw[hWf,hW1,World.frozen?_setCells];exact hfz _ (by omega)) h1v
 rw[←hW1]at hcp1;have mixed:Tryz.prog.follows Departure.mixedOrders=true:=by first|rfl|kernel_rfl|decide
 go_enter Tryz.func78,Tryz.ntmps78;go_wp2_with (simp only[hov]);go_region_law_o (refine step_copy_runI rfl _ _ 25 25 rfl _ _ (by simp[Act.eval,Act.put]) (by simp[Act.eval,Act.put]) (hcp1 _ _ _) ?_);go_wp2_with (at_builtin;refine wpList_copy_runI _ rfl _ _ 25 25 rfl _ _ rfl rfl (hcp2 _ (fun _=>rfl) (fun _=>rfl) _ _) ?_);go_ret;first|exact⟨rfl,rfl⟩|exact⟨rfl,by rw[hW1]⟩
end Go.Proofs.YtlmlamcoeegkbaaGreat.Ins
namespace Go.Proofs.YtlmlamcoeegkbaaGreat.Ins
open Go.RowKit Go.Lib Go.Proofs.YtlmlamcoeegkbaaGreat SpecB
theorem i64R:Tryz.prog.underlying 3=some (TypeDesc.int .i64):=by kernel_rfl
theorem insert_grow (b n c i vb:Nat)(cs:List Value)(y:Value)(w:World)(hi:i<n)(hnc:n≤c)(hroom:c<n+1)(hbig:(n+1)*24≤140737488355328)
  (hcl:cs.length=n)
  (hcs:∀j v,cs[j]?=some v→w.cell? ⟨b,j,none⟩=some v)
  (hvs:∀j v,[y][j]?=some v→w.cell? ⟨vb,0+j,none⟩=some v) (h1c:∀v∈cs,v.oneCell'=true) (h1v:∀v∈[y],v.oneCell'=true):
  Calls Tryz.prog 78 #[.slice (some ⟨b,0,none⟩) n c,.int .i64 (i:Int),.slice (some ⟨vb,0,none⟩) 1 1] w fun e w'=>
   e= .returned (.slice (some ⟨w.heap.size,0,none⟩) (n+1) (grownCap w (n+1) c 24))∧
   w'=(((w.alloc (.cells ((cs.take i).toArray++Builtin.zeroCells (Value.slice none 0 0).cells (n+1-i)++Builtin.zeroCells (Value.slice none 0 0).cells (grownCap w (n+1) c 24-(n+1))) 24)).drew.setCells w.heap.size i [y]).drew).setCells w.heap.size (i+1) (cs.drop i):=by
 have mixed:Tryz.prog.follows Departure.mixedOrders=true:=by first|rfl|kernel_rfl|decide
 obtain⟨i0,hi0,hz0,hzs,hzb⟩:=zq41 infoR;have hz2:¬((i:Int)=(n:Int)):=by omega
 have hz3:(c:Int)<(n:Int)+1:=by omega
 have hsz:(Tryz.prog.info? 24).map (·.size)=some 1:=by rw[hi0];simp[hzs]
 have hbw:b<w.heap.size:=block_lt_of_cell (hcs 0 _ (zq0 (by omega)));have hvw:vb<w.heap.size:=block_lt_of_cell (hvs 0 y rfl);have hkk:(n:Int)+1-(i:Int)=((n+1-i:Nat):Int):=by omega
 have hik:i+(n+1-i)=n+1:=by omega
 have hold:(Builtin.firstCells i0.size i (.slice (some ⟨b,0,none⟩) i c)).run Tryz.prog w.drew= .ok (cs.take i).toArray w.drew:=by
  rw[hzs];exact run_firstCells_some w.drew 1 i ⟨b,0,none⟩ i c (cs.take i) (by rw[zq75];omega) (fun j v hj=>by
   rw[Addr.add_lit,zq39];rw[zq106]at hj;split at hj
   ·exact hcs j v hj
   ·cases hj)
 have hrz:∀ty,(Builtin.append_ #[25,3] ty #[.slice (some ⟨b,0,none⟩) i c,.int .i64 ((n:Int)+1-(i:Int))]).run Tryz.prog w=
   .ok (.slice (some ⟨w.heap.size,0,none⟩) (n+1) (grownCap w (n+1) c 24)) (w.drew.alloc (.cells ((cs.take i).toArray++Builtin.zeroCells (Value.slice none 0 0).cells (n+1-i)++Builtin.zeroCells (Value.slice none 0 0).cells (grownCap w (n+1) c 24-(n+1))) 24)):=fun ty=>by
  have h:=Lib.run_append_grow_zeros w 25 3 ty 24 i0 _ .i64 .i64 Tryz.underlying25 i64R hi0 hz0 (some ⟨b,0,none⟩) i c (cs.take i) hold (n+1-i) (by omega) (by omega) (by omega) (by omega) (by rw[hzb];omega) (by rw[hzb,hik];exact growslice_fits hroom hbig);rw[hik]at h;rw[hkk];exact h
 obtain⟨G,hG⟩:∃G,G=grownCap w (n+1) c 24:=⟨_,rfl⟩;obtain⟨ROW,hROW⟩:∃ROW:Array Value,ROW=(cs.take i).toArray++Builtin.zeroCells (Value.slice none 0 0).cells (n+1-i)++Builtin.zeroCells (Value.slice none 0 0).cells (G-(n+1)):=⟨_,rfl⟩;rw[←hG]at hrz ⊢;rw[←hROW]at hrz ⊢;have hRl:n+1≤ROW.size:=by
  rw[hROW];simp[Builtin.zeroCells,Value.cells];omega
 obtain⟨W1,hW1⟩:∃W1,W1=w.drew.alloc (.cells ROW 24):=⟨_,rfl⟩;rw[←hW1]at hrz;have hN:∀j,j<n+1→(W1.cell? ⟨w.heap.size,j,none⟩).isSome=true:=fun j hj=>by
  rw[hW1,World.cell?_alloc_at (w:=w.drew) ROW _ w.heap.size j rfl,Array.getElem?_eq_getElem (by omega)];rfl
 have hNf:∀j,W1.frozen? ⟨w.heap.size,j,none⟩=false:=fun j=>by rw[hW1];exact World.frozen?_alloc_at (w:=w.drew) ROW _ w.heap.size j rfl
 have hOb:∀j v,w.cell? ⟨b,j,none⟩=some v→W1.cell? ⟨b,j,none⟩=some v:=fun j v h=>by rw[hW1,World.cell?_alloc_past (w:=w.drew) _ b j hbw];exact h
 have hOv:∀j v,w.cell? ⟨vb,j,none⟩=some v→W1.cell? ⟨vb,j,none⟩=some v:=fun j v h=>by rw[hW1,World.cell?_alloc_past (w:=w.drew) _ vb j hvw];exact h
 have hcpA:∀(W:World),(∀x,W.cell? x=W1.cell? x)→(∀x,W.frozen? x=W1.frozen? x)→∀ty dc,(Builtin.copy_ #[25,25] ty #[.slice (some ⟨w.heap.size,i,none⟩) (n+1-i) dc,.slice (some ⟨vb,0,none⟩) 1 1]).run Tryz.prog W= .ok (goInt [y].length) (W.setCells w.heap.size i [y]):=fun W hWc hWf ty dc=>
  run_copy_cells W _ _ ty 24 w.heap.size i (n+1-i) dc ⟨vb,0,none⟩ 1 1 [y] Tryz.underlying25 hsz (by simp only[List.length_singleton,Nat.min_def];split<;>omega)
   (fun j v hj=>by rw[Addr.add_lit,hWc];exact hOv _ v (hvs j v hj))
   (fun j hj=>by
    have hj':j<1:=hj;rw[hWc];exact hN _ (by omega)) (fun j hj=>by rw[hWf];exact hNf _) h1v
 have hGn:n+1≤G:=by rw[hG];exact grownCap_ge w _ _ _
 have hG63:G≤9223372036854775807:=by
  have:=grownCap_le_maxLen w (n+1) c 24 (by unfold maxLen;omega);rw[←hG]at this;unfold maxLen at this;omega
 have hGi:¬(G=i):=by omega
 have hGim:¬(G=i+1):=by omega
 have hci:¬(c=i):=by omega
 have hbN:b≠w.heap.size:=by omega
 have hdl:(cs.drop i).length=n-i:=by rw[zq34,hcl]
 have hcpB:∀(W:World),(∀x,W.cell? x=(W1.setCells w.heap.size i [y]).cell? x)→(∀x,W.frozen? x=(W1.setCells w.heap.size i [y]).frozen? x)→∀ty dc sc,(Builtin.copy_ #[25,25] ty #[.slice (some ⟨w.heap.size,i+1,none⟩) (n-i) dc,.slice (some ⟨b,i,none⟩) (n-i) sc]).run Tryz.prog W= .ok (goInt (cs.drop i).length) (W.setCells w.heap.size (i+1) (cs.drop i)):=fun W hWc hWf ty dc sc=>
  run_copy_cells W _ _ ty 24 w.heap.size (i+1) (n-i) dc ⟨b,i,none⟩ (n-i) sc (cs.drop i) Tryz.underlying25 hsz (by rw[hdl];simp only[Nat.min_def];split<;>omega)
   (fun j v hj=>by
    rw[Addr.add_lit,hWc,World.cell?_setCells_out _ _ _ _ _ (fun h _=>absurd h hbN)];exact hOb _ v (hcs (i+j) v (by rwa[zq63]at hj)))
   (fun j hj=>by
    rw[hdl]at hj;rw[hWc];exact isSome_setCells _ [y] _ _ (fun t ht=>hN _ (by have ht':t<1:=ht;omega)) _ (hN _ (by omega)))
   (fun j hj=>by rw[hWf,World.frozen?_setCells];exact hNf _) (fun v hv=>h1c v (zq72 hv))
 subst hW1;have hE1:∀x,((w.alloc (.cells ROW 24)).drew).cell? x=(w.drew.alloc (.cells ROW 24)).cell? x:=fun x=>rfl;have hE2:∀x,((w.alloc (.cells ROW 24)).drew).frozen? x=(w.drew.alloc (.cells ROW 24)).frozen? x:=fun x=>rfl;have hF1:∀x,(((w.alloc (.cells ROW 24)).drew.setCells w.heap.size i [y]).drew).cell? x=((w.drew.alloc (.cells ROW 24)).setCells w.heap.size i [y]).cell? x:=fun x=>rfl;have hF2:∀x,(((w.alloc (.cells ROW 24)).drew.setCells w.heap.size i [y]).drew).frozen? x=((w.drew.alloc (.cells ROW 24)).setCells w.heap.size i [y]).frozen? x:=fun x=>rfl;have hw1:IntKind.i64.wrap ((i:Int)+1)=(i:Int)+1:=by rw[IntKind.wrap_i64];omega
 have hw2:IntKind.i64.wrap ((n:Int)+1)=(n:Int)+1:=by rw[IntKind.wrap_i64];omega
 have hb1:(0:Int)≤(i:Int)+1:=by omega
 have hin:i≤n:=by omega
 have htn:((i:Int)+1).toNat=i+1:=by omega
 have hb3:(i:Int)≤(n:Int):=by omega
 clear hkk hik hold hROW hG hRl;go_enter Tryz.func78,Tryz.ntmps78;go_wp2_with (first
  |(at_builtin;refine Lib.wpList_append_run _ rfl _ _ _ _ rfl _ _ rfl rfl _ _ (hrz _) ?_)
  |(at_builtin;refine wpList_copy_runI _ rfl _ _ 25 25 rfl _ _ rfl rfl (hcpA _ hE1 hE2 _ _) ?_)
  |(at_builtin;refine wpList_copy_runI _ rfl _ _ 25 25 rfl _ _ rfl rfl (hcpB _ (fun _=>rfl) (fun _=>rfl) _ _ _) ?_))
 go_region_law_o (refine step_copy_runI rfl _ _ 25 25 rfl (.slice (some ⟨w.heap.size,i+1,none⟩) (n-i) (G-(i+1))) (.slice (some ⟨b,i,none⟩) (n-i) (c-i)) (by simp[Act.eval,Act.put]) (by simp[Act.eval,Act.put]) (hcpB _ hF1 hF2 3 (G-(i+1)) (c-i)) ?_);go_wp2;go_ret;exact⟨rfl,rfl⟩
end Go.Proofs.YtlmlamcoeegkbaaGreat.Ins
namespace Go.Proofs.YtlmlamcoeegkbaaGreat.Ins
open Go.RowKit Go.Lib Go.Proofs.YtlmlamcoeegkbaaGreat SpecB
theorem set_take {l:List Value}{o:Nat}(h:o<l.length)(v:Value):(l.set o v).take (o+1)=l.take o++[v]:=by
 rw[List.set_eq_take_append_cons_drop,zq57 h,List.take_append,zq75,Nat.min_eq_left (by omega),zq90 (by rw[zq75];omega),show o+1-o=1 by omega];rfl
theorem row_setCell {w:World}{g o:Nat}{cur:Array Value}{t:TypeId}(h:w.heap[g]?=some (.cells cur t (0,0)))(v:Value):(w.setCell ⟨g,o,none⟩ v).heap[g]?=some (.cells (cur.setIfInBounds o v) t (0,0)):=by
 first|exact zq60 h v|exact Go.Lib.heap_setCell_same h v|simp[World.setCell,World.modify,h]
theorem setCells_row (g:Nat)(t:TypeId):∀(vs:List Value) (o:Nat) (w:World) (cur:Array Value),w.heap[g]?=some (.cells cur t (0,0))→o+vs.length≤cur.size→
  ∃cur',(w.setCells g o vs).heap[g]?=some (.cells cur' t (0,0))∧cur'.size=cur.size∧cur'.toList=cur.toList.take o++(vs++cur.toList.drop (o+vs.length))
 |[],o,w,cur,h,hl=>⟨cur,h,rfl,by simp⟩
 |v::r,o,w,cur,h,hl=>by
  simp only[zq58]at hl;obtain⟨c',h1,h2,h3⟩:=setCells_row g t r (o+1) (w.setCell ⟨g,o,none⟩ v) _ (row_setCell h v) (by rw[Array.size_setIfInBounds];omega);refine⟨c',h1,by rw[h2,Array.size_setIfInBounds],?_⟩;have ho:o<cur.toList.length:=by rw[Array.length_toList];omega
  rw[h3,Array.toList_setIfInBounds,set_take ho,zq74,List.drop_set_of_lt (by omega),zq58,show o+1+r.length=o+(r.length+1) by omega];rfl
theorem insert_list (i n:Nat)(L us tl rest:List Value)(y:Value)(hi:i≤n)(hu:us.length=n)(hL:L.take (i+1)++(us.drop i++rest)=tl)(ht:L.take i=us.take i)(hLl:i+1≤L.length):
  (tl.take i++([y]++tl.drop (i+1))).take (n+1)=us.take i++y::us.drop i:=by
 have hm:(L.take (i+1)).length=i+1:=by rw[zq75];omega
 have h1:tl.take i=us.take i:=by
  rw[←hL,List.take_append_of_le_length (by omega),List.take_take,Nat.min_eq_left (by omega),ht]
 have h2:tl.drop (i+1)=us.drop i++rest:=by
  rw[←hL,List.drop_append_of_le_length (by omega),List.drop_of_length_le (by omega),List.nil_append]
 rw[h1,h2];have h3:us.take i++([y]++(us.drop i++rest))=(us.take i++y::us.drop i)++rest:=by simp
 rw[h3];exact List.take_left' (by simp;omega)
end Go.Proofs.YtlmlamcoeegkbaaGreat.Ins
namespace Go.Proofs.YtlmlamcoeegkbaaGreat.Ins
open Go.RowKit Go.Lib Go.Proofs.YtlmlamcoeegkbaaGreat SpecB
theorem grown_setCells {a:World}{b:Nat}:∀(vs:List Value) (o:Nat) (w:World),a.grownBy w (some b)→a.grownBy (w.setCells b o vs) (some b)
 |[],_,_,h=>h
 |v::r,o,w,h=>grown_setCells r (o+1) _ (grownBy_setB h o v)
theorem grown_fresh {a w:World}{row:Option Nat}(h:a.grownBy w (some a.heap.size)):a.grownBy w row:=
 ⟨h.os,h.tape,h.output,h.size,fun k hk _=>h.block k hk (by intro e;cases e;omega)⟩
theorem shape_row {w:World}{g:Nat}{cs:Array Value}{t:TypeId}{fr:Nat×Nat}(h:w.heap[g]?=some (.cells cs t fr)):w.shape? g=some (t,cs.size):=by
 simp[World.shape?,h]
theorem unfrozen_row {w:World}{g o:Nat}{cs:Array Value}{t:TypeId}(h:w.heap[g]?=some (.cells cs t (0,0))):w.frozen? ⟨g,o,none⟩=false:=by
 simp[World.frozen?,h]
theorem insert_room (B i n g cap gV:Nat)(w:World)(y:Value)(us:List Value)(cur:Array Value)(hb:B≤g)(hgg:w.heap[g]?=some (.cells cur 24 (0,0)))(hm:cap≤maxLen)(hs:cur.size=cap)(ht:cur.toList.take n=us)(hl:us.length=n)
  (hV:w.heap[gV]?=some (.cells #[y] 24 (0,0))) (h1c:∀v∈us,v.oneCell'=true) (h1:y.oneCell'=true) (hi:i<n) (hroom:n+1≤cap) (hvb:gV≠g):
  Calls Tryz.prog 78 #[.slice (some ⟨g,0,none⟩) n cap,.int .i64 (i:Int),.slice (some ⟨gV,0,none⟩) 1 1] w (InsR B i n (.slice (some ⟨g,0,none⟩) n cap) us y w):=by
 have hcu:∀j v,us[j]?=some v→cur[j]?=some v:=fun j v h=>by
  rw[←ht,zq106]at h;split at h
  ·rw[←zq118];exact h
  ·cases h
 have hc63:cap≤9223372036854775807:=by unfold maxLen at hm;omega
 refine Calls.mono (insert_shift g n cap i gV us y w hi hroom hc63 hvb hl (fun j v h=>by rw[zq15 _ _ _ _ _ _ hgg];exact hcu j v h)
  (fun j hj=>by rw[zq15 _ _ _ _ _ _ hgg,Array.getElem?_eq_getElem (by omega)];rfl) (fun j _=>unfrozen_row hgg)
  (fun j v h=>by rw[zq39,zq15 _ _ _ _ _ _ hV];simpa using h) h1c (fun v hv=>by simp at hv;subst hv;exact h1)
  24 24 1 cap (shape_row hV) (by rw[shape_row hgg,hs]) (by omega) (unfrozen_row hV) (unfrozen_row hV)) ?_
 rintro e w' ⟨rfl,rfl⟩;have hdl:(us.drop i).length=n-i:=by rw[zq34,hl]
 have hg0:w.drew.heap[g]?=some (.cells cur 24 (0,0)):=hgg;obtain⟨c1,k1,k2,k3⟩:=setCells_row g _ (us.drop i) (i+1) w.drew cur hg0 (by rw[hdl];omega);obtain⟨c2,m1,m2,m3⟩:=setCells_row g _ [y] i _ c1 k1 (by rw[k2];simp only[List.length_singleton];omega);have hg:w.grownBy w.drew (some g):=⟨rfl,rfl,rfl,zq1 _,fun _ _ _=>rfl⟩;refine⟨_,rfl,⟨by simp;omega,.inr ⟨g,cap,c2,rfl,hb,m1,hroom,hm,by rw[m2,k2,hs];omega,?_⟩⟩,grown_setCells _ _ _ (grown_setCells _ _ _ hg)⟩;rw[zq100,m3];exact insert_list i n cur.toList us c1.toList _ y (by omega) hl k3.symm (by rw[←ht,List.take_take,Nat.min_eq_left (by omega)]) (by rw[Array.length_toList];omega)
end Go.Proofs.YtlmlamcoeegkbaaGreat.Ins
namespace Go.Proofs.YtlmlamcoeegkbaaGreat.Ins
open Go.RowKit Go.Lib Go.Proofs.YtlmlamcoeegkbaaGreat SpecB
theorem grow_list (i n:Nat)(L us c1 c2 rest:List Value)(y:Value)(hi:i≤n)(hu:us.length=n)(ht:L.take i=us.take i)(h1:c1=L.take i++([y]++L.drop (i+1)))(h2:c2=c1.take (i+1)++(us.drop i++rest)):
  c2.take (n+1)=us.take i++y::us.drop i:=by
 have h3:c1.take (i+1)=us.take i++[y]:=by
  rw[h1,ht,←zq74];exact List.take_left' (by simp;omega)
 rw[h2,h3,show us.take i++[y]++(us.drop i++rest)=(us.take i++y::us.drop i)++rest by simp];exact List.take_left' (by simp;omega)
theorem grown_self (w:World)(row:Option Nat):w.grownBy w row:=⟨rfl,rfl,rfl,zq1 _,fun _ _ _=>rfl⟩
theorem grown_dr {w w':World}{row:Option Nat}(h:w.grownBy w' row):w.grownBy w'.drew row:=⟨h.os,h.tape,h.output,h.size,h.block⟩
theorem insert_full (B i n g gV:Nat)(w:World)(y:Value)(us:List Value)(cur:Array Value)(hgg:w.heap[g]?=some (.cells cur 24 (0,0)))(ht:cur.toList.take n=us)(hl:us.length=n)
  (hV:w.heap[gV]?=some (.cells #[y] 24 (0,0))) (h1c:∀v∈us,v.oneCell'=true) (h1:y.oneCell'=true) (hi:i<n) (hn:n≤1000000) (hB:B≤w.heap.size):
  Calls Tryz.prog 78 #[.slice (some ⟨g,0,none⟩) n n,.int .i64 (i:Int),.slice (some ⟨gV,0,none⟩) 1 1] w (InsR B i n (.slice (some ⟨g,0,none⟩) n n) us y w):=by
 have hcu:∀j v,us[j]?=some v→cur[j]?=some v:=fun j v h=>by
  rw[←ht,zq106]at h;split at h
  ·rw[←zq118];exact h
  ·cases h
 refine Calls.mono (insert_grow g n n i gV us y w hi zqN (by omega) (by omega) hl (fun j v h=>by rw[zq15 _ _ _ _ _ _ hgg];exact hcu j v h)
  (fun j v h=>by rw[zq39,zq15 _ _ _ _ _ _ hV];simpa using h) h1c (fun v hv=>by simp at hv;subst hv;exact h1)) ?_
 rintro e w' ⟨rfl,rfl⟩;obtain⟨G,hG⟩:∃G,G=grownCap w (n+1) n 24:=⟨_,rfl⟩;have hGn:n+1≤G:=by rw[hG];exact grownCap_ge w _ _ _
 have hGm:G≤maxLen:=by rw[hG];exact grownCap_le_maxLen w (n+1) n 24 (by unfold maxLen;omega)
 rw[←hG];obtain⟨ROW,hROW⟩:∃ROW:Array Value,ROW=(us.take i).toArray++Builtin.zeroCells (Value.slice none 0 0).cells (n+1-i)++Builtin.zeroCells (Value.slice none 0 0).cells (G-(n+1)):=⟨_,rfl⟩;rw[←hROW];have hRs:ROW.size=G:=by
  rw[hROW];simp[Builtin.zeroCells,Value.cells];omega
 have hRt:ROW.toList.take i=us.take i:=by
  rw[hROW,Array.toList_append,Array.toList_append,zq74];exact List.take_left' (by simp;omega)
 have hdl:(us.drop i).length=n-i:=by rw[zq34,hl]
 have hg0:((w.alloc (.cells ROW 24)).drew).heap[w.heap.size]?=some (.cells ROW 24 (0,0)):=by
  show(w.heap.push (.cells ROW 24 (0,0)))[w.heap.size]?=_;simp
 obtain⟨c1,k1,k2,k3⟩:=setCells_row w.heap.size _ [y] i _ ROW hg0 (by simp only[List.length_singleton];omega);have k1':(((w.alloc (.cells ROW 24)).drew.setCells w.heap.size i [y]).drew).heap[w.heap.size]?=some (.cells c1 24 (0,0)):=k1;obtain⟨c2,m1,m2,m3⟩:=setCells_row w.heap.size _ (us.drop i) (i+1) _ c1 k1' (by rw[k2,hdl];omega);have hgr:w.grownBy ((w.alloc (.cells ROW 24)).drew) (some w.heap.size):=grown_dr (grownBy_allocR (grown_self w _) _);refine⟨_,rfl,⟨by simp;omega,.inr ⟨w.heap.size,G,c2,rfl,hB,m1,hGn,hGm,by rw[m2,k2,hRs];omega,?_⟩⟩,grown_fresh (grown_setCells _ _ _ (grown_dr (grown_setCells _ _ _ hgr)))⟩;rw[zq100];exact grow_list i n ROW.toList us c1.toList c2.toList _ y (by omega) hl hRt k3 m3
theorem insert_any (B i n gV:Nat)(w:World)(vS y:Value)(us:List Value)(hS:w.ownsRow B 24 1 vS n us)(hV:w.heap[gV]?=some (.cells #[y] 24 (0,0)))(h1c:∀v∈us,v.oneCell'=true)(h1:y.oneCell'=true)(hi:i≤n)(hn:n≤1000000)(hB:B≤w.heap.size)(hvb:vS.ownBlock≠some gV):
  Calls Tryz.prog 78 #[vS,.int .i64 (i:Int),.slice (some ⟨gV,0,none⟩) 1 1] w (InsR B i n vS us y w):=by
 by_cases hin:i=n
 ·subst hin;exact insert_end B i gV w vS y us hS hV h1 hn hB
 have hl:us.length=n:=by have:=hS.1;omega
 rcases hS.2 with⟨rfl,hn0⟩|⟨g,cap,cur,rfl,hb,hgg,hn0,hm,hs,ht⟩
 ·omega
 ·rw[zq100]at hs ht;by_cases hr:n+1≤cap
  ·exact insert_room B i n g cap gV w y us cur hb hgg hm hs ht hl hV h1c h1 (by omega) hr (fun e=>hvb (by subst e;rfl))
  ·obtain rfl:cap=n:=by omega
   exact insert_full B i cap g gV w y us cur hgg ht hl hV h1c h1 (by omega) hn hB
end Go.Proofs.YtlmlamcoeegkbaaGreat.Ins
