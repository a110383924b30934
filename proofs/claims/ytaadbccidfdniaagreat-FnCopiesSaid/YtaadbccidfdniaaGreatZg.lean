import Derived.Test.YtaadbccidfdniaaGreatZ0
import Derived.Test.YtaadbccidfdniaaGreatZf
import Derived.Test.YtaadbccidfdniaaGreatZe
import Derived.Lib.AppendZerosOnto
import Derived.Deep.RegionHeld3
import Derived.Deep.AppendLies
/-
  Lemmas for the law FnCopies, in short spelling.
-/
open Go.Lib (hid)
set_option linter.unusedVariables false
set_option linter.unusedSimpArgs false
set_option maxRecDepth 100000
set_option maxHeartbeats 40000000
namespace Go.Proofs.YtaadbccidfdniaaGreat.xq
open Go.RowKit Go.Proofs.YtaadbccidfdniaaGreat AB Val Dp Cn Dm Df Cc OA Ud Wy og
theorem iG {B n:Nat}{w:World}{v:Value}{L:List ByteArray}(h:w.ownsRow B 9 1 v n (L.map Value.string)){i:Nat}{t:ByteArray}(hi:L[i]?=some t):
  ∃g c,v= .slice (some ⟨g,0,none⟩) n c∧w.cell? ⟨g,i,none⟩=some (.string t)∧g<w.heap.size:=by
 rcases id h.2 with⟨h3,h4⟩|⟨g,cap,cur,h3,hB,hg,_⟩
 ·have h1:=h.1;have:=(Ag.1 hi).1;simp at h1;omega
 ·subst h3;exact⟨g,cap,rfl,by
   have h5:=h.cells (g:=g) rfl i (.string t) (by simp[hi]);rwa[show((⟨g,0,none⟩:Addr).add i)=⟨g,i,none⟩ by rw[Addr.add_lit,Cg]]at h5,(Ba.1 hg).1⟩
theorem p9 (s:ByteArray)(b:UInt8):∀k,∀p∈(Ed s b k).1,p.size≤s.size
 |0,p,h=>by simp[Ed]at h
 |k+1,p,h=>by
  rw[Ed]at h;split at h
  ·rcases GY.1 h with h|h
   ·exact p9 s b k p h
   ·rw[GU.1 h];simp[ByteArray.size_extract];omega
  ·exact p9 s b k p h
theorem AHK (s:ByteArray)(b:UInt8):∀p∈parts s b,p.size≤s.size:=fun p h=>by
 rcases GY.1 h with h|h
 ·exact p9 s b _ p h
 ·rw[GU.1 h];simp[ByteArray.size_extract]
theorem AAx (s:ByteArray)(b:UInt8):1≤(parts s b).length∧(parts s b).length≤s.size+1:=by
 have:=oh s b s.size;unfold parts;simp;omega
def Parts (w:World)(e:Ending)(w':World)(s:ByteArray):Prop:=∃(v:Value) (L:List ByteArray) (n:Nat),e= .returned v∧L.length=n∧1≤n∧n≤s.size+1∧(∀p∈L,p.size≤s.size)∧w'.ownsRow w.heap.size 9 1 v n (L.map Value.string)∧Below w.heap.size w w'
theorem qY (s:ByteArray)(b:UInt8)(z:Int)(hz:z=(b.toNat:Int))(hs:s.size≤1000)(w:World):Calls Tryz.prog 170 #[.string s,.int .u8 z] w fun e w'=>Parts w e w' s:=by
 subst hz;refine(Split.AHo s b w (by omega)).mono ?_;rintro e w' ⟨v,rfl,h,hb⟩;exact⟨v,parts s b,_,rfl,rfl,(AAx s b).1,(AAx s b).2,AHK s b,h,hb⟩
def jT (w:World)(e:Ending)(w':World):Prop:=∃(n:Nat) (l:List Int) (a:Option Addr) (c:Nat) (b:Bool),e= .returned (.tuple #[.slice a n c,.bool b])∧l.length=n∧AL Any w' (.slice a n c) l∧n≤6∧(∀x∈l,CL x=true)∧Below w.heap.size w w'
theorem ACC {w w':World}{b:Bool}(h:Below w.heap.size w w'):jT w (.returned (.tuple #[.slice none 0 0,.bool b])) w':=
 ⟨0,[],none,0,b,rfl,rfl,⟨none,0,rfl,Av _,by simp[maxLen],fun _=>rfl,fun i x h=>by simp at h⟩,by omega,fun x h=>by simp at h,h⟩
theorem oo (s:ByteArray)(hs:s.size≤1000)(w:World):Calls Tryz.prog 171 #[.string s] w (jT w):=by
 obtain⟨i0,hi0,hz0,hz1,hz2⟩:=Bt FX;have Ru:=hid (I1.nil (P:=fun x=>CL x=true) (m:=6) w AR);cases ht:(s.toList==[49])with
 |true=>
  have HR1:=hid (show jT w (.returned (.tuple #[.slice (some ⟨w.heap.size,0,none⟩) 0 0,.bool true])) (w.alloc (.cells #[] 2)) from
   ⟨0,[],_,0,true,rfl,rfl,LM (B:=w.heap.size) (Fb (e:=2) (size:=1) w #[] 0 AR (AU _) rfl) rfl,by omega,fun x h=>by simp at h,AX.alloc AR _⟩)
  go_enter Tryz.func171,Tryz.ntmps171;go_wp2_with fail;exact Aj (v:=.tuple #[.slice (some ⟨w.heap.size,0,none⟩) 0 0,.bool true]) (by simp[results,Tryz.results171,go_sem]) rfl HR1.out
 |false=>
  have KM:=hid (fun W=>qY s 32 32 rfl hs W);go_enter Tryz.func171,Tryz.ntmps171;go_wp2_with fail;refine(KM.out _).mono ?_;rintro e w2 ⟨v,L,n,rfl,hLn,hn1,hn2,Lx,hO,hb2⟩;have Gh:=hid (JI (B':=w.heap.size) hO (by simp));have DV:=hid hLn;have HB2:=hid (((A7 w.heap.size w).alloc AR (.cells #[] 2)).trans (hb2.mono (by simp)));have HL2:=hid (show I1 (fun x=>CL x=true) w.heap.size 6 w2 (.slice (some ⟨w.heap.size,0,none⟩) 0 0) 0 from by
   obtain⟨l,h1,h2,h3,h4⟩:=Ru.out;exact⟨l,h1,Br h2 (S:=Any) (AA.of_below hb2) (fun _ _=>trivial),h3,h4⟩)
  obtain⟨av,cv,rfl⟩:=LH hO;have xu:n≤1001:=by omega
  clear hO hLn hb2 Ru KM Lx;go_wp2_with fail;go_loopw [4,6] (fun ov iv wr=>∃(i:Nat) (a:Option Addr) (c:Nat),i≤n∧i≤6∧iv= .int .i64 (i:Int)∧ov= .slice a i c∧Hid (I1 (fun x=>CL x=true) w.heap.size 6 wr (.slice a i c) i)∧Hid (wr.ownsRow w.heap.size 9 1 (.slice av n cv) n (L.map Value.string))∧Hid (Below w.heap.size w wr)) (fun _ iv _=>n-(intOf iv).toNat);case atStart=>exact⟨0,_,_,AU _,by omega,rfl,rfl,HL2,Gh,HB2⟩
  case round=>
   clear HL2 Gh HB2;obtain⟨i,a,c,hi,Lu,rfl,rfl,hL,hO,NA⟩:=hrel;by_cases hlt:i<n
   ·have hki:(i:Int)<(n:Int):=by omega
    have Gb:(0:Int)≤(i:Int):=by omega
    obtain⟨t,hx⟩:∃t,L[i]?=some t:=⟨_,AO (by rw[DV.out];exact hlt)⟩;obtain⟨g,c',he,hc1,hgl⟩:=iG hO.out hx;obtain⟨rfl,rfl⟩:av=some ⟨g,0,none⟩∧cv=c':=by simpa using he
    have hc2:=hc1;have NB:=hid (fun W=>AHp t W);clear hx he hc1;go_wp2_with fail;refine(NB.out _).mono ?_;rintro e w3 ⟨x,rfl,rfl⟩;have HPA:=hid (fun W=>Px.Qw x W);go_wp2_with fail;refine(HPA.out _).mono ?_;rintro e w4 ⟨rfl,rfl⟩;cases hpx:CL x with
    |false=>
     have HN:=hid (ACC (b:=false) NA.out);clear hL hO;go_wp2_with fail;exact Aj (v:=.tuple #[.slice none 0 0,.bool false]) (by simp[results,Tryz.results171,go_sem]) rfl HN.out
    |true=>
     by_cases h6:6≤i
     ·have xm:(6:Int)≤(i:Int):=by omega
      have HN:=hid (ACC (b:=false) NA.out);clear hL hO;go_wp2_with fail;exact Aj (v:=.tuple #[.slice none 0 0,.bool false]) (by simp[results,Tryz.results171,go_sem]) rfl HN.out
     ·have xm:¬(6:Int)≤(i:Int):=by omega
      obtain⟨l,h1,h2,h3,h4⟩:=hL.out;have a1:=Br h2 (S:=Any) ((AA.refl _ w3).alloc (.cells #[.int .i64 x] 2)) (fun _ _=>trivial);have Fq:=NA.out.size;have HH:=hid (And.intro h1 (And.intro h3 hpx));clear h1 h2 h3 hL hpx;go_wp2_with (at_builtin;(refine GQ _ rfl _ _ 24 rfl w.heap.size 2 i0 (.int .i64 0) 1 8 Tryz.underlying24 hi0 hz0 hz1 hz2 rfl (by decide) _ _ _ rfl a1 ⟨w3.heap.size,0,none⟩ 1 1 [.int .i64 x] rfl rfl (GN (cs:= #[.int .i64 x]) (t:=2) (fr:=(0,0)) (BA w3 _)) (by simp[Value.oneCell']) (by decide) (by unfold maxLen;omega) (by omega) (by simp;omega) _ rfl ?_));intro g2 cap2 w6 hown2 hgrow2 KF hlt2;have Ar:=hid ((NA.out.alloc Fq (.cells #[.int .i64 x] 2)).grown hgrow2 (by simp;omega) (fun g hg=>(Af a1 g hg).1));have hO4:=Br hO.out (S:=Any) ((AA.refl _ w3).alloc (.cells #[.int .i64 x] 2)) (fun _ _=>trivial);have FP:=hid (Np hO4 hgrow2 (LF hO4 a1 (by decide)));clear hO4;have QO:=hid (I1.push (P:=fun x=>CL x=true) (m:=6) HH.out.1 HH.out.2.1 HH.out.2.2 (by omega) hown2);clear a1 hown2 hgrow2 KF hlt2 hO Fq NA;go_wp2_with fail;go_roundw;case rel=>exact⟨i+1,_,cap2,by omega,by omega,by go_num,rfl,QO,FP,Ar⟩
      case measure=>simp[intOf];omega
   ·obtain rfl:n=i:=by omega
    have hnl:¬(n:Int)<(n:Int):=by omega
    obtain⟨l,h1,h2,h3,h4⟩:=hL.out;have HS:=hid (LM h2 h1);have Bw:=hid (Px.OY wr _ l HS.out h3);have HN:=hid (fun b=>show jT w (.returned (.tuple #[.slice a n c,.bool b])) wr from⟨n,l,a,c,b,rfl,h1,HS.out,h4,h3,NA.out⟩);clear h1 h2 h3 hL hO;go_wp2_with fail;refine Bw.out.mono ?_;rintro e w3 ⟨r,rfl,-, -, rfl⟩;go_wp2_with fail;exact Aj (v:=.tuple #[.slice a n c,.bool (decide (r≤729))]) (by simp[results,Tryz.results171,go_sem]) rfl (HN.out _)
end Go.Proofs.YtaadbccidfdniaaGreat.xq
namespace Go.Proofs.YtaadbccidfdniaaGreat.NC
open Go.RowKit Go.Proofs.YtaadbccidfdniaaGreat AB Dp Cn Dm Df Cc
theorem AAG (z:Value)(k:Nat):(Builtin.zeroCells #[z] k).toList=List.replicate k z:=by
 apply Oi;intro j;by_cases hj:j<k
 ·simp[Builtin.zeroCells,hj,Nat.mod_one]
 ·simp[Builtin.zeroCells,hj]
theorem AHr (w:World)(base:Nat)(ty:TypeId)(kq:IntKind)(g n cap:Nat)(xs:List Value)(hown:w.ownsRow base 2 1 (.slice (some ⟨g,0,none⟩) n cap) n xs)(k:Nat)(h63:n+k≤1000000)(hbase:base≤w.heap.size):
  ∃v' w',(Builtin.append_ #[24,3] ty #[.slice (some ⟨g,0,none⟩) n cap,.int kq k]).run Tryz.prog w= .ok v' w'∧w'.ownsRow base 2 1 v' (n+k) (xs++List.replicate k (.int .i64 0))∧w.grownBy w' (some g)∧∃g' c',v'= .slice (some ⟨g',0,none⟩) (n+k) c':=by
 obtain⟨i0,hi,hz0,hz1,hz2⟩:=Bt FX;have ht:=Tryz.underlying24;have htn:=Tryz.underlying3;have hx1:xs.length=n:=by have:=hown.1;omega
 rcases hown.2 with⟨h,_⟩|⟨g',cap',cur,h,hbg,hg,hnc,hcm,hcs,htake⟩
 ·cases h
 ·simp only[EY,Eg,Kj,and_true,true_and]at h;obtain⟨rfl,rfl⟩:=h;have hw:IntKind.i64.wrap (k:Int)=k:=by rw[IntKind.wrap_i64];omega
  have hneg:¬((k:Int)<0):=by omega
  have h48i:¬(281474976710656<(k:Int)*8):=by omega
  have hw0:IntKind.i64.wrap 0=0:=by decide
  by_cases hroom:n+k≤cap
  ·by_cases hk:k=0
   ·subst hk;refine⟨.slice (some ⟨g,0,none⟩) n cap,w,?_,by simpa using hown,⟨rfl,rfl,rfl,Av _,fun _ _ _=>rfl⟩,g,cap,rfl⟩;simp[Builtin.append_,run_underlying ht,run_underlying htn,sizeOf,typeInfo,hi,hz1,hz2,asInt,asIntOf,hw0,hnc,storeCells]
   ·have hst:=run_storeCells_at Tryz.prog g n 2 (List.replicate k (.int .i64 0)) 0 cur w hg (by simp;omega) (fun u hu=>by rw[List.eq_of_mem_replicate hu];rfl);simp only[Oc]at hst;obtain⟨cs,hcs2⟩:∃cs:Array Value,cs=(cur.toList.take n++List.replicate k (Value.int .i64 0)++cur.toList.drop (n+(List.replicate k (Value.int .i64 0)).length)).toArray:=⟨_,rfl⟩;rw[←hcs2]at hst;refine⟨.slice (some ⟨g,0,none⟩) (n+k) cap,w.setRow g cs,by simp[Builtin.append_,run_underlying ht,run_underlying htn,sizeOf,typeInfo,zeroValue,hi,hz0,hz1,hz2,asInt,asIntOf,hw,hneg,h48i,hroom,hk,Addr.add_lit,Value.cells,AAG,hst],⟨by simp[hx1],.inr ⟨g,cap,cs,rfl,hbg,setRow_heap w g cur _ _ _ hg,hroom,hcm,?_,?_⟩⟩,⟨rfl,rfl,rfl,by simp,fun k hk hne=>setRow_other w g k _ (fun e=>hne (by simp[e]))⟩,g,cap,rfl⟩
    ·rw[hcs2];simp;omega
    ·rw[hcs2];have h4:cur.toList.take n=xs:=by simpa using htake
     rw[h4];simp only[Ih];rw[←Ih,List.take_append_of_le_length (by simp[hx1])];rw[P6 (by simp[hx1])]
  ·have h0:0<k:=by omega
   have holds:∀j u,xs[j]?=some u→w.drew.cell? ((⟨g,0,none⟩:Addr).add j)=some u:=hown.cells (g:=g) rfl;have hf:=run_firstCells_some (P:=Tryz.prog) w.drew i0.size n ⟨g,0,none⟩ n cap xs (by rw[hz1];omega) holds;have hr:=Lib.run_append_grow_zeros (P:=Tryz.prog) w 24 3 ty 2 i0 (.int .i64 0) kq .i64 ht htn hi hz0 (some ⟨g,0,none⟩) n cap xs hf k h0 (by rw[hz1];omega) (by omega) (by omega) (by rw[hz2];omega) (by rw[hz2];exact growslice_fits (by omega) (by omega));have hge:=grownCap_ge w (n+k) cap 2;have hcm2:grownCap w (n+k) cap 2≤maxLen:=grownCap_le_maxLen w (n+k) cap 2 (by unfold maxLen;omega);refine⟨_,_,hr,⟨by simp[hx1],.inr ⟨w.heap.size,_,_,rfl,hbase,BA w.drew _,hge,hcm2,?_,?_⟩⟩,⟨rfl,rfl,rfl,by simp,fun k hk _=>E5 w.drew _ k hk⟩,_,_,rfl⟩
   ·simp[Value.cells,hx1,size_zeroCells];omega
   ·simp only[Array.toList_append,Ih];rw[←Ih,List.take_append_of_le_length (by simp[hx1,Value.cells,size_zeroCells])];rw[P6 (by simp[hx1,Value.cells,size_zeroCells]),show(Value.int .i64 0).cells= #[.int .i64 0] from rfl,AAG]
theorem AAL {ops:Array Oper}{rest:List Oper}{o:Oper}{a:Act}{w:World}{Q:Exit→Act→World→Prop}(hgd:o.guard=none)(s x:Operand)
  (ho:o.op= .call { callee:=.builtin .append,args:= #[s,x],argTypes:= #[24,3] }) (base g n cap:Nat) (xs:List Value) (k:Nat) (kq:IntKind) (hs:a.eval s= .slice (some ⟨g,0,none⟩) n cap) (hown:w.ownsRow base 2 1 (.slice (some ⟨g,0,none⟩) n cap) n xs)
  (hx:a.eval x= .int kq (k:Int)) (h63:n+k≤1000000) (hbase:base≤w.heap.size)
  (h:∀g' c' w',w'.ownsRow base 2 1 (.slice (some ⟨g',0,none⟩) (n+k) c') (n+k) (xs++List.replicate k (.int .i64 0))→w.grownBy w' (some g)→wpList Tryz.prog ops Q rest (a.put o.dst (.slice (some ⟨g',0,none⟩) (n+k) c')) w'):wpList Tryz.prog ops Q (o::rest) a w:=by
 refine wpList_plain hgd fun K hK=>?_;obtain⟨v',w',hr,h2,h3,g',c',rfl⟩:=AHr w base o.type kq g n cap xs hown k h63 hbase;unfold Oper.wp execOp;simp only[ho,resolve,invoke,builtin,Sem.run_bind,Sem.run_pure,RB,RD,GZ,Ng,hs,hx,hr];exact hK _ _ (h g' c' w' h2 h3)
theorem AG7 {ops:Array Oper}{rest:List Oper}{o:Oper}{a:Act}{w:World}{Q:Exit→Act→World→Prop}(hgd:o.guard=none)(s x:Operand)
  (ho:o.op= .call { callee:=.builtin .append,args:= #[s,x],argTypes:= #[24,24] }) (g n cap:Nat) (hs:a.eval s= .slice (some ⟨g,0,none⟩) n cap) (hc:n≤cap)
  (hx:a.eval x= .slice none 0 0) (h:wpList Tryz.prog ops Q rest (a.put o.dst (.slice (some ⟨g,0,none⟩) n cap)) w):wpList Tryz.prog ops Q (o::rest) a w:=by
 refine wpList_plain hgd fun K hK=>?_;obtain⟨i0,hi,hz0,hz1,hz2⟩:=Bt FX;have ht:=Tryz.underlying24;have hr:(Builtin.append_ #[24,24] o.type #[.slice (some ⟨g,0,none⟩) n cap,.slice none 0 0]).run Tryz.prog w= .ok (.slice (some ⟨g,0,none⟩) n cap) w:=by
  simp[Builtin.append_,run_underlying ht,sizeOf,typeInfo,hi,hz1,Builtin.lenOf,Builtin.firstCells,hc,storeCells]
 unfold Oper.wp execOp;simp only[ho,resolve,invoke,builtin,Sem.run_bind,Sem.run_pure,RB,RD,GZ,Ng,hs,hx,hr];exact hK _ _ h
theorem R1.lT {B n:Nat}{w:World}{v:Value}{xs:List Value}{l:List Int}(h:w.ownsRow B 2 1 v n xs)(hx:xs=vals l):R1 B w n v:=by
 subst hx;exact⟨l,by have:=h.1;simpa using this,h⟩
def ShR (m:Nat)(w:World)(e:Ending)(w':World):Prop:=∃g c,e= .returned (.slice (some ⟨g,0,none⟩) m c)∧R1 w.heap.size w' m (.slice (some ⟨g,0,none⟩) m c)∧Below w.heap.size w w'
theorem AHs (b m:Nat)(hb:b≤100)(hm:m≤100)(v:Value)(l:List Int)(w:World)(hv:AL Any w v l)(hl:l.length≤100):
  Calls Tryz.prog 105 #[.int .i64 (b:Int),v,.int .i64 (m:Int)] w (ShR (b+l.length+m) w):=by
 obtain⟨i0,hi,hz0,hz1,hz2⟩:=Bt FX;obtain⟨ao,c,rfl,hc,hcm,hn,hx⟩:=hv;have HM:=hid hcm;have hsl:AL Any w (.slice ao l.length c) l:=⟨ao,c,rfl,hc,hcm,hn,hx⟩;clear hcm;have HS:=hid hsl;have hmk:=UU b hb w;have h00:Own w.heap.size (w.alloc (.cells (madeCells #[.int .i64 0] b) 2)) (.slice (some ⟨w.heap.size,0,none⟩) b b) (List.replicate b 0):=Own.made (B:=w.heap.size) w b AR (by unfold maxLen;omega);have h01:(w.alloc (.cells (madeCells #[.int .i64 0] b) 2)).ownsRow w.heap.size 2 1 (.slice (some ⟨w.heap.size,0,none⟩) b b) b (vals (List.replicate b 0)):=by
  have h:=h00;unfold Own at h;rw[DK]at h;exact h
 have HB0:=hid (show Below w.heap.size w (w.alloc (.cells (madeCells #[.int .i64 0] b) 2)) from AX.alloc AR _);clear h00 hsl hx;cases ao with
 |none=>
  obtain rfl:c=0:=hn rfl;obtain rfl:l=[]:=D8 (by omega);have H1:=hid h01;go_enter Tryz.func105,Tryz.ntmps105;go_wp2_with (first|(at_builtin;refine AG7 rfl _ _ rfl w.heap.size b b rfl AR rfl ?_)|(at_builtin;refine AAL rfl _ _ rfl w.heap.size w.heap.size b b _ m .i64 rfl H1.out rfl (by omega) (by simp) ?_));intro g' c' w' h2 h3;have HF:=hid (show ShR (b+([]:List Int).length+m) w (.returned (.slice (some ⟨g',0,none⟩) (b+m) c')) w' from⟨g',c',rfl,R1.lT (l:=List.replicate (b+m) 0) h2 (by simp[vals]),HB0.out.grown h3 (by simp) (by intro k hk;injection hk with hk;omega)⟩);clear h2 h3;go_wp2_with fail;go_ret;exact HF.out
 |some ad=>
  have C1:=hid (AL.src (w':=w.alloc (.cells (madeCells #[.int .i64 0] b) 2)) HS.out (AJ.alloc _));have C2:=hid (Qy l);have C3:=hid (show b+l.length≤maxLen from by unfold maxLen;omega);have C4:=hid (show(b+l.length)*8≤140737488355328 from by omega);have C5:=hid (show(vals l).length=l.length*1 by simp[vals]);go_enter Tryz.func105,Tryz.ntmps105;go_wp2_with (at_builtin;refine Fz _ rfl _ _ 24 rfl w.heap.size 2 i0 (.int .i64 0) 1 8 Tryz.underlying24 hi hz0 hz1 hz2 rfl (by decide) _ _ _ rfl h01 ad l.length c (vals l) rfl C5.out C1.out C2.out C3.out C4.out (by simp) ?_);intro v' w1 hown' hgrow hnil;have hne:v'≠.slice none 0 0:=hnil;obtain⟨g1,c1,rfl⟩:∃g1 c1,v'= .slice (some ⟨g1,0,none⟩) (b+l.length) c1:=by
   rcases hown'.2 with⟨h,_⟩|⟨g,cap,cur,h,_⟩
   ·exact absurd h hne
   ·exact⟨g,cap,h⟩
  have H1:=hid hown';have HB1:=hid (HB0.out.grown hgrow (by simp) (by intro k hk;simp[Value.ownBlock]at hk;omega));have hgb:=(Af hown' g1 rfl).1;have BI:=hid HB1.out.size;clear hown' hgrow hnil hne h01;go_wp2_with (at_builtin;refine AAL rfl _ _ rfl w.heap.size g1 (b+l.length) c1 _ m .i64 rfl H1.out rfl (by omega) BI.out ?_);intro g' c' w' h2 h3;have HF:=hid (show ShR (b+l.length+m) w (.returned (.slice (some ⟨g',0,none⟩) (b+l.length+m) c')) w' from⟨g',c',rfl,R1.lT (l:=List.replicate b 0++l++List.replicate m 0) h2 (by simp[vals]),HB1.out.grown h3 BI.out (by intro k hk;injection hk with hk;omega)⟩);clear h2 h3;go_wp2_with fail;go_ret;exact HF.out
end Go.Proofs.YtaadbccidfdniaaGreat.NC
namespace Go.Proofs.YtaadbccidfdniaaGreat.Df
open Go.RowKit Go.Proofs.YtaadbccidfdniaaGreat AB
theorem R2.at {B n c i m:Nat}{L:List Nat}{w:World}{a:Option Addr}(h:R2 B w L (.slice a n c))(hi:L[i]?=some m):
  ∃g u0 cur,a=some ⟨g,0,none⟩∧w.cell? ⟨g,i,none⟩=some u0∧w.frozen? ⟨g,i,none⟩=false∧w.heap[g]?=some (.cells cur 24 (0,0))∧cur[i]?=some u0∧R1 B w m u0∧B≤g∧g<w.heap.size:=by
 obtain⟨us,h1,h2⟩:=h;obtain⟨u,e1,e2⟩:=h2 i m hi;rcases id h1.2 with⟨h3,h4⟩|⟨g,cap,cur,h3,hB,hg,_,_,_,ht⟩
 ·have:=(Ag.1 hi).1;omega
 ·simp only[EY]at h3;obtain⟨rfl,-, -⟩:=h3;rw[←ht,Pq]at e1;split at e1
  ·rw[TL]at e1;exact⟨g,u,cur,rfl,by rw[Ah w g i cur _ (0,0) hg];exact e1,BQ w g i cur _ hg,hg,e1,e2,hB,(Ba.1 hg).1⟩
  ·cases e1
theorem R3.at {B n c i:Nat}{M:List (List Nat)}{L:List Nat}{w:World}{a:Option Addr}(h:R3 B w M (.slice a n c))(hi:M[i]?=some L):
  ∃g u0,a=some ⟨g,0,none⟩∧w.cell? ⟨g,i,none⟩=some u0∧R2 B w L u0∧B≤g∧g<w.heap.size:=by
 obtain⟨us,h1,h2⟩:=h;obtain⟨u,e1,e2⟩:=h2 i L hi;rcases id h1.2 with⟨h3,h4⟩|⟨g,cap,cur,h3,hB,hg,_,_,_,ht⟩
 ·have:=(Ag.1 hi).1;omega
 ·simp only[EY]at h3;obtain⟨rfl,-, -⟩:=h3;rw[←ht,Pq]at e1;split at e1
  ·rw[TL]at e1;exact⟨g,u,rfl,by rw[Ah w g i cur _ (0,0) hg];exact e1,e2,hB,(Ba.1 hg).1⟩
  ·cases e1
theorem R2.form {B:Nat}{L:List Nat}{w:World}{v:Value}(h:R2 B w L v):∃a c,v= .slice a L.length c∧L.length≤c∧c≤maxLen:=by
 obtain⟨us,h1,_⟩:=h;rcases h1.2 with⟨rfl,h0⟩|⟨g,cap,cu,rfl,_,_,h3,h4,_⟩
 ·exact⟨none,0,by rw[h0],by omega,by simp[maxLen]⟩
 ·exact⟨_,cap,rfl,h3,h4⟩
theorem R3.form {B:Nat}{L:List (List Nat)}{w:World}{v:Value}(h:R3 B w L v):∃a c,v= .slice a L.length c∧L.length≤c∧c≤maxLen:=by
 obtain⟨us,h1,_⟩:=h;rcases h1.2 with⟨rfl,h0⟩|⟨g,cap,cu,rfl,_,_,h3,h4,_⟩
 ·exact⟨none,0,by rw[h0],by omega,by simp[maxLen]⟩
 ·exact⟨_,cap,rfl,h3,h4⟩
end Go.Proofs.YtaadbccidfdniaaGreat.Df
namespace Go.Proofs.YtaadbccidfdniaaGreat.Cc
open Go.RowKit Go.Proofs.YtaadbccidfdniaaGreat AB Df
theorem PT.form {B n:Nat}{w:World}{vO vP vC:Value}(h:PT B w n vO vP vC):∃a1 c1 a2 c2 a3 c3,vO= .slice a1 n c1∧vP= .slice a2 n c2∧vC= .slice a3 n c3:=by
 obtain⟨a1,c1,rfl,_⟩:=h.1.len;obtain⟨a2,c2,rfl,_⟩:=h.2.1.form;obtain⟨a3,c3,rfl,_⟩:=h.2.2.form;exact⟨a1,c1,a2,c2,a3,c3,rfl,by simp,by simp⟩
theorem PT.ty {B n:Nat}{w w':World}{vO vP vC:Value}(h:PT B w n vO vP vC)(ht:Ty B w w'):PT B w' n vO vP vC:=⟨ht.one _ _ h.1,ht.two _ _ h.2.1,ht.three _ _ h.2.2⟩
theorem PT.mono {B B' n:Nat}{w:World}{vO vP vC:Value}(h:PT B w n vO vP vC)(hB:B'≤B):PT B' w n vO vP vC:=⟨h.1.mono hB,h.2.1.mono hB,h.2.2.mono hB⟩
end Go.Proofs.YtaadbccidfdniaaGreat.Cc
namespace Go.Proofs.YtaadbccidfdniaaGreat.Gl
open Go.RowKit Go.Proofs.YtaadbccidfdniaaGreat AB Dp Cn Dm Df Cc NC
def ACn (n:Nat):List (List Nat):=(List.range n).map fun i=>List.replicate (n-(i+1)) n
theorem Sn {n i:Nat}(h:i<n):(ACn n)[i]?=some (List.replicate (n-(i+1)) n):=by unfold ACn;simp[h]
theorem NZ {n m i:Nat}(h:i<m):(List.replicate m n)[i]?=some n:=by simp[h]
def PX (B n:Nat)(w:World)(g:Nat)(vO vP vC:Value):Prop:=w.heap[g]?=some (.cells #[vO,vP,vC] 28 (0,0))∧B≤g∧PT B w n vO vP vC
theorem PX.lt {B n:Nat}{w:World}{g:Nat}{vO vP vC:Value}(h:PX B n w g vO vP vC):g<w.heap.size:=(Ba.1 h.1).1
theorem PX.below {B n:Nat}{w w':World}{g:Nat}{vO vP vC:Value}(h:PX B n w g vO vP vC)(hb:Below w.heap.size w w'):PX B n w' g vO vP vC:=⟨(hb.block g h.lt).trans h.1,h.2.1,h.2.2.ty (Ty.below hb)⟩
theorem PX.put {B n b i m:Nat}{w:World}{g:Nat}{vO vP vC u0 u:Value}{cur:Array Value}(h:PX B n w g vO vP vC)(hb:w.heap[b]?=some (.cells cur 24 (0,0)))(h0:cur[i]?=some u0)(hu0:R1 B w m u0)(hu:R1 B w m u):PX B n (w.setCell ⟨b,i,none⟩ u) g vO vP vC:=
 ⟨by
  rw[GR w ⟨b,i,none⟩ g u ?_]
  ·exact h.1
  ·intro e;have e:g=b:=e;subst e;rw[h.1]at hb;simp at hb,h.2.1,h.2.2.ty (Ty.set2 hb h0 hu0 hu)⟩
theorem YD (b m k:Nat)(hb:b≤100)(hm:m≤100)(hk:k≤100)(v:Value)(B:Nat)(w:World)(hv:R1 B w k v):Calls Tryz.prog 105 #[.int .i64 (b:Int),v,.int .i64 (m:Int)] w (ShR (b+k+m) w):=by
 obtain⟨l,rfl,hl⟩:=hv.sl;exact AHs b m hb hm v l w (hl.mono fun _ _=>trivial) hk
theorem ACD (w:World)(base:Nat)(ty:TypeId)(g n cap m c:Nat)(xs l:List Int)(b:Option Addr)(hown:w.ownsRow base 2 1 (.slice (some ⟨g,0,none⟩) n cap) n (vals xs))(hsl:AL Any w (.slice b m c) l)(h63:n+m≤1000000)(hbase:base≤w.heap.size):
  ∃g' c' w',(Builtin.append_ #[24,24] ty #[.slice (some ⟨g,0,none⟩) n cap,.slice b m c]).run Tryz.prog w= .ok (.slice (some ⟨g',0,none⟩) (n+m) c') w'∧w'.ownsRow base 2 1 (.slice (some ⟨g',0,none⟩) (n+m) c') (n+m) (vals (xs++l))∧w.grownBy w' (some g):=by
 obtain⟨i0,hi,hz0,hz1,hz2⟩:=Bt FX;have ht:=Tryz.underlying24;have hsl2:=hsl;obtain⟨ao,c',he,hc,hm,hn,hx⟩:=hsl;obtain⟨rfl,rfl,rfl⟩:b=ao∧m=l.length∧c=c':=by simpa using he
 have hnc:n≤cap:=by
  rcases hown.2 with⟨h,_⟩|⟨g',cap',cur,h,_,_,h3,_⟩
  ·cases h
  ·have h:g=g'∧cap=cap':=by simpa using h
   omega
 cases b with
 |none=>
  have h0:c=0:=hn rfl;subst h0;have hl0:l=[]:=D8 (by omega);subst hl0;refine⟨g,cap,w,?_,by simpa using hown,⟨rfl,rfl,rfl,Av _,fun _ _ _=>rfl⟩⟩;simp[Builtin.append_,run_underlying ht,sizeOf,typeInfo,hi,hz1,Builtin.lenOf,Builtin.firstCells,hnc,storeCells]
 |some ad=>
  obtain⟨v',w',h1,h2,h3,h4⟩:=run_append_own (P:=Tryz.prog) w base 24 ty 2 i0 (.int .i64 0) 1 8 ht hi hz0 hz1 hz2 rfl (by decide) _ n (vals xs) hown ad l.length c (vals l) (by simp[vals]) (AL.src hsl2 AJ) (Qy l) (by unfold maxLen;omega) (by omega) hbase;rcases h2.2 with⟨h5,_⟩|⟨g',cap',cur,h5,_⟩
  ·exact absurd (h4.1 h5).1 (by simp)
  ·subst h5;exact⟨g',cap',w',h1,by simpa[vals]using h2,h3⟩
theorem AIY {ops:Array Oper}{o:Oper}{a:Act}{w:World}{K:Act→World→Prop}{Q:Exit→Act→World→Prop}{E:Prop}(hgd:o.guard=none)(s x:Operand)
  (ho:o.op= .call { callee:=.builtin .append,args:= #[s,x],argTypes:= #[24,24] }) (base g n cap m c:Nat) (xs l:List Int) (b:Option Addr) (hs:a.eval s= .slice (some ⟨g,0,none⟩) n cap) (hown:w.ownsRow base 2 1 (.slice (some ⟨g,0,none⟩) n cap) n (vals xs))
  (hx:a.eval x= .slice b m c) (hsl:AL Any w (.slice b m c) l) (h63:n+m≤1000000) (hbase:base≤w.heap.size)
  (h:∀g' c' w',w'.ownsRow base 2 1 (.slice (some ⟨g',0,none⟩) (n+m) c') (n+m) (vals (xs++l))→w.grownBy w' (some g)→K (a.put o.dst (.slice (some ⟨g',0,none⟩) (n+m) c')) w'):
  if Region.wanted o (yielded ops a.tmps)=true then Oper.wp Tryz.prog o a w K Q else E:=by
 have hw:Region.wanted o (yielded ops a.tmps)=true:=by simp[Region.wanted,hgd]
 rw[Bo hw];obtain⟨g',c',w',hr,h2,h3⟩:=ACD w base o.type g n cap m c xs l b hown hsl h63 hbase;unfold Oper.wp execOp;simp only[ho,resolve,invoke,builtin,Sem.run_bind,Sem.run_pure,RB,RD,GZ,Ng,hs,hx,hr];exact h g' c' w' h2 h3
theorem LM {B n:Nat}{w:World}{v:Value}{l:List Int}(h:w.ownsRow B 2 1 v n (vals l))(hl:l.length=n):AL Any w v l:=by
 subst hl;exact(Own.sl h).mono fun _ _=>trivial
abbrev CG:Obj:=.cells #[.slice none 0 0,.slice none 0 0,.slice none 0 0] 28 (0,0)
theorem MW {B B0 n:Nat}{W:World}{x y z:Value}(hp:PT B W n x y z)(hB:B0≤B)(hW:B0≤W.heap.size):PX B0 n (W.alloc (.cells #[x,y,z] 28)) W.heap.size x y z:=
 ⟨BA _ _,hW,(hp.ty (Ty.keep (S:=Any) (AJ.alloc _) fun _ _=>trivial)).mono hB⟩
theorem AJq {B B0 n g:Nat}{W:World}{x y z:Value}(hA:W.heap[g]?=some CG)(hp:PT B W n x y z)(hB:B0≤B)(hg:B0≤g)(hgB:g<B):PX B0 n (((W.setCell ⟨g,0,none⟩ x).setCell ⟨g,1,none⟩ y).setCell ⟨g,2,none⟩ z) g x y z:=
 ⟨BZ hA,hg,(hp.ty (Ty.keep (S:=fun k=>B≤k) ((((AA.refl _ W).setCell (by simp;omega) _).setCell (by simp;omega) _).setCell (by simp;omega) _) fun _ h=>h)).mono hB⟩
def Slot (B N:Nat)(w:World)(gp i:Nat):Prop:=w.frozen? ⟨gp,i,none⟩=false∧B≤gp∧gp<w.heap.size∧∃cur u0,w.heap[gp]?=some (.cells cur 24 (0,0))∧cur[i]?=some u0∧R1 B w N u0
theorem Slot.below {B N gp i:Nat}{w w':World}(h:Slot B N w gp i)(hb:Below w.heap.size w w'):Slot B N w' gp i:=by
 obtain⟨h1,h2,h3,cur,u0,h4,h5,h6⟩:=h;have hg:=(hb.block gp h3).trans h4;exact⟨BQ w' gp i cur _ hg,h2,Ai h3 hb.size,cur,u0,hg,h5,(Ty.below hb).one _ _ h6⟩
theorem Slot.put {B N gp i:Nat}{w:World}{g n:Nat}{vO vP vC u:Value}(h:Slot B N w gp i)(hx:PX B n w g vO vP vC)(hu:R1 B w N u):PX B n (w.setCell ⟨gp,i,none⟩ u) g vO vP vC:=by
 obtain⟨h1,h2,h3,cur,u0,h4,h5,h6⟩:=h;exact hx.put h4 h5 h6 hu
theorem Slot.cell {B N gp i:Nat}{w:World}(h:Slot B N w gp i):∃u,w.cell? ⟨gp,i,none⟩=some u:=by
 obtain⟨h1,h2,h3,cur,u0,h4,h5,h6⟩:=h;exact⟨u0,(Ah w gp i cur _ (0,0) h4).trans h5⟩
theorem PX.Py {B N g y2 i:Nat}{w:World}{vO vC:Value}{x2:Option Addr}(h:PX B N w g vO (.slice x2 N y2) vC)(hi:i<N):∃gp,x2=some ⟨gp,0,none⟩∧Slot B N w gp i:=by
 obtain⟨gp,u0,cur,e,_,h2,h3,h4,h5,h6,h7⟩:=h.2.2.2.1.at (NZ hi);exact⟨gp,e,h2,h6,h7,cur,u0,h3,h4,h5⟩
theorem PX.Vv {B N g y3 i j:Nat}{w:World}{vO vP:Value}{x3:Option Addr}(h:PX B N w g vO vP (.slice x3 N y3))(hi:i<N)(hj:j<N-(i+1)):
  ∃gc gr yr,x3=some ⟨gc,0,none⟩∧w.cell? ⟨gc,i,none⟩=some (.slice (some ⟨gr,0,none⟩) (N-(i+1)) yr)∧gc<w.heap.size∧Slot B N w gr j:=by
 obtain⟨gc,u,e,h1,h2,h3,h4⟩:=h.2.2.2.2.at (Sn hi);obtain⟨a,yr,rfl,_⟩:=h2.form;rw[DK]at h1 h2;obtain⟨gr,u0,cur,rfl,_,k2,k3,k4,k5,k6,k7⟩:=h2.at (NZ hj);exact⟨gc,gr,yr,e,h1,h4,k2,k6,k7,cur,u0,k3,k4,k5⟩
theorem AEJ {B m i c:Nat}{w:World}{vO vC:Value}{a:Option Addr}(h:PT B w m vO (.slice a m c) vC)(hi:i<m):∃ga aa ca,a=some ⟨ga,0,none⟩∧w.cell? ⟨ga,i,none⟩=some (.slice aa m ca)∧ga<w.heap.size∧R1 B w m (.slice aa m ca):=by
 obtain⟨ga,u,cur,e,h1,h2,h3,h4,h5,h6,h7⟩:=h.2.1.at (NZ hi);obtain⟨aa,ca,rfl,_⟩:=h5.len;exact⟨ga,aa,ca,e,h1,h7,h5⟩
theorem tZ {B m i c:Nat}{w:World}{vO vP:Value}{a:Option Addr}(h:PT B w m vO vP (.slice a m c))(hi:i<m):∃ga aa ca,a=some ⟨ga,0,none⟩∧w.cell? ⟨ga,i,none⟩=some (.slice aa (m-(i+1)) ca)∧ga<w.heap.size∧R2 B w (List.replicate (m-(i+1)) m) (.slice aa (m-(i+1)) ca):=by
 obtain⟨ga,u,e,h1,h2,h3,h4⟩:=h.2.2.at (Sn hi);obtain⟨aa,ca,rfl,_⟩:=h2.form;rw[DK]at h1 h2;exact⟨ga,aa,ca,e,h1,h4,h2⟩
theorem Vw {B k n m c:Nat}{w:World}{a:Option Addr}(h:R2 B w (List.replicate k m) (.slice a n c)){j:Nat}(hj:j<k):∃ga aa ca,a=some ⟨ga,0,none⟩∧w.cell? ⟨ga,j,none⟩=some (.slice aa m ca)∧ga<w.heap.size∧R1 B w m (.slice aa m ca):=by
 obtain⟨ga,u,cur,e,h1,h2,h3,h4,h5,h6,h7⟩:=h.at (NZ hj);obtain⟨aa,ca,rfl,_⟩:=h5.len;exact⟨ga,aa,ca,e,h1,h7,h5⟩
theorem Od {gN:Nat}{wr w':World}(h:AA (fun k=>k≠gN) wr w'):(∀b o,b<wr.heap.size→¬b=gN→w'.cell? ⟨b,o,none⟩=wr.cell? ⟨b,o,none⟩)∧AA (fun k=>k≠gN) wr w':=⟨fun b o hb hn=>h.cell hn hb,h⟩
def jU (wc w6:World)(g k:Nat)(x y z:Value):Prop:=w6.heap[g]?=some CG∧wc.heap.size≤g∧(∃B,PT B w6 k x y z∧g<B)∧Below wc.heap.size wc w6
def AEK (wc w6:World)(k:Nat)(x y z:Value):Prop:=(∃B,PT B w6 k x y z∧wc.heap.size≤B)∧Below wc.heap.size wc w6
abbrev AEL (wc W:World)(k:Nat)(p:Value):Prop:=∃g x1 y1 x2 y2 x3 y3,p= .pointer (some ⟨g,0,none⟩)∧Hid (PX wc.heap.size k W g (.slice x1 k y1) (.slice x2 k y2) (.slice x3 k y3))∧Hid (Below wc.heap.size wc W)
theorem AJr {wc w6:World}{g k y1 y2 y3:Nat}{x1 x2 x3:Option Addr}(h:jU wc w6 g k (.slice x1 k y1) (.slice x2 k y2) (.slice x3 k y3)):
  AEL wc (((w6.setCell ⟨g,0,none⟩ (.slice x1 k y1)).setCell ⟨g,1,none⟩ (.slice x2 k y2)).setCell ⟨g,2,none⟩ (.slice x3 k y3)) k (.pointer (some ⟨g,0,none⟩)):=by
 obtain⟨h1,h2,⟨B,h3,h4⟩,h5⟩:=h;exact⟨g,x1,y1,x2,y2,x3,y3,rfl,hid (AJq h1 h3 (by omega) h2 h4),hid (((h5.setCell (p:=⟨g,0,none⟩) h2 _).setCell (p:=⟨g,1,none⟩) h2 _).setCell (p:=⟨g,2,none⟩) h2 _)⟩
theorem AJs {wc w6:World}{k y1 y2 y3:Nat}{x1 x2 x3:Option Addr}(h:AEK wc w6 k (.slice x1 k y1) (.slice x2 k y2) (.slice x3 k y3)):
  AEL wc (w6.alloc (.cells #[.slice x1 k y1,.slice x2 k y2,.slice x3 k y3] 28)) k (.pointer (some ⟨w6.heap.size,0,none⟩)):=by
 obtain⟨⟨B,h3,h4⟩,h5⟩:=h;exact⟨w6.heap.size,x1,y1,x2,y2,x3,y3,rfl,hid (MW h3 h4 h5.size),hid (h5.alloc h5.size _)⟩
theorem rP (n k:Nat)(hn:n≤100)(hk:k<n)(w:World):Calls Tryz.prog 106 #[.int .i64 (n:Int),.int .i64 (k:Int)] w (ShR n w):=
 (ABV n k hn hk w).mono fun e w' ⟨g,h1,h2,h3⟩=>⟨g,n,h1,⟨ints ((List.replicate n 0).set k 1),by simp[ints],by
  have hl:(ints ((List.replicate n 0).set k 1)).length=n:=by simp[ints]
  unfold Own at h2;rw[hl]at h2;exact h2⟩,h3⟩
theorem AHL {ops:Array Oper}{rest:List Oper}{o:Oper}{a:Act}{w:World}{Q:Exit→Act→World→Prop}(hgd:o.guard=none)(s x:Operand)
  (ho:o.op= .call { callee:=.builtin .append,args:= #[s,x],argTypes:= #[24,24] }) (base g n cap m c:Nat) (xs l:List Int) (b:Option Addr) (hs:a.eval s= .slice (some ⟨g,0,none⟩) n cap) (hown:w.ownsRow base 2 1 (.slice (some ⟨g,0,none⟩) n cap) n (vals xs))
  (hx:a.eval x= .slice b m c) (hsl:AL Any w (.slice b m c) l) (h63:n+m≤1000000) (hbase:base≤w.heap.size)
  (h:∀g' c' w',w'.ownsRow base 2 1 (.slice (some ⟨g',0,none⟩) (n+m) c') (n+m) (vals (xs++l))→w.grownBy w' (some g)→wpList Tryz.prog ops Q rest (a.put o.dst (.slice (some ⟨g',0,none⟩) (n+m) c')) w'):wpList Tryz.prog ops Q (o::rest) a w:=by
 refine wpList_plain hgd fun K hK=>?_;obtain⟨g',c',w',hr,h2,h3⟩:=ACD w base o.type g n cap m c xs l b hown hsl h63 hbase;unfold Oper.wp execOp;simp only[ho,resolve,invoke,builtin,Sem.run_bind,Sem.run_pure,RB,RD,GZ,Ng,hs,hx,hr];exact hK _ _ (h g' c' w' h2 h3)
theorem Ye (m:Nat)(hm:m≤100)(a:Option Addr)(c:Nat)(l:List Int)(hl:l.length=m)(w:World)(hv:AL Any w (.slice a m c) l):
  Calls Tryz.prog 63 #[.slice a m c] w fun e w'=>∃g c,e= .returned (.slice (some ⟨g,0,none⟩) m c)∧w'.ownsRow w.heap.size 2 1 (.slice (some ⟨g,0,none⟩) m c) m (vals l)∧Below w.heap.size w w':=by
 refine(NY Any (.slice a m c) l w hv (by omega)).mono ?_;rintro e w2 ⟨g,c,rfl,ho,hb⟩;unfold Own at ho;rw[hl]at ho ⊢;exact⟨g,c,rfl,ho,hb⟩
theorem YK (n:Nat)(hn:n≤100)(os:List Int)(hl:os.length=n)(v:Value)(w:World)(hv:AL Any w v os):
  Calls Tryz.prog 61 #[v] w fun e w'=>∃x1 y1 x2 y2 x3 y3,e= .returned (.agg #[.slice x1 n y1,.slice x2 n y2,.slice x3 n y3])∧PT w.heap.size w' n (.slice x1 n y1) (.slice x2 n y2) (.slice x3 n y3)∧Below w.heap.size w w':=by
 refine(fH os v w hv (by omega)).mono ?_;rintro e w2 ⟨vO,vP,vC,rfl,hp,hb⟩;rw[hl]at hp;obtain⟨x1,y1,x2,y2,x3,y3,rfl,rfl,rfl⟩:=hp.form;exact⟨_,_,_,_,_,_,rfl,hp,hb⟩
theorem RG {B N n g gp i:Nat}{w:World}{vO vP vC:Value}(h:Slot B N w gp i)(hx:PX B n w g vO vP vC):¬g=gp:=fun e=>by
 obtain⟨_,_,_,cur,u0,h4,_⟩:=h;have h5:=hx.1;rw[e,h4]at h5;simp at h5
theorem sG {B N g gc gr y3 i j:Nat}{w:World}{vO vP:Value}(hx:PX B N w g vO vP (.slice (some ⟨gc,0,none⟩) N y3))(h:Slot B N w gr j):¬gc=gr:=fun e=>by
 obtain⟨us,q1,_⟩:=hx.2.2.2.2;obtain⟨_,_,_,cur,u0,h5,_⟩:=h;exact Pj q1 h5 (by decide) (by rw[e];rfl)
end Go.Proofs.YtaadbccidfdniaaGreat.Gl
namespace Go.Proofs.YtaadbccidfdniaaGreat.Ue
open Go.RowKit Go.Proofs.YtaadbccidfdniaaGreat AB Val Dp Cn Df Cc NC
abbrev ND (B:Nat)(w:World)(v:Value)(x:List Nat):Prop:=w.ownsRow B 2 1 v x.length (vals (ints x))
def JR:Nat→Nat→Nat→Nat×Nat
 |0,p,n=>(0,n)
 |k+1,p,n=>if n%p=0 then((JR k p (n/p)).1+1,(JR k p (n/p)).2)else(0,n)
def Gc:List Nat→Nat→List Nat×Nat
 |[],n=>([],n)
 |d::ds,n=>(List.replicate (JR 10 d n).1 d++(Gc ds (JR 10 d n).2).1,(Gc ds (JR 10 d n).2).2)
theorem AHt (x:List Nat)(a:Nat):vals (ints x)++[.int .i64 (a:Int)]=vals (ints (x++[a])):=by simp[vals,ints]
theorem AHM {j q m:Nat}(h:m%q=0):JR (j+1) q m=((JR j q (m/q)).1+1,(JR j q (m/q)).2):=by rw[JR,Bo h]
theorem AHu {j q m:Nat}(h:m%q≠0):JR j q m=(0,m):=by cases j with
 |zero=>rfl
 |succ j=>rw[JR,BD h]
def Sp (q n m e:Nat):Prop:=1≤m∧m≤n∧e≤10∧m<2^(10-e)∧JR 10 q n=(e+(JR (10-e) q m).1,(JR (10-e) q m).2)
theorem Sp.start {q n:Nat}(h1:1≤n)(h2:n≤1000):Sp q n n 0:=⟨h1,Av _,by omega,by show n<1024;omega,by simp⟩
theorem Sp.step {q n m e:Nat}(h:Sp q n m e)(hq:2≤q)(hm:m%q=0):Sp q n (m/q) (e+1)∧m/q<m∧e<10:=by
 obtain⟨h1,h2,h3,h4,h5⟩:=h;have he:e<10:=by
  refine Nat.lt_of_not_le fun h=>?_;rw[show 10-e=0 by omega]at h4;simp at h4;omega
 have hd:m/q<m:=Nat.div_lt_self (by omega) (by omega);have hqm:q≤m:=Nat.le_of_dvd (by omega) (Nat.dvd_of_mod_eq_zero hm);have h1':1≤m/q:=(Nat.one_le_div_iff (by omega)).2 hqm;have h2':m/q<2^(10-(e+1)):=by
  rw[Nat.div_lt_iff_lt_mul (by omega)];rw[show 10-e=(10-(e+1))+1 by omega,TI]at h4;exact Ai h4 (Nat.mul_le_mul AR hq)
 refine⟨⟨h1',by omega,by omega,h2',?_⟩,hd,he⟩;rw[h5,show 10-e=(10-(e+1))+1 by omega,AHM hm];exact Prod.ext (by simp only;omega) rfl
theorem Sp.fin {q n m e:Nat}(h:Sp q n m e)(hm:m%q≠0):JR 10 q n=(e,m):=by
 obtain⟨h1,h2,h3,h4,h5⟩:=h;rw[h5,AHu hm];rfl
theorem AIZ {B:Nat}{w':World}{v':Value}{x:List Nat}{a:Nat}(h:w'.ownsRow B 2 1 v' (x.length+1) (vals (ints x)++[.int .i64 (a:Int)])):ND B w' v' (x++[a]):=by
 unfold ND;rw[←AHt,Cs];exact h
def L6 (d:Nat):List Nat:=[2,3,5,7].filter (fun p=>decide (d≤p))
def FSR (r:List Nat×Nat)(w:World)(e:Ending)(w':World):Prop:=∃v,e= .returned (.tuple #[v,.bool (r.2==1)])∧ND w.heap.size w' v r.1∧Below w.heap.size w w'
theorem AHv {d:Nat}(h:CL (d:Int)=true):L6 d=d::L6 (d+1):=by
 simp[CL]at h;rcases h with((h|h)|h)|h
 ·obtain rfl:d=2:=by omega
  rfl
 ·obtain rfl:d=3:=by omega
  rfl
 ·obtain rfl:d=5:=by omega
  rfl
 ·obtain rfl:d=7:=by omega
  rfl
theorem AJt {d:Nat}(hd:2≤d∧d≤7)(h:CL (d:Int)=false):L6 d=L6 (d+1):=by
 simp[CL]at h;have:d=4∨d=6:=by omega
 rcases this with rfl|rfl<;>rfl
theorem AJu {d m m' e:Nat}{ds:List Nat}{R:List Nat×Nat}{out:List Nat}(h:out++(Gc (d::ds) m).1=R.1∧(Gc (d::ds) m).2=R.2)(hs:JR 10 d m=(e,m')):(out++List.replicate e d)++(Gc ds m').1=R.1∧(Gc ds m').2=R.2:=by
 rw[Gc,hs]at h;simp only at h;rw[Ih];exact h
theorem AIa (out:List Nat)(e d:Nat):out++List.replicate e d++[d]=out++List.replicate (e+1) d:=by
 rw[Ih,Pp]
theorem AIb (n0:Nat)(h1:1≤n0)(h2:n0≤729)(w:World):Calls Tryz.prog 145 #[.int .i64 (n0:Int)] w (FSR (Gc [2,3,5,7] n0) w):=by
 obtain⟨i0,hi,hz0,hz1,hz2⟩:=Bt FX;obtain⟨R,hR⟩:∃R,Gc [2,3,5,7] n0=R:=⟨_,rfl⟩;have Wx:=hid (show []++(Gc (L6 2) n0).1=R.1∧(Gc (L6 2) n0).2=R.2 from by rw[←hR];exact⟨rfl,rfl⟩);rw[hR];have O5:=hid (show ND w.heap.size (w.alloc (.cells #[] 2)) (.slice (some ⟨w.heap.size,0,none⟩) 0 0) [] from Fb (base:=w.heap.size) (e:=2) (size:=1) w #[] 0 AR (AU _) rfl);have HP:=hid (fun d W=>Px.Qw d W);clear hR;go_enter Tryz.func145,Tryz.ntmps145;go_wp2_with fail;go_loopw [0,4,5] (fun nv ov dv wr=>∃(m d:Nat) (out:List Nat),nv= .int .i64 (m:Int)∧dv= .int .i64 (d:Int)∧1≤m∧m≤729∧2≤d∧d≤8∧out.length≤10*d∧Hid (out++(Gc (L6 d) m).1=R.1∧(Gc (L6 d) m).2=R.2)∧Hid (ND w.heap.size wr ov out)∧Hid (Below w.heap.size w wr)) (fun _ _ dv _=>8-(intOf dv).toNat);case atStart=>exact⟨n0,2,[],rfl,rfl,h1,h2,Av _,by omega,by simp,Wx,O5,hid (AX.alloc AR _)⟩
 case round=>
  obtain⟨m,d,out,rfl,rfl,hm1,hm2,hd2,hd8,hol,hF,hO,hB⟩:=hrel;by_cases hd7:d≤7
  ·have hdi:(d:Int)≤7:=by omega
   have hwd:IntKind.i64.wrap ((d:Int)+1)=(d:Int)+1:=AY _ (by omega);cases hp:CL (d:Int)with
   |false=>
    have Dh:=hid (fun W=>by have h:=HP.out (d:Int) W;rw[hp]at h;exact h);have lU:=hid (show out++(Gc (L6 (d+1)) m).1=R.1∧(Gc (L6 (d+1)) m).2=R.2 by rw[←AJt ⟨hd2,hd7⟩ hp];exact hF.out);clear hp hF;go_wp2_with fail;rename World=>wo;go_loopw [0,4] (fun nv ov wr=>nv= .int .i64 (m:Int)∧Hid (ND w.heap.size wr ov out)∧Hid (Below w.heap.size w wr)) (fun _ _ _=>0);case atStart=>exact⟨rfl,hO,hB⟩
    case round=>
     clear hO hB;obtain⟨rfl,hO,hB⟩:=hrel;go_wp2_with fail;refine(Dh.out _).mono ?_;rintro e w1 ⟨rfl,rfl⟩;go_wp2_with fail;go_roundw;case rel=>exact⟨m,d+1,out,rfl,by go_num,hm1,hm2,by omega,by omega,by omega,lU,hO,hB⟩
     case measure=>simp[intOf];omega
   |true=>
    have Dh:=hid (fun W=>by have h:=HP.out (d:Int) W;rw[hp]at h;exact h);have lU:=hid (show out++(Gc (d::L6 (d+1)) m).1=R.1∧(Gc (d::L6 (d+1)) m).2=R.2 by rw[←AHv hp];exact hF.out);have AMj:=hid (Sp.start (q:=d) hm1 (by omega));have Wz:=hid (show∀v W,ND w.heap.size W v out→ND w.heap.size W v (out++List.replicate 0 d) from fun v W h=>by simpa using h);clear hp hF;go_wp2_with fail;rename World=>wo;go_loopw [0,4] (fun nv ov wr=>∃m' e:Nat,nv= .int .i64 (m':Int)∧Hid (Sp d m m' e)∧Hid (ND w.heap.size wr ov (out++List.replicate e d))∧Hid (Below w.heap.size w wr)) (fun nv _ _=>(intOf nv).toNat);case atStart=>exact⟨m,0,rfl,AMj,hid (Wz.out _ _ hO.out),hB⟩
    case round=>
     clear hO hB Wz;obtain⟨m',e,rfl,hSP,hO,hB⟩:=hrel;have hmod:((m':Int)).tmod (d:Int)=((m'%d:Nat):Int):=VR m' d;have hdiv:((m':Int)).tdiv (d:Int)=((m'/d:Nat):Int):=pz m' d;have hq0:¬(d:Int)=0:=by omega
     have lV:1≤m'∧m'≤729∧e≤10:=by have:=hSP.out;unfold Sp at this;omega
     obtain⟨r,hr⟩:∃r,m'%d=r:=⟨_,rfl⟩;obtain⟨dv,hdv⟩:∃dv,m'/d=dv:=⟨_,rfl⟩;rw[hr]at hmod;rw[hdv]at hdiv;have hwr:IntKind.i64.wrap (r:Int)=(r:Int):=by
      have:r≤m':=by rw[←hr];exact Nat.mod_le _ _
      exact AY _ (by omega)
     have hwv:IntKind.i64.wrap (dv:Int)=(dv:Int):=by
      have:dv≤m':=by rw[←hdv];exact Nat.div_le_self _ _
      exact AY _ (by omega)
     by_cases hr0:r=0
     ·have hst:=hSP.out.step hd2 (hr.trans hr0);rw[hdv]at hst;have HST:=hid hst.1;have hdm:=hst.2.1;have APT:=hst.2.2;have Wu:((r:Int)==0)=true:=by simp;omega
      have a1:=Br hO.out (S:=Any) ((AA.refl _ wr).alloc (.cells #[.int .i64 (d:Int)] 2)) (fun _ _=>trivial);obtain⟨ll,hll⟩:∃ll,(out++List.replicate e d).length=ll:=⟨_,rfl⟩;have APU:ll≤90:=by rw[←hll];simp;omega
      have EN:=hid hll;rw[hll]at a1;have Fq:=hB.out.size;clear hst hSP hr hdv hO hll;go_wp2_with fail;refine(Dh.out _).mono ?_;rintro e' w1 ⟨rfl,rfl⟩;go_wp2_with (at_builtin;(refine GQ _ rfl _ _ 24 rfl w.heap.size 2 i0 (.int .i64 0) 1 8 Tryz.underlying24 hi hz0 hz1 hz2 rfl (by decide) _ _ _ rfl a1 ⟨wr.heap.size,0,none⟩ 1 1 [.int .i64 (d:Int)] rfl rfl (GN (cs:= #[.int .i64 (d:Int)]) (t:=2) (fr:=(0,0)) (BA wr _)) (by simp[Value.oneCell']) (by decide) (by unfold maxLen;omega) (by omega) (by simp;omega) _ rfl ?_));intro g2 cap2 w2 hown2 hgrow2 KF hlt2;have hBa:=hB.out.alloc Fq (.cells #[.int .i64 (d:Int)] 2);have HB2:=hid (show Below w.heap.size w w2 from hBa.grown hgrow2 hBa.size (fun g hg=>(Af a1 g hg).1));have EM:=hid (show ND w.heap.size w2 (.slice (some ⟨g2,0,none⟩) (ll+1) cap2) (out++List.replicate (e+1) d) from by
       rw[←AIa];exact AIZ (by rw[EN.out];exact hown2))
      clear a1 hown2 hgrow2 KF hlt2 hBa hB Fq;go_wp2_with fail;go_roundw;case rel=>exact⟨dv,e+1,rfl,HST,EM,HB2⟩
      case measure=>simp[intOf];omega
     ·have Wu:((r:Int)==0)=false:=by simp;omega
      have HFN:=hid (AJu lU.out (hSP.out.fin (q:=d) (by rw[hr];exact hr0)));have hlo:(out++List.replicate e d).length≤10*(d+1):=by simp;omega
      clear hSP hr hdv hdiv lU;go_wp2_with fail;refine(Dh.out _).mono ?_;rintro e' w1 ⟨rfl,rfl⟩;go_wp2_with fail;go_roundw;case rel=>exact⟨m',d+1,_,rfl,by go_num,lV.1,lV.2.1,by omega,by omega,hlo,HFN,hO,hB⟩
      case measure=>simp[intOf];omega
  ·obtain rfl:d=8:=by omega
   have hdi:¬((8:Nat):Int)≤7:=by decide
   have HR:=hid (show∀v,ND w.heap.size wr v out→FSR R w (.returned (.tuple #[v,.bool ((m:Int)==1)])) wr from fun v h=>by
    have hf:=hF.out;have h8:L6 8=[]:=rfl;rw[h8,Gc]at hf;simp only[La]at hf;refine⟨v,?_,by rw[←hf.1];exact h,hB.out⟩;rw[←hf.2,show((m:Int)==1)=(m==1) from by rw[Bool.eq_iff_iff];simp;omega])
   have HRR:=hid (HR.out _ hO.out);clear hO hB HR hF;go_wp2_with fail;exact Aj (v:=.tuple #[u4,.bool ((m:Int)==1)]) (by simp[results,Tryz.results145,go_sem]) rfl HRR.out
theorem AHN:((List.range 41).all fun n=>n==0||(decide ((Gc [2,3,5,7] n).1.length≤6)&&(Gc [2,3,5,7] n).1.all fun p=>decide (2≤p)&&decide (p≤7)))=true:=by decide+kernel
def AMk (w:World)(e:Ending)(w':World):Prop:=∃(L:List Nat) (a:Option Addr) (c:Nat) (b:Bool),e= .returned (.tuple #[.slice a L.length c,.bool b])∧R1 w.heap.size w' L.length (.slice a L.length c)∧ND w.heap.size w' (.slice a L.length c) L∧L.length≤6∧(∀p∈L,2≤p∧p≤7)∧Below w.heap.size w w'
theorem AJv (n:Nat)(h1:1≤n)(h2:n≤40)(w:World):Calls Tryz.prog 145 #[.int .i64 (n:Int)] w (AMk w):=by
 refine(AIb n h1 (by omega) w).mono ?_;rintro e w' ⟨v,rfl,ho,hb⟩;have h:=List.all_eq_true.1 AHN n (JW.2 (by omega));rw[RF,TW,TY,List.all_eq_true]at h;rcases h with h|⟨h3,h4⟩
 ·have:n=0:=by simpa using h
  omega
 ·obtain⟨a,c,rfl⟩:=LH ho;exact⟨_,a,c,_,rfl,⟨ints (Gc [2,3,5,7] n).1,by rw[BL],ho⟩,ho,h3,fun p hp=>by have:=h4 p hp;simpa using this,hb⟩
theorem RQ {B n c j:Nat}{w:World}{a:Option Addr}(h:R1 B w n (.slice a n c))(hj:j<n):∃g cur x,a=some ⟨g,0,none⟩∧w.cell? ⟨g,j,none⟩=some (.int .i64 x)∧w.frozen? ⟨g,j,none⟩=false∧w.heap[g]?=some (.cells cur 2 (0,0))∧B≤g∧g<w.heap.size:=by
 obtain⟨l,h1,h2⟩:=h;rcases id h2.2 with⟨h3,h4⟩|⟨g,cap,cur,h3,hB,hg,_,_,_,ht⟩
 ·omega
 ·simp only[EY]at h3;obtain⟨rfl,-, -⟩:=h3;have e1:(vals l)[j]?=some (.int .i64 (l[j]'(by omega))):=by simp[vals]
  rw[←ht,Pq]at e1;split at e1
  ·rw[TL]at e1;exact⟨g,cur,_,rfl,by rw[Ah w g j cur _ (0,0) hg];exact e1,BQ w g j cur _ hg,hg,hB,(Ba.1 hg).1⟩
  ·cases e1
theorem AHO (L:List Int)(hp:∀x∈L,x≠0)(hL:L.length≤100)(f:Nat)(hf:f≤L.length)(x:Int)(v:Value)(w:World)(hv:AL Any w v L):
  Calls Tryz.prog 146 #[v,.int .i64 (f:Int),.int .i64 x] w (ShR L.length w):=by
 obtain⟨a,c,rfl,_,_⟩:=ABT hv;have HV:=hid hv;have HP:=hid hp;obtain⟨n,hn⟩:∃n,L.length=n:=⟨_,rfl⟩;have HN:=hid hn;rw[hn]at hL hf HV ⊢;have hmk:=UU n (by omega) w;obtain⟨w1,hw1⟩:∃w1,w1=w.alloc (.cells (madeCells #[.int .i64 0] n) 2):=⟨_,rfl⟩;rw[←hw1]at hmk;obtain⟨g,hg⟩:∃g,w.heap.size=g:=⟨_,rfl⟩;have H1:=hid (show R1 w.heap.size w1 n (.slice (some ⟨g,0,none⟩) n n) from⟨List.replicate n 0,by simp,by
  have h:=Own.made (B:=w.heap.size) w n AR (by unfold maxLen;omega);unfold Own at h;rw[DK]at h;rw[hw1,←hg];exact h⟩)
 have HB1:=hid (show Below w.heap.size w w1 by rw[hw1];exact AX.alloc AR _);rw[hg]at hmk;have HG:=hid hg;clear hv hp hn hw1 hg;go_enter Tryz.func146,Tryz.ntmps146;go_wp2_with fail;go_loopw [2,8] (fun xv iv wr=>∃(x:Int) (i:Nat),i≤n∧xv= .int .i64 x∧iv= .int .i64 (i:Int)∧Hid (R1 w.heap.size wr n (.slice (some ⟨g,0,none⟩) n n))∧Hid (Below w.heap.size w wr)) (fun _ iv _=>n-(intOf iv).toNat);case atStart=>exact⟨x,f,hf,rfl,rfl,H1,HB1⟩
 case round=>
  obtain⟨y,i,hi,rfl,rfl,hR,hB⟩:=hrel;by_cases hlt:i<n
  ·have hki:(i:Int)<(n:Int):=by omega
   obtain⟨z,hz⟩:∃z,L[i]?=some z:=⟨_,AO (by rw[HN.out];exact hlt)⟩;have hz0:¬z=0:=HP.out z (Ak hz);obtain⟨b,o,u,rfl,_,hbl,Ep,rfl⟩:=J3 (HV.out.keep (AA.of_below hB.out)) hz;obtain⟨g',cur,x0,hgg,hc,hfz,Rv,hgB,hgl⟩:=RQ hR.out hlt;obtain rfl:g=g':=by simpa using hgg
   have hbg:¬b=g:=by
    have hv:=J3 HV.out hz;obtain⟨b',o',u',e,_,AEE,_⟩:=hv;simp only[Eg,Kj]at e;omega
   have HR2:=hid (fun t:Int=>(Ty.set1 (B:=w.heap.size) (b:=g) (i:=i) Rv t).one _ _ hR.out);have HB2:=hid (fun t:Int=>hB.out.setCell (p:=⟨g,i,none⟩) hgB (.int .i64 t));have Lu:i≤100:=by omega
   clear hgg Rv hz hR hB;go_wp2_with fail;go_roundw;case rel=>exact⟨_,i+1,by omega,rfl,by go_num,hid (HR2.out _),hid (HB2.out _)⟩
   case measure=>simp[intOf];omega
  ·obtain rfl:n=i:=by omega
   have HF:=hid (show ShR n w (.returned (.slice (some ⟨g,0,none⟩) n n)) wr from⟨g,n,rfl,hR.out,hB.out⟩);have hnl:¬(n:Int)<(n:Int):=by omega
   clear hR hB;go_wp2_with fail;go_ret;exact HF.out
theorem VL (b:Int)(e:Nat)(he:e≤1000)(m:Int)(hm:m≠0)(w:World):
  Calls Tryz.prog 147 #[.int .i64 b,.int .i64 (e:Int),.int .i64 m] w fun e' w'=>∃r:Int,e'= .returned (.int .i64 r)∧w'=w:=by
 have hm0:¬m=0:=hm;go_enter Tryz.func147,Tryz.ntmps147;go_wp2_with fail;go_loopw [0,1,7] (fun bv ev ov wr=>∃(b o:Int) (e:Nat),bv= .int .i64 b∧ov= .int .i64 o∧ev= .int .i64 (e:Int)∧e≤1000∧wr=w) (fun _ ev _ _=>(intOf ev).toNat);case atStart=>exact⟨_,_,e,rfl,rfl,rfl,he,rfl⟩
 case round=>
  obtain⟨b,o,e,rfl,rfl,rfl,he,rfl⟩:=hrel;by_cases h0:0<e
  ·have h0i:(0:Int)<(e:Int):=by omega
   obtain⟨p,hp⟩:∃p,e%2=p:=⟨_,rfl⟩;obtain⟨q,hq⟩:∃q,e/2=q:=⟨_,rfl⟩;have hpm:((e:Int)).tmod 2=(p:Int):=by
    have:=VR e 2;rw[hp]at this;exact this
   have hqm:((e:Int)).tdiv 2=(q:Int):=by
    have:=pz e 2;rw[hq]at this;exact this
   have hwp:IntKind.i64.wrap (p:Int)=(p:Int):=AY _ (by omega);have hwq:IntKind.i64.wrap (q:Int)=(q:Int):=AY _ (by omega);have hqe:q<e:=by omega
   have hqk:q≤1000:=by omega
   have hp2:p<2:=by omega
   clear hp hq;by_cases hp1:p=1
   ·subst hp1;go_wp2_with fail;go_roundw;case rel=>exact⟨_,_,q,rfl,rfl,rfl,hqk,trivial⟩
    case measure=>simp[intOf];omega
   ·obtain rfl:p=0:=by omega
    go_wp2_with fail;go_roundw;case rel=>exact⟨_,_,q,rfl,rfl,rfl,hqk,trivial⟩
    case measure=>simp[intOf];omega
  ·obtain rfl:e=0:=by omega
   go_wp2_with fail;go_ret;exact⟨_,rfl,rfl⟩
end Go.Proofs.YtaadbccidfdniaaGreat.Ue
namespace Go.Proofs.YtaadbccidfdniaaGreat.Rz
open Go.RowKit Go.Proofs.YtaadbccidfdniaaGreat AB Dp Cn Dm Df Cc NC Gl Ue
def Te (b:Nat)(w:World)(e:Ending)(w':World):Prop:=∃N,N≤b∧LV N w e w'
theorem jA (n:Nat)(h1:1≤n)(h2:n≤40)(w:World):Calls Tryz.prog 145 #[.int .i64 (n:Int)] w fun e w'=>∃(k:Nat) (L:List Int) (a:Option Addr) (c:Nat) (b:Bool),e= .returned (.tuple #[.slice a k c,.bool b])∧L.length=k∧AL Any w' (.slice a k c) L∧k≤6∧(∀p∈L,∃q:Nat,p=(q:Int)∧1≤q∧q≤7)∧Below w.heap.size w w':=by
 refine(AJv n h1 h2 w).mono ?_;rintro e w' ⟨L,a,c,b,rfl,_,h,h3,h4,hb⟩;refine⟨L.length,ints L,a,c,b,rfl,by rw[BL],LM h (by rw[BL]),h3,fun p hp=>?_,hb⟩;obtain⟨q,hq,rfl⟩:=Cy.1 hp;exact⟨q,rfl,by have:=h4 q hq;omega,(h4 q hq).2⟩
theorem ACE {B N g y1 y2 y3:Nat}{w wq wr:World}{x1 x2 x3:Option Addr}{b:Nat}(hN:N≤b)(hX:PX B N wr g (.slice x1 N y1) (.slice x2 N y2) (.slice x3 N y3))(hB:Below w.heap.size w wr)(hgB:w.heap.size<B)(hBw:B≤wr.heap.size):
  Te b w (.returned (.agg #[.slice x1 N y1,.slice x2 N y2,.slice x3 N y3])) (((wr.setCell ⟨w.heap.size,0,none⟩ (.slice x1 N y1)).setCell ⟨w.heap.size,1,none⟩ (.slice x2 N y2)).setCell ⟨w.heap.size,2,none⟩ (.slice x3 N y3)):=by
 refine⟨N,hN,_,_,_,rfl,?_,?_⟩
 ·exact(hX.2.2.ty (Ty.keep (S:=fun k=>B≤k) ((((AA.refl _ wr).setCell (by simp;omega) _).setCell (by simp;omega) _).setCell (by simp;omega) _) fun _ h=>h)).mono (by omega)
 ·exact((hB.setCell (p:=⟨w.heap.size,0,none⟩) AR _).setCell (p:=⟨w.heap.size,1,none⟩) AR _).setCell (p:=⟨w.heap.size,2,none⟩) AR _
theorem AIc (n m:Nat)(hn:1≤n∧n≤40)(hm:1≤m∧m≤40)(r s:Int)(w:World):
  Calls Tryz.prog 101 #[.int .i64 (n:Int),.int .i64 (m:Int),.int .i64 r,.int .i64 s] w (Te 12 w):=by
 have K4:=hid (fun W=>jA n hn.1 hn.2 W);have HF2:=hid (fun W=>jA m hm.1 hm.2 W);have hm0:¬(m:Int)=0:=by omega
 have HHM:=hid hm;clear hn hm;go_enter Tryz.func101,Tryz.ntmps101;go_upto_region 1 with fail;obtain⟨w1,hw1⟩:∃w1,w1=w.alloc CG:=⟨_,rfl⟩;rw[←hw1];have K1:=hid (show w1.heap[w.heap.size]?=some CG by rw[hw1];exact BA _ _);have HB1:=hid (show Below w.heap.size w w1 by rw[hw1];exact AX.alloc AR _);have BI:=hid (show w1.heap.size=w.heap.size+1 by rw[hw1];simp);clear hw1;go_upto_region 3 with(first|(go_at_call_of 145 n;refine(K4.out _).mono ?_;rintro e w2 ⟨k,T,aT,cT,bT,rfl,R4,hT,Dw,Uf,hb2⟩)|(go_at_call_of 145 m;refine(HF2.out _).mono ?_;rintro e w3 ⟨l,U,aU,cU,bU,rfl,hUl,hU,Gj,hUp,hb3⟩));have HT:=hid (hT.keep (AA.of_below (S:=Any) hb3));have HU:=hid hU;have KN:=hid R4;have KH:=hid hUl;have Jf:=hid Uf;have GD:=hid hUp;have HB3:=hid (HB1.out.trans ((hb2.trans (hb3.mono hb2.size)).mono (by have:=BI.out;omega)));have Be:=hid (show w.heap.size<w3.heap.size from by have h1:=BI.out;have h2:=hb2.size;have h3:=hb3.size;omega);have K3:=hid (Ea (hb2.trans (hb3.mono hb2.size)) (by have:=BI.out;omega) K1.out);clear hT hU R4 hUl Uf hUp hb2 hb3 K1 HB1 BI K4 HF2;go_wp2_with fail;refine(Ye k (by omega) aT cT T KN.out _ HT.out).mono ?_;rintro e w4 ⟨gO,cO,rfl,Ey,hb4⟩;have lM:=hid (HU.out.keep (AA.of_below (S:=Any) hb4));go_wp2_with (at_builtin;refine AHL rfl _ _ rfl w3.heap.size gO k cO l cU T U aU rfl Ey rfl lM.out (by omega) hb4.size ?_);intro g5 c5 w5 Aw hg5;obtain⟨N,hN⟩:∃N,k+l=N:=⟨_,rfl⟩;have HN:=hid hN;have tq:N≤12:=by omega
 have KO:=hid (show(T++U).length=N by rw[Cs,KN.out,KH.out,hN]);rw[hN]at Aw ⊢;have M4:=hid (LM (l:=T++U) (by rw[vals,Md];exact Aw) KO.out);have Aa:=hid (show Below w3.heap.size w3 w5 from hb4.grown hg5 hb4.size (by intro b hb;injection hb with hb;have:=(Af Ey gO rfl).1;omega));clear Ey Aw hg5 hb4 lM hN;go_wp2_with fail;refine(YK N (by omega) (T++U) KO.out _ _ M4.out).mono ?_;rintro e w6 ⟨x1,y1,x2,y2,x3,y3,rfl,I4,hb6⟩;go_upto_region 5 with fail;obtain⟨g,hg⟩:∃g,w6.heap.size=g:=⟨_,rfl⟩;obtain⟨wb,hwb⟩:∃wb,wb=w6.alloc (.cells #[.slice x1 N y1,.slice x2 N y2,.slice x3 N y3] 28):=⟨_,rfl⟩;have HX0:=hid (show PX w5.heap.size N wb g (.slice x1 N y1) (.slice x2 N y2) (.slice x3 N y3) by rw[hwb,←hg];exact MW I4 AR hb6.size);have Wz:=hid (show AL Any w5 (.slice (some ⟨g5,0,none⟩) N c5) (T++U) from M4.out);have L8:=hid (show Below w5.heap.size w5 wb by rw[hwb];exact hb6.alloc hb6.size _);rw[←hwb,hg];clear hwb hg I4 hb6 M4;have Z4:=hid (HT.out.keep (AA.of_below (S:=Any) Aa.out));have Ug:=hid (HB3.out.trans (Aa.out.mono (DT Be.out)));have Ew:=hid (show w.heap.size<w5.heap.size from Ai Be.out Aa.out.size);have K5:=hid (Ea Aa.out Be.out K3.out);clear HT Aa HB3 K3 HU Be;have HDG:=hid (fun(j:Nat) (hj:j≤N) (x:Int) (W:World) (hk:AA Any w5 W)=>show Calls Tryz.prog 146 #[.slice (some ⟨g5,0,none⟩) N c5,.int .i64 (j:Int),.int .i64 x] W (ShR N W) from by
  have h:=AHO (T++U) (fun y hy=>by
   rcases GY.1 hy with h|h
   ·obtain⟨q,rfl,h1,_⟩:=Jf.out y h;omega
   ·obtain⟨q,rfl,h1,_⟩:=GD.out y h;omega) (by rw[KO.out];omega) j (by rw[KO.out];exact hj) x _ W (Wz.out.keep hk)
  rw[KO.out]at h;exact h)
 go_wp2_with fail;go_loopw [16] (fun iv wr=>∃i:Nat,i≤N∧iv= .int .i64 (i:Int)∧Hid (PX w5.heap.size N wr g (.slice x1 N y1) (.slice x2 N y2) (.slice x3 N y3))∧Hid (Below w5.heap.size w5 wr)) (fun iv _=>N-(intOf iv).toNat);case atStart=>exact⟨0,AU _,rfl,HX0,L8⟩
 case round=>
  clear HX0 L8;obtain⟨i,hi,rfl,hX1,hB1⟩:=hrel;have hwi:IntKind.i64.wrap ((i:Int)+1)=(i:Int)+1:=AY _ (by omega);have hwk:IntKind.i64.wrap ((k:Int)-1)=(k:Int)-1:=AY _ (by omega);have hsz:=hB1.out.size;obtain⟨⟨p0,p1,p2⟩,-⟩:=AV hX1.out.1;have hgl:=hX1.out.lt;by_cases hlt:i+1<N
  ·have hki:(i:Int)+1<(N:Int):=by omega
   have Gb:(0:Int)≤(i:Int):=by omega
   by_cases hik:(i:Int)=(k:Int)-1
   ·have hd:((i:Int)==(k:Int)-1)=true:=by simp;omega
    go_wp2_with fail;go_roundw;case rel=>exact⟨i+1,by omega,by go_num,hX1,hB1⟩
    case measure=>simp[intOf];omega
   ·have hd:((i:Int)==(k:Int)-1)=false:=by simp;omega
    have hkN:(i:Int)<(N:Int):=by omega
    obtain⟨gp,rfl,hsl⟩:=hX1.out.Py (i:=i) (by omega);have Ay:=hid hsl;have DW:=RG hsl hX1.out;clear hsl;have ER:=hid (fun(W:World) (hk:AA Any wr W)=>show Calls Tryz.prog 106 #[.int .i64 (N:Int),.int .i64 ((i:Int)+1)] W (ShR N W) from rP N (i+1) (by omega) hlt W);go_upto_region 10 with fail;go_region_held3 (fun w'=>(∀b o,b<wr.heap.size→¬b=gp→w'.cell? ⟨b,o,none⟩=wr.cell? ⟨b,o,none⟩)∧AA (fun k=>k≠gp) wr w')
     (first|exact Od (by repeat(first|exact AJ.drew|exact AA.refl _ _|refine AA.setCell ?_ (by simp) _|refine AA.trans ?_ (AA.of_below (by assumption)))))
     (first|(go_at_call 106;refine(ER.out _ (by repeat(first|exact AJ.drew|exact AA.refl _ _|refine AA.drew ?_|refine AA.trans ?_ (AA.of_below (by assumption))))).mono ?_;rintro e w6 ⟨g6,c6,rfl,CR,hb6⟩;have B6:Below wr.heap.size wr w6:=(by first|exact hb6|exact(AX.drew).trans hb6);have f6:=(Ay.out.below B6).1;obtain⟨u6,s6⟩:=(Ay.out.below B6).cell)|fail)
    rename_i hHd;clear hHd;have DX:=hid (show PX w5.heap.size N (w6.setCell ⟨gp,i,none⟩ (.slice (some ⟨g6,0,none⟩) N c6)) g (.slice x1 N y1) (.slice (some ⟨gp,0,none⟩) N y2) (.slice x3 N y3) from
     (Ay.out.below B6).put (hX1.out.below B6) (CR.mono (by first|exact hsz|simpa using hsz)))
    have BB:=hid (show Below w5.heap.size w5 (w6.setCell ⟨gp,i,none⟩ (.slice (some ⟨g6,0,none⟩) N c6)) from
     (hB1.out.trans (B6.mono hsz)).setCell (p:=⟨gp,i,none⟩) Ay.out.2.1 _)
    clear CR hb6 B6 f6 s6 ER DW Ay hgl p0 p1 p2 hX1 hB1;go_wp2_with fail;go_roundw;case rel=>exact⟨i+1,by omega,by go_num,DX,BB⟩
    case measure=>simp[intOf];omega
  ·have hki:¬(i:Int)+1<(N:Int):=by omega
   have K7:=hB1.out.size;go_upto_if 59 with fail;go_cut [16] (fun sv W=>Hid (PX w5.heap.size N W g (.slice x1 N y1) (.slice x2 N y2) (.slice x3 N y3))∧Hid (Below w5.heap.size w5 W));case first=>
    by_cases hk0:0<k
    ·have AMl:(0:Int)<(k:Int):=by omega
     have hkd:(k:Int)-1<(N:Int):=by have:=HN.out;omega
     have AMm:(0:Int)≤(k:Int)-1:=by omega
     obtain⟨k1,hk1⟩:∃k1:Nat,k1+1=k:=⟨k-1,by omega⟩;have hkk:(k:Int)-1=(k1:Int):=by omega
     replace hwk:IntKind.i64.wrap ((k:Int)-1)=(k1:Int):=hwk.trans hkk;have APV:(k1:Int)<(N:Int):=by have:=HN.out;omega
     obtain⟨gp,rfl,hsl⟩:=hX1.out.Py (i:=k1) (by have:=HN.out;omega);have Ay:=hid hsl;have DW:=RG hsl hX1.out;have ER:=hid (fun(W:World) (hk:AA Any wr W)=>HDG.out k (by have:=HN.out;omega) s W ((AA.of_below hB1.out).trans hk));clear hsl hkd AMm hkk hk1;go_upto_region 12 with fail;go_region_held3 (fun w'=>(∀b o,b<wr.heap.size→¬b=gp→w'.cell? ⟨b,o,none⟩=wr.cell? ⟨b,o,none⟩)∧AA (fun k=>k≠gp) wr w')
      (first|exact Od (by repeat(first|exact AJ.drew|exact AA.refl _ _|refine AA.setCell ?_ (by simp) _|refine AA.trans ?_ (AA.of_below (by assumption)))))
      (first|(go_at_call 146;refine(ER.out _ (by repeat(first|exact AJ.drew|exact AA.refl _ _|refine AA.drew ?_|refine AA.trans ?_ (AA.of_below (by assumption))))).mono ?_;rintro e w6 ⟨g6,c6,rfl,CR,hb6⟩;have B6:Below wr.heap.size wr w6:=(by first|exact hb6|exact(AX.drew).trans hb6);have f6:=(Ay.out.below B6).1;obtain⟨u6,s6⟩:=(Ay.out.below B6).cell)|fail)
     rename_i hHd;clear hHd;have DX:=hid (show PX w5.heap.size N (w6.setCell ⟨gp,k1,none⟩ (.slice (some ⟨g6,0,none⟩) N c6)) g (.slice x1 N y1) (.slice (some ⟨gp,0,none⟩) N y2) (.slice x3 N y3) from
      (Ay.out.below B6).put (hX1.out.below B6) (CR.mono (by first|exact K7|simpa using K7)))
     have BB:=hid (show Below w5.heap.size w5 (w6.setCell ⟨gp,k1,none⟩ (.slice (some ⟨g6,0,none⟩) N c6)) from
      (hB1.out.trans (B6.mono K7)).setCell (p:=⟨gp,k1,none⟩) Ay.out.2.1 _)
     clear CR hb6 B6 f6 s6 ER DW Ay hgl p0 p1 p2 hX1 hB1;go_wp2_with fail;go_meet;exact⟨DX,BB⟩
    ·have AMl:¬(0:Int)<(k:Int):=by omega
     go_wp2_with fail;go_meet;exact⟨hX1,hB1⟩
   case rest=>
    obtain⟨W9,Uh⟩:=hcut;clear hX1 hB1 hwi hi p0 p1 p2 hgl hsz K7;go_wp2_with fail;go_loopw [17,18] (fun pv iv wr=>∃(x:Int) (i:Nat),i≤k∧pv= .int .i64 x∧iv= .int .i64 (i:Int)∧Hid (PX w5.heap.size N wr g (.slice x1 N y1) (.slice x2 N y2) (.slice x3 N y3))∧Hid (Below w5.heap.size w5 wr)) (fun _ iv _=>k-(intOf iv).toNat);case atStart=>exact⟨_,0,AU _,rfl,rfl,W9,Uh⟩
    case round=>
     clear W9 Uh;obtain⟨x,i,hi,rfl,rfl,hX1,hB1⟩:=hrel;have hsz:=hB1.out.size;by_cases hlt:i<k
     ·have hki:(i:Int)<(k:Int):=by omega
      have Gb:(0:Int)≤(i:Int):=by omega
      have HI:=hid hlt;go_wp2_with fail;go_loopw [19] (fun jv wr=>∃j:Nat,k≤j∧j≤N∧jv= .int .i64 (j:Int)∧Hid (PX w5.heap.size N wr g (.slice x1 N y1) (.slice x2 N y2) (.slice x3 N y3))∧Hid (Below w5.heap.size w5 wr)) (fun jv _=>N-(intOf jv).toNat);case atStart=>exact⟨k,Av _,by have:=HN.out;omega,rfl,hX1,hB1⟩
      case round=>
       clear hX1 hB1 hsz;obtain⟨j,hkj,xw,rfl,hX1,hB1⟩:=hrel;have hsz:=hB1.out.size;by_cases hlj:j<N
       ·have hji:(j:Int)<(N:Int):=by omega
        have hj0:(0:Int)≤(j:Int):=by omega
        obtain⟨d,hd⟩:∃d:Nat,d+i+1=j:=⟨j-i-1,by have:=HI.out;omega⟩;have hw1:IntKind.i64.wrap ((j:Int)-(i:Int))=(d:Int)+1:=by rw[AY _ (by omega)];omega
        have hw2:IntKind.i64.wrap ((d:Int)+1-1)=(d:Int):=by rw[AY _ (by omega)];omega
        have hw3:IntKind.i64.wrap (d:Int)=(d:Int):=AY _ (by omega);have NF:(i:Int)<(N:Int):=by omega
        obtain⟨⟨p0,p1,p2⟩,-⟩:=AV hX1.out.1;have hgl:=hX1.out.lt;obtain⟨ni,hni⟩:∃ni,N-(i+1)=ni:=⟨_,rfl⟩;obtain⟨gc,gr,yr,rfl,hc1,hc2,hsl⟩:=hX1.out.Vv (i:=i) (j:=d) (by omega) (by omega);rw[hni]at hc1;have hdn:(d:Int)<(ni:Int):=by omega
        have Ay:=hid hsl;have DW:=RG hsl hX1.out;have Y4:=sG (i:=0) hX1.out hsl;have ER:=hid (fun(W:World) (hk:AA Any wr W)=>HDG.out j xw x W ((AA.of_below hB1.out).trans hk));have HD:=hid hd;clear hsl hni hd;go_upto_region 20 with fail;go_region_held3 (fun w'=>(∀b o,b<wr.heap.size→¬b=gr→w'.cell? ⟨b,o,none⟩=wr.cell? ⟨b,o,none⟩)∧AA (fun k=>k≠gr) wr w')
         (first|exact Od (by repeat(first|exact AJ.drew|exact AA.refl _ _|refine AA.setCell ?_ (by simp) _|refine AA.trans ?_ (AA.of_below (by assumption)))))
         (first|(go_at_call 146;refine(ER.out _ (by repeat(first|exact AJ.drew|exact AA.refl _ _|refine AA.drew ?_|refine AA.trans ?_ (AA.of_below (by assumption))))).mono ?_;rintro e w6 ⟨g6,c6,rfl,CR,hb6⟩;have B6:Below wr.heap.size wr w6:=(by first|exact hb6|exact(AX.drew).trans hb6);have f6:=(Ay.out.below B6).1;obtain⟨u6,s6⟩:=(Ay.out.below B6).cell)|fail)
        rename_i hHd;clear hHd;have DX:=hid (show PX w5.heap.size N (w6.setCell ⟨gr,d,none⟩ (.slice (some ⟨g6,0,none⟩) N c6)) g (.slice x1 N y1) (.slice x2 N y2) (.slice (some ⟨gc,0,none⟩) N y3) from
         (Ay.out.below B6).put (hX1.out.below B6) (CR.mono (by first|exact hsz|simpa using hsz)))
        have BB:=hid (show Below w5.heap.size w5 (w6.setCell ⟨gr,d,none⟩ (.slice (some ⟨g6,0,none⟩) N c6)) from
         (hB1.out.trans (B6.mono hsz)).setCell (p:=⟨gr,d,none⟩) Ay.out.2.1 _)
        clear CR hb6 B6 f6 s6 ER DW Y4 Ay hgl p0 p1 p2 hX1 hB1 hc1 hc2 hw1 hw2;go_wp2_with fail;go_roundw;case rel=>exact⟨j+1,by omega,by omega,by go_num,DX,BB⟩
        case measure=>simp[intOf];omega
       ·obtain rfl:N=j:=by omega
        have lW:¬(N:Int)<(N:Int):=by omega
        obtain⟨z,hz⟩:∃z,T[i]?=some z:=⟨_,AO (by rw[KN.out];exact HI.out)⟩;obtain⟨q,rfl,hq1,Zw⟩:=Jf.out z (Ak hz);obtain⟨b,o,u,rfl,_,hbl,Ep,rfl⟩:=J3 (Z4.out.keep (AA.of_below hB1.out)) hz;have DY:=hid (fun W=>VL x q (by omega) (m:Int) hm0 W);have hik:(i:Int)<(k:Int):=by have:=HI.out;omega
        have Lu:i≤100:=by omega
        clear hz hlj hkj xw;go_wp2_with fail;refine(DY.out _).mono ?_;rintro e w8 ⟨y,rfl,rfl⟩;go_wp2_with fail;go_roundw;case rel=>exact⟨y,i+1,by have:=HI.out;omega,rfl,by go_num,hX1,hB1⟩
        case measure=>have:=HI.out;simp[intOf];omega
     ·obtain rfl:k=i:=by omega
      have hki:¬(k:Int)<(k:Int):=by omega
      have LG:=hid (Ea hB1.out Ew.out K5.out);obtain⟨⟨e0,e1,e2⟩,-⟩:=AV hX1.out.1;obtain⟨⟨f0,f1,f2⟩,q0,q1,q2⟩:=AV LG.out;have Ii:=hid (ACE (b:=12) (wq:=w) tq hX1.out (Ug.out.trans (hB1.out.mono (DT Ew.out))) Ew.out hsz);clear hX1 hB1;go_wp2_with fail;obtain⟨⟨z0,z1,z2⟩,-⟩:=AV (BZ (x:=.slice x1 N y1) (y:=.slice x2 N y2) (z:=.slice x3 N y3) LG.out);exact Aj (v:=.agg #[.slice x1 N y1,.slice x2 N y2,.slice x3 N y3]) (by simp[results,Tryz.results101,go_sem,z0,z1,z2]) rfl Ii.out
end Go.Proofs.YtaadbccidfdniaaGreat.Rz
namespace Go.Proofs.YtaadbccidfdniaaGreat.Z5
open Go.RowKit Go.Proofs.YtaadbccidfdniaaGreat AB Dp Cn Dm Df Cc NC Gl Ue Rz
theorem R2.push {B n m:Nat}{W1 W2:World}{v v' u:Value}{us:List Value}(h1:W1.ownsRow B 24 1 v n us)(h2:∀(i:Nat) u,us[i]?=some u→R1 B W1 m u)(hu:R1 B W1 m u)
  (ho:W2.ownsRow B 24 1 v' (n+1) (us++[u])) (hg:W1.grownBy W2 v.ownBlock):R2 B W2 (List.replicate (n+1) m) v':=by
 have k:∀x,R1 B W1 m x→R1 B W2 m x:=fun x hx=>hx.grown hg (hx.apart h1 (by decide));refine⟨us++[u],by rw[DK];exact ho,fun i q hi=>?_⟩;rw[Nl]at hi;split at hi
 ·injection hi with hi;subst hi;rename_i hlt;rcases CP i us.length with hl|hl
  ·exact⟨_,by rw[EA hl];exact AO hl,k _ (h2 i _ (AO hl))⟩
  ·have:i=us.length:=by have:=h1.1;omega
   exact⟨u,by rw[this,D9 AR];simp,k _ hu⟩
 ·cases hi
def jV (n m:Nat)(w:World)(e:Ending)(w':World):Prop:=∃a c,e= .returned (.slice a n c)∧R2 w.heap.size w' (List.replicate n m) (.slice a n c)∧Below w.heap.size w w'
theorem iH (n m:Nat)(hn:n≤100)(hm:m≤100)(a:Option Addr)(c:Nat)(w:World)(hA:R2 0 w (List.replicate n m) (.slice a n c)):
  Calls Tryz.prog 64 #[.slice a n c] w (jV n m w):=by
 obtain⟨i0,hi,hz0,hz1,hz2⟩:=Bt Ie;have HA:=hid hA;have O5:=hid (show R2 w.heap.size (w.alloc (.cells #[] 24)) (List.replicate 0 m) (.slice (some ⟨w.heap.size,0,none⟩) 0 0) from
  ⟨[],Fb (base:=w.heap.size) (e:=24) (size:=1) w #[] 0 AR (AU _) rfl,fun i n hi=>by simp at hi⟩)
 clear hA;go_enter Tryz.func64,Tryz.ntmps64;go_wp2_with fail;go_loopw [3,4] (fun ov iv wr=>∃i:Nat,i≤n∧iv= .int .i64 (i:Int)∧Hid (R2 w.heap.size wr (List.replicate i m) ov)∧Hid (Below w.heap.size w wr)) (fun _ iv _=>n-(intOf iv).toNat);case atStart=>exact⟨0,AU _,rfl,O5,hid (AX.alloc AR _)⟩
 case round=>
  clear O5;obtain⟨i,hi',rfl,hR,hB⟩:=hrel;obtain⟨ao,co,rfl,_,_⟩:=hR.out.form;rw[DK]at hR ⊢;by_cases hlt:i<n
  ·have hki:(i:Int)<(n:Int):=by omega
   have Gb:(0:Int)≤(i:Int):=by omega
   have hsz:=hB.out.size;obtain⟨ga,aa,ca,rfl,ha1,ha2,FQ⟩:=Vw HA.out hlt;have ha1:=((AA.of_below (S:=Any) hB.out).cell trivial ha2).trans ha1;have ha2:=Ai ha2 hsz;have FQ:=hid ((Ty.below hB.out).one _ _ FQ);have Lu:i≤100:=by omega
   obtain⟨lx,AEM,AEN⟩:=FQ.out.sl;have DC:=hid ((Ye m hm aa ca lx AEM wr (AEN.mono fun _ _=>trivial)).mono (R':=ShR m wr) (by
    rintro e w5 ⟨g,c,rfl,ho,hb⟩;exact⟨g,c,rfl,⟨lx,AEM,ho⟩,hb⟩))
   clear AEN;go_wp2_with fail;refine DC.out.mono ?_;rintro e w5 ⟨g5,c5,rfl,O6,hb5⟩;have OC:=hid ((O6.mono hsz));obtain⟨us,q1,q2⟩:=(Ty.below hb5).two _ _ hR.out;rw[DK]at q1;have Z6:=hid q2;have Aa:=hid (hB.out.trans (hb5.mono hsz));have hs5:=Aa.out.size;have a1:=Br q1 (S:=Any) ((AA.refl Any w5).alloc (.cells #[.slice (some ⟨g5,0,none⟩) m c5] 24)) (fun _ _=>trivial);clear O6 hb5 q2 ha1 ha2 FQ DC hR hB hsz q1;go_wp2_with (at_builtin;(refine GQ _ rfl _ _ 25 rfl w.heap.size 24 i0 (.slice none 0 0) 1 24 Tryz.underlying25 hi hz0 hz1 hz2 rfl (by decide) _ _ _ rfl a1 ⟨w5.heap.size,0,none⟩ 1 1 [.slice (some ⟨g5,0,none⟩) m c5] rfl rfl (GN (cs:= #[.slice (some ⟨g5,0,none⟩) m c5]) (t:=24) (fr:=(0,0)) (BA w5 _)) (by simp[Value.oneCell']) (by decide) (by unfold maxLen;omega) (by omega) (by simp;omega) _ rfl ?_));intro g6 c6 w6 A8 CX Lc Ld;have HN:=hid (R2.push (m:=m) a1 (fun j x hj=>(Ty.keep (S:=Any) ((AA.refl _ w5).alloc _) fun _ _=>trivial).one _ _ (by
    have hjl:=(Ag.1 hj).1;have:=a1.1;obtain⟨x',e1,e2⟩:=Z6.out j m (by rw[Nl,Bo (by omega)]);rw[hj]at e1;injection e1 with e1;rw[e1];exact e2)) ((Ty.keep (S:=Any) ((AA.refl _ w5).alloc (.cells #[.slice (some ⟨g5,0,none⟩) m c5] 24)) fun _ _=>trivial).one _ _ OC.out) A8 CX)
   have M6:=hid ((Aa.out.alloc hs5 _).grown CX (by simp;omega) (by intro b hb;exact(Af a1 b hb).1));clear A8 CX Lc Ld a1 Z6 OC Aa hs5;go_wp2_with fail;go_roundw;case rel=>exact⟨i+1,by omega,by go_num,HN,M6⟩
   case measure=>simp[intOf];omega
  ·obtain rfl:n=i:=by omega
   have hnl:¬(n:Int)<(n:Int):=by omega
   have HF:=hid (show jV n m w (.returned (.slice ao n co)) wr from⟨_,_,rfl,hR.out,hB.out⟩);clear hR hB;go_wp2_with fail;go_ret;exact HF.out
theorem AJw (m:Nat)(hm:m≤100)(p:Int)(hp:p≠0)(av:Option Addr)(cv:Nat)(ab:Option Addr)(cb:Nat)(w:World)(hv:R1 0 w m (.slice av m cv))(hb:R2 0 w (List.replicate m m) (.slice ab m cb)):
  Calls Tryz.prog 169 #[.int .i64 p,.slice av m cv,.slice ab m cb,.int .i64 (m:Int)] w (ShR m w):=by
 have HV:=hid hv;have FO:=hid hb;have hp0:¬p=0:=hp;have hmk:=UU m (by omega) w;obtain⟨w1,hw1⟩:∃w1,w1=w.alloc (.cells (madeCells #[.int .i64 0] m) 2):=⟨_,rfl⟩;rw[←hw1]at hmk;obtain⟨g,hg⟩:∃g,w.heap.size=g:=⟨_,rfl⟩;have H1:=hid (show R1 w.heap.size w1 m (.slice (some ⟨g,0,none⟩) m m) from⟨List.replicate m 0,by simp,by
  have h:=Own.made (B:=w.heap.size) w m AR (by unfold maxLen;omega);unfold Own at h;rw[DK]at h;rw[hw1,←hg];exact h⟩)
 have HB1:=hid (show Below w.heap.size w w1 by rw[hw1];exact AX.alloc AR _);rw[hg]at hmk;have HG:=hid hg;clear hv hb hw1 hg hp;go_enter Tryz.func169,Tryz.ntmps169;go_wp2_with fail;go_loopw [10] (fun iv wr=>∃i:Nat,i≤m∧iv= .int .i64 (i:Int)∧Hid (R1 w.heap.size wr m (.slice (some ⟨g,0,none⟩) m m))∧Hid (Below w.heap.size w wr)) (fun iv _=>m-(intOf iv).toNat);case atStart=>exact⟨0,AU _,rfl,H1,HB1⟩
 case round=>
  clear H1 HB1;obtain⟨i,hi,rfl,hR,hB⟩:=hrel;by_cases hlt:i<m
  ·have hki:(i:Int)<(m:Int):=by omega
   have Gb:(0:Int)≤(i:Int):=by omega
   have HI:=hid hlt;go_wp2_with fail;go_loopw [11] (fun jv wr=>∃j:Nat,j≤m∧jv= .int .i64 (j:Int)∧Hid (R1 w.heap.size wr m (.slice (some ⟨g,0,none⟩) m m))∧Hid (Below w.heap.size w wr)) (fun jv _=>m-(intOf jv).toNat);case atStart=>exact⟨0,AU _,rfl,hR,hB⟩
   case round=>
    clear hR hB;obtain⟨j,hj,rfl,hR,hB⟩:=hrel;obtain⟨gb,ar,cr,rfl,hb1,hb2,hb3⟩:=Vw FO.out HI.out;have hb1':=((AA.of_below (S:=Any) hB.out).cell trivial hb2).trans hb1;by_cases hlj:j<m
    ·have hkj:(j:Int)<(m:Int):=by omega
     have tu:(0:Int)≤(j:Int):=by omega
     obtain⟨gv,APW,xv,rfl,hv1,_,_,_,hv3⟩:=RQ HV.out HI.out;have APX:=((AA.of_below (S:=Any) hB.out).cell trivial hv3).trans hv1;obtain⟨gr,curr,xr,rfl,hr1,_,_,_,hr3⟩:=RQ hb3 hlj;have hr1':=((AA.of_below (S:=Any) hB.out).cell trivial hr3).trans hr1;obtain⟨g',cur,x0,hgg,hc,hfz,Rv,hgB,hgl⟩:=RQ hR.out hlj;obtain rfl:g=g':=by simpa using hgg
     have HR2:=hid (fun t:Int=>(Ty.set1 (B:=w.heap.size) (b:=g) (i:=j) Rv t).one _ _ hR.out);have HB2:=hid (fun t:Int=>hB.out.setCell (p:=⟨g,j,none⟩) hgB (.int .i64 t));have M9:=hid (fun(W:World) (h:R1 w.heap.size W m (.slice (some ⟨g,0,none⟩) m m))=>(show R1 w.heap.size W.drew m (.slice (some ⟨g,0,none⟩) m m) from(Ty.keep (S:=Any) (AJ.drew) fun _ _=>trivial).one _ _ h));have xx:j≤100:=by omega
     clear hgg Rv hR hb1 hb3 hv1 hr1;go_upto_region 8 with fail;go_region_law (fail);all_goals
      go_wp2_with fail;go_roundw;case rel=>exact⟨j+1,by omega,by go_num,hid (by first|exact HR2.out _|exact M9.out _ (HR2.out _)),hid (by first|exact HB2.out _|exact(HB2.out _).drew)⟩
      case measure=>simp[intOf];omega
    ·obtain rfl:m=j:=by omega
     have lW:¬(m:Int)<(m:Int):=by omega
     have him:(i:Int)<(m:Int):=by have:=HI.out;omega
     have Lu:i≤100:=by omega
     clear hb1 hb3;go_wp2_with fail;go_roundw;case rel=>exact⟨i+1,by have:=HI.out;omega,by go_num,hR,hB⟩
     case measure=>have:=HI.out;simp[intOf];omega
  ·obtain rfl:m=i:=by omega
   have hnl:¬(m:Int)<(m:Int):=by omega
   have HF:=hid (show ShR m w (.returned (.slice (some ⟨g,0,none⟩) m m)) wr from⟨g,m,rfl,hR.out,hB.out⟩);clear hR hB;go_wp2_with fail;go_ret;exact HF.out
theorem AHw (n m:Nat)(hnm:n=m)(hm:m≤100)(p:Int)(hp:p≠0)(a:Option Addr)(c:Nat)(ab:Option Addr)(cb:Nat)(w:World)(hA:R2 0 w (List.replicate n m) (.slice a n c))(hb:R2 0 w (List.replicate m m) (.slice ab m cb)):
  Calls Tryz.prog 148 #[.int .i64 p,.slice a n c,.slice ab m cb,.int .i64 (m:Int)] w (jV n m w):=by
 obtain⟨i0,hi,hz0,hz1,hz2⟩:=Bt Ie;have HA:=hid hA;have O5:=hid (show R2 w.heap.size (w.alloc (.cells #[] 24)) (List.replicate 0 m) (.slice (some ⟨w.heap.size,0,none⟩) 0 0) from
  ⟨[],Fb (base:=w.heap.size) (e:=24) (size:=1) w #[] 0 AR (AU _) rfl,fun i n hi=>by simp at hi⟩)
 have FO:=hid hb;have hn:n≤100:=by omega
 have HPZ:=hid hp;clear hb hnm hp;clear hA;go_enter Tryz.func148,Tryz.ntmps148;go_wp2_with fail;go_loopw [9,10] (fun ov iv wr=>∃i:Nat,i≤n∧iv= .int .i64 (i:Int)∧Hid (R2 w.heap.size wr (List.replicate i m) ov)∧Hid (Below w.heap.size w wr)) (fun _ iv _=>n-(intOf iv).toNat);case atStart=>exact⟨0,AU _,rfl,O5,hid (AX.alloc AR _)⟩
 case round=>
  clear O5;obtain⟨i,hi',rfl,hR,hB⟩:=hrel;obtain⟨ao,co,rfl,_,_⟩:=hR.out.form;rw[DK]at hR ⊢;by_cases hlt:i<n
  ·have hki:(i:Int)<(n:Int):=by omega
   have Gb:(0:Int)≤(i:Int):=by omega
   have hsz:=hB.out.size;obtain⟨ga,aa,ca,rfl,ha1,ha2,FQ⟩:=Vw HA.out hlt;have ha1:=((AA.of_below (S:=Any) hB.out).cell trivial ha2).trans ha1;have ha2:=Ai ha2 hsz;have FQ:=hid ((Ty.below hB.out).one _ _ FQ);have Lu:i≤100:=by omega
   have DC:=hid (AJw m hm p HPZ.out aa ca ab cb wr FQ.out ((Ty.below hB.out).two _ _ FO.out));go_wp2_with fail;refine DC.out.mono ?_;rintro e w5 ⟨g5,c5,rfl,O6,hb5⟩;have OC:=hid ((O6.mono hsz));obtain⟨us,q1,q2⟩:=(Ty.below hb5).two _ _ hR.out;rw[DK]at q1;have Z6:=hid q2;have Aa:=hid (hB.out.trans (hb5.mono hsz));have hs5:=Aa.out.size;have a1:=Br q1 (S:=Any) ((AA.refl Any w5).alloc (.cells #[.slice (some ⟨g5,0,none⟩) m c5] 24)) (fun _ _=>trivial);clear O6 hb5 q2 ha1 ha2 FQ DC hR hB hsz q1;go_wp2_with (at_builtin;(refine GQ _ rfl _ _ 25 rfl w.heap.size 24 i0 (.slice none 0 0) 1 24 Tryz.underlying25 hi hz0 hz1 hz2 rfl (by decide) _ _ _ rfl a1 ⟨w5.heap.size,0,none⟩ 1 1 [.slice (some ⟨g5,0,none⟩) m c5] rfl rfl (GN (cs:= #[.slice (some ⟨g5,0,none⟩) m c5]) (t:=24) (fr:=(0,0)) (BA w5 _)) (by simp[Value.oneCell']) (by decide) (by unfold maxLen;omega) (by omega) (by simp;omega) _ rfl ?_));intro g6 c6 w6 A8 CX Lc Ld;have HN:=hid (R2.push (m:=m) a1 (fun j x hj=>(Ty.keep (S:=Any) ((AA.refl _ w5).alloc _) fun _ _=>trivial).one _ _ (by
    have hjl:=(Ag.1 hj).1;have:=a1.1;obtain⟨x',e1,e2⟩:=Z6.out j m (by rw[Nl,Bo (by omega)]);rw[hj]at e1;injection e1 with e1;rw[e1];exact e2)) ((Ty.keep (S:=Any) ((AA.refl _ w5).alloc (.cells #[.slice (some ⟨g5,0,none⟩) m c5] 24)) fun _ _=>trivial).one _ _ OC.out) A8 CX)
   have M6:=hid ((Aa.out.alloc hs5 _).grown CX (by simp;omega) (by intro b hb;exact(Af a1 b hb).1));clear A8 CX Lc Ld a1 Z6 OC Aa hs5;go_wp2_with fail;go_roundw;case rel=>exact⟨i+1,by omega,by go_num,HN,M6⟩
   case measure=>simp[intOf];omega
  ·obtain rfl:n=i:=by omega
   have hnl:¬(n:Int)<(n:Int):=by omega
   have HF:=hid (show jV n m w (.returned (.slice ao n co)) wr from⟨_,_,rfl,hR.out,hB.out⟩);clear hR hB;go_wp2_with fail;go_ret;exact HF.out
end Go.Proofs.YtaadbccidfdniaaGreat.Z5
namespace Go.Proofs.YtaadbccidfdniaaGreat.lX
open Go.RowKit Go.Proofs.YtaadbccidfdniaaGreat AB Dp Cn Dm Df Cc NC Gl Ue Rz Z5
def xy (wc w6:World)(g n:Nat)(x y:Value):Prop:=w6.heap[g]?=some CG∧wc.heap.size≤g∧R1 wc.heap.size w6 n x∧R2 wc.heap.size w6 (List.replicate n n) y∧Below wc.heap.size wc w6
def FoN (wc w6:World)(n:Nat)(x y:Value):Prop:=R1 wc.heap.size w6 n x∧R2 wc.heap.size w6 (List.replicate n n) y∧Below wc.heap.size wc w6
abbrev xz (wc W:World)(n:Nat)(p:Value):Prop:=∃g x1 y1 x2 y2,p= .pointer (some ⟨g,0,none⟩)∧Hid (TT wc.heap.size n W g (.slice x1 n y1) (.slice x2 n y2) (.slice none 0 0) n 0)∧Hid (Below wc.heap.size wc W)
theorem ADV {B n g:Nat}{W:World}{vO vP:Value}(h:W.heap[g]?=some (.cells #[vO,vP,.slice none 0 0] 28 (0,0)))(hB:B≤g)(hO:R1 B W n vO)(hP:R2 B W (List.replicate n n) vP):TT B n W g vO vP (.slice none 0 0) n 0:=by
 obtain⟨us,p1,p2⟩:=hP;rw[DK]at p1;exact⟨h,hB,hO,⟨us,p1,fun i u hu=>by
  have hi:=(Ag.1 hu).1;have:=p1.1;obtain⟨u',e1,e2⟩:=p2 i n (NZ (by omega));rw[hu]at e1;injection e1 with e1;rw[e1];exact e2⟩,[],F7 _ _ _ _,fun i u hu=>by simp at hu⟩
theorem AKv {wc w6:World}{g n y1 y2:Nat}{x1 x2:Option Addr}(h:xy wc w6 g n (.slice x1 n y1) (.slice x2 n y2)):
  xz wc (((w6.setCell ⟨g,0,none⟩ (.slice x1 n y1)).setCell ⟨g,1,none⟩ (.slice x2 n y2)).setCell ⟨g,2,none⟩ (.slice none 0 0)) n (.pointer (some ⟨g,0,none⟩)):=by
 obtain⟨h1,h2,h3,h4,h5⟩:=h;have e1:(w6.setCell ⟨g,0,none⟩ (.slice x1 n y1)).heap[g]?=some (.cells #[.slice x1 n y1,.slice none 0 0,.slice none 0 0] 28 (0,0)):=GV w6 g 0 _ _ _ h1;have e2:((w6.setCell ⟨g,0,none⟩ (.slice x1 n y1)).setCell ⟨g,1,none⟩ (.slice x2 n y2)).heap[g]?=some (.cells #[.slice x1 n y1,.slice x2 n y2,.slice none 0 0] 28 (0,0)):=GV _ g 1 _ _ _ e1;exact⟨g,x1,y1,x2,y2,rfl,hid (ADV (BZ h1) h2 (((h3.other h1 (by decide)).other e1 (by decide)).other e2 (by decide)) (((h4.other h1 (by decide) (by decide)).other e1 (by decide) (by decide)).other e2 (by decide) (by decide))),hid (((h5.setCell (p:=⟨g,0,none⟩) h2 _).setCell (p:=⟨g,1,none⟩) h2 _).setCell (p:=⟨g,2,none⟩) h2 _)⟩
theorem AKw {wc w6:World}{n y1 y2:Nat}{x1 x2:Option Addr}(h:FoN wc w6 n (.slice x1 n y1) (.slice x2 n y2)):
  xz wc (w6.alloc (.cells #[.slice x1 n y1,.slice x2 n y2,.slice none 0 0] 28)) n (.pointer (some ⟨w6.heap.size,0,none⟩)):=by
 obtain⟨h3,h4,h5⟩:=h;have k:=Ty.keep (B:=wc.heap.size) (S:=Any) ((AA.refl _ w6).alloc (.cells #[.slice x1 n y1,.slice x2 n y2,.slice none 0 0] 28)) fun _ _=>trivial;exact⟨w6.heap.size,x1,y1,x2,y2,rfl,hid (ADV (BA _ _) h5.size (k.one _ _ h3) (k.two _ _ h4)),hid (h5.alloc h5.size _)⟩
theorem qA (n:Nat)(hn:n≤100)(a1 a2 a3:Option Addr)(c1 c2 c3:Nat)(w:World)(hA:PT 0 w n (.slice a1 n c1) (.slice a2 n c2) (.slice a3 n c3)):
  Calls Tryz.prog 62 #[.agg #[.slice a1 n c1,.slice a2 n c2,.slice a3 n c3]] w (LV n w):=by
 obtain⟨j0,ji,xS,jz1,xU⟩:=Bt TF;have HA:=hid hA;clear hA;go_enter Tryz.func62,Tryz.ntmps62;go_upto_region 1 with fail;obtain⟨wc,hw1⟩:∃wc,wc=((w.alloc (.cells #[.slice a1 n c1,.slice a2 n c2,.slice a3 n c3] 28)).alloc (.cells #[.slice none 0 0,.slice none 0 0,.slice none 0 0] 28)):=⟨_,rfl⟩;rw[←hw1];have K1:=hid (show wc.heap[w.heap.size]?=some (.cells #[.slice a1 n c1,.slice a2 n c2,.slice a3 n c3] 28 (0,0)) by rw[hw1,E5 _ _ _ (by simp)];exact BA _ _);have K2:=hid (show wc.heap[w.heap.size+1]?=some CG by rw[hw1];exact new2 w _ _);have HS:=hid (show wc.heap.size=w.heap.size+2 by rw[hw1];simp);have HB:=hid (show Below w.heap.size w wc by rw[hw1];exact(AX.alloc AR _).alloc (by simp) _);clear hw1;have HA1:=hid (HA.out.ty (Ty.below HB.out));obtain⟨⟨e0,e1,e2⟩,-⟩:=AV K1.out;obtain⟨lA,hla,hsA⟩:=HA1.out.1.sl;have HOWN:=hid (fun(W:World) (hk:AA Any wc W)=>Ye n hn a1 c1 lA hla W ((hsA.mono fun _ _=>trivial).keep hk));have WJ:=hid (fun(W:World) (hk:AA Any wc W)=>iH n n hn hn a2 c2 W ((Ty.keep hk fun _ _=>trivial).two _ _ HA1.out.2.1));have hw0:w.heap.size<wc.heap.size:=by have:=HS.out;omega
 have Z7:=hid hla;clear hla hsA;obtain⟨wb,rfl⟩:∃wb,wb=wc:=⟨_,rfl⟩;go_cut [3] (fun tv W=>xz wb W n tv);case rest=>
  obtain⟨g,x1,y1,x2,y2,rfl,hX,Ji⟩:=hcut;rename World=>wq;clear HOWN WJ e0 e1 e2 Z7 HA;have hgb:=hX.out.hg;go_wp2_with fail;go_loopw [4] (fun iv wr=>∃(i:Nat) (vC:Value),i≤n∧iv= .int .i64 (i:Int)∧Hid (TT wb.heap.size n wr g (.slice x1 n y1) (.slice x2 n y2) vC n i)∧Hid (Below wb.heap.size wb wr)) (fun iv _=>n-(intOf iv).toNat);case atStart=>exact⟨0,_,AU _,rfl,hX,Ji⟩
  case round=>
   clear hX Ji;obtain⟨i,vC,hi,rfl,hX,hB⟩:=hrel;have L1:=hid (Ea hB.out hw0 K1.out);obtain⟨⟨e0,e1,e2⟩,-⟩:=AV L1.out;have EE:=hid hX.out.bx;have hgl:=hX.out.lt;have hsz:=hB.out.size;have hwl:=Ai hw0 hsz;obtain⟨us,d1,d2⟩:=hX.out.C;obtain⟨aC,cC,rfl⟩:=LH d1;obtain⟨⟨p0,p1,p2⟩,q0,q1,q2⟩:=AV EE.out;by_cases hlt:i<n
   ·have hki:(i:Int)<(n:Int):=by omega
    have Gb:(0:Int)≤(i:Int):=by omega
    obtain⟨gq,aq,cq,rfl,hq1,hq2,hq3⟩:=tZ HA1.out hlt;have Z8:=((AA.of_below (S:=Any) hB.out).cell trivial hq2).trans hq1;have AEO:=Ai hq2 hsz;obtain⟨k,hk⟩:∃k,n-(i+1)=k:=⟨_,rfl⟩;have HK:=hid hk;have ALe:k≤100:=by omega
    rw[hk]at Z8 hq3;have WJ:=hid (fun(W:World) (hw:AA Any wr W)=>iH k n ALe hn aq cq W ((Ty.keep hw fun _ _=>trivial).two _ _ ((Ty.below hB.out).two _ _ hq3)));have HD1:=hid d1;have HD2:=hid d2;have hne:some g≠(Value.slice aC i cC).ownBlock:=fun e=>Pj d1 EE.out (by decide) e.symm;have Lu:i≤100:=by omega
    have lY:=hid hX.out.hg;clear hq3 hq1 hk d1 d2 hq2;go_upto_region 5 with fail;go_region_law
     (first|(go_simp;go_at_call 64;refine(WJ.out _ (by repeat(first|exact AJ.drew|exact AA.refl _ _|refine AA.drew ?_|refine AA.alloc ?_ _|refine AA.trans ?_ (AA.of_below (by assumption))))).mono ?_;rintro e w6 ⟨a6,c6,rfl,CR,hb6⟩;have B6:Below wr.heap.size wr w6:=(by first|exact hb6|exact(AX.drew).trans hb6);have g6:=Ea B6 hgl EE.out;obtain⟨⟨z0,z1,z2⟩,r0,r1,r2⟩:=AV g6;have s6:=B6.size;have CX:g<w6.heap.size:=Ai hgl s6)|(refine Pv _ (by rfl) _ _ _ (by rfl) wb.heap.size 25 j0 (.slice none 0 0) 1 24 Tryz.underlying26 ji xS jz1 xU rfl (by omega) (.slice aC i cC) i us (by rfl) (Br HD1.out (S:=Any) (((AA.of_below B6)).trans ((AA.refl _ w6).alloc _)) (fun _ _=>trivial)) ⟨w6.heap.size,0,none⟩ 1 1 [.slice a6 k c6] (by rfl) (by rfl) (GN (cs:= #[.slice a6 k c6]) (t:=25) (fr:=(0,0)) (BA w6 _)) (by simp[Value.oneCell']) (by omega) (by unfold maxLen;omega) (by omega) (by simp;omega) _ rfl ?_;intro gg cap Bj IG Ef LW Me;have g10:=(Ef.block g (by simp;omega) hne).trans ((E5 w6 _ g (by omega)).trans g6);obtain⟨⟨m0,m1,m2⟩,n0,n1,n2⟩:=AV g10))
    all_goals
     have M7:=hid (show Ty wb.heap.size w6 (w6.alloc (.cells #[.slice a6 k c6] 25)) from Ty.keep (S:=Any) ((AA.refl _ w6).alloc _) fun _ _=>trivial);have A9:=hid (show Below wr.heap.size wr (w6.alloc (.cells #[.slice a6 k c6] 25)) from B6.alloc s6 _);have a1:=Br HD1.out (S:=Any) (((AA.of_below B6)).trans ((AA.refl _ w6).alloc (.cells #[.slice a6 k c6] 25))) (fun _ _=>trivial);have uA:R2 wr.heap.size w6 (List.replicate k n) (.slice a6 k c6):=CR.mono (by first|exact Av _|(simp;done));have UX:=hid (show∀q,(Value.slice x2 n y2).ownBlock=some q→(Value.slice a6 k c6).ownBlock≠some q from fun q h1 h2=>by
      obtain⟨xs,e5,_⟩:=uA;obtain⟨ys,f5,_⟩:=hX.out.P;have h3:=(Af e5 q h2).1;have h4:=(Af f5 q h1).2;omega)
     have HN:=hid (TT.Mt hX.out A9.out a1 HD2.out (by rw[HK.out];exact M7.out.two _ _ (uA.mono hsz)) UX.out IG Ef);have M6:=hid (((hB.out.trans (A9.out.mono hsz)).grown Ef (by have:=A9.out.size;omega) (by intro b hb;exact(Af a1 b hb).1)).setCell (p:=⟨g,2,none⟩) lY.out (.slice (some ⟨gg,0,none⟩) (i+1) cap));clear IG Ef LW Me a1 g10 CR uA hb6 B6 M7 A9 hX hB HD1 HD2 WJ e0 e1 e2 p0 p1 p2 q0 q1 q2;go_wp2_with fail;go_roundw;case rel=>exact⟨i+1,_,by omega,by go_num,HN,M6⟩
     case measure=>simp[intOf];omega
   ·obtain rfl:n=i:=by omega
    have hnl:¬(n:Int)<(n:Int):=by omega
    have LG:=hid (Ea hB.out (by have:=HS.out;omega) K2.out);obtain⟨⟨f0,f1,f2⟩,r0,r1,r2⟩:=AV LG.out;have hgw:w.heap.size+1<wb.heap.size:=by have:=HS.out;omega
    have Ii:=hid (show LV n w (.returned (.agg #[.slice x1 n y1,.slice x2 n y2,.slice aC n cC])) (((wr.setCell ⟨w.heap.size+1,0,none⟩ (.slice x1 n y1)).setCell ⟨w.heap.size+1,1,none⟩ (.slice x2 n y2)).setCell ⟨w.heap.size+1,2,none⟩ (.slice aC n cC)) from by
     refine⟨_,_,_,rfl,?_,?_⟩
     ·exact((hX.out.kept ((((AA.refl _ wr).setCell (by simp;omega) _).setCell (by simp;omega) _).setCell (by simp;omega) _)).mono (by omega)).pt
     ·exact(((HB.out.trans (hB.out.mono (by omega))).setCell (p:=⟨w.heap.size+1,0,none⟩) (by simp) _).setCell (p:=⟨w.heap.size+1,1,none⟩) (by simp) _).setCell (p:=⟨w.heap.size+1,2,none⟩) (by simp) _)
    clear hX hB d1 d2;go_wp2_with fail;obtain⟨⟨z0,z1,z2⟩,-⟩:=AV (BZ (x:=.slice x1 n y1) (y:=.slice x2 n y2) (z:=.slice aC n cC) LG.out);exact Aj (v:=.agg #[.slice x1 n y1,.slice x2 n y2,.slice aC n cC]) (by simp[results,Tryz.results62,go_sem,z0,z1,z2]) rfl Ii.out
 go_region_law
  (first|(go_simp;go_at_call 63;refine(HOWN.out _ (by repeat(first|exact AJ.drew|exact AA.refl _ _|refine AA.drew ?_|refine AA.alloc ?_ _|refine AA.trans ?_ (AA.of_below (by assumption))))).mono ?_;rintro e w2 ⟨gO,cO,rfl,ho2,hb2⟩;have k2:=(show AA Any wb w2 from(by repeat(first|exact AJ.drew|exact AA.refl _ _|refine AA.drew ?_|refine AA.alloc ?_ _|refine AA.trans ?_ (AA.of_below (by assumption)))));have x1:=(k2.cell (b:=w.heap.size) (o:=1) trivial hw0).trans e1;have s2:=k2.size;have hw2:w.heap.size<w2.heap.size:=Ai hw0 s2;have B2:Below wb.heap.size wb w2:=(by first|exact hb2|exact(AX.drew).trans hb2|exact((AX.drew).alloc AR _).trans (hb2.mono (by simp))|exact(AX.alloc AR _).trans (hb2.mono (by simp)));have r2:R1 wb.heap.size w2 n (.slice (some ⟨gO,0,none⟩) n cO):=R1.mono ⟨lA,Z7.out,ho2⟩ (by first|exact Av _|(simp;done)|(simp;omega));first|(have A2:w2.heap[wb.heap.size]?=some CG:=Ea hb2 (by simp) (BA _ _);have lA2:=(Ba.1 A2).1)|(have N2:True:=trivial))|(go_simp;go_at_call 64;refine(WJ.out _ (by repeat(first|exact AJ.drew|exact AA.refl _ _|refine AA.drew ?_|refine AA.alloc ?_ _|refine AA.trans ?_ (AA.of_below (by assumption))))).mono ?_;rintro e w6 ⟨a6,c6,rfl,CR,hb6⟩;have B6:Below wb.heap.size wb w6:=(by first|exact B2.trans (hb6.mono s2)|exact(B2.alloc s2 _).trans (hb6.mono (by simp;omega)));have q6:R2 wb.heap.size w6 (List.replicate n n) (.slice a6 n c6):=R2.mono CR (by first|exact s2|(simp;omega));have p6:R1 wb.heap.size w6 n (.slice (some ⟨gO,0,none⟩) n cO):=(Ty.keep (S:=Any) (show AA Any w2 w6 from(by first|exact AA.of_below hb6|exact((AA.refl _ w2).alloc _).trans (AA.of_below hb6))) fun _ _=>trivial).one _ _ r2;first|(have A6:w6.heap[wb.heap.size]?=some CG:=Ea hb6 lA2 A2;obtain⟨⟨z0,z1,z2⟩,q0,q1,q2⟩:=AV A6;have F6:=(show xy wb w6 _ _ _ _ from⟨A6,Av _,p6,q6,B6⟩))|(have D6:w6.heap[w2.heap.size]?=some CG:=Ea hb6 (by simp) (BA _ _);obtain⟨⟨z0,z1,z2⟩,q0,q1,q2⟩:=AV D6;have F6:=(show xy wb w6 _ _ _ _ from⟨D6,s2,p6,q6,B6⟩))|(have N6:=(show FoN wb w6 _ _ _ from⟨p6,q6,B6⟩))))
 all_goals
  clear HOWN WJ;go_wp2_with fail;go_meet;first|exact AKv F6|exact AKw N6
end Go.Proofs.YtaadbccidfdniaaGreat.lX
