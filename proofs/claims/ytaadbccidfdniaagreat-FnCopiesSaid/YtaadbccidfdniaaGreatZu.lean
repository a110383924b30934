import Derived.Test.YtaadbccidfdniaaGreatZ0
import Derived.Test.YtaadbccidfdniaaGreatZs
import Derived.Test.YtaadbccidfdniaaGreatZt
import Derived.Lib.AppendZeros
import Derived.Shelf.SlSortCmp.NoneTotal
import Derived.Test.YtaadbccidfdniaaGreatZp
/-
  Lemmas for the law FnCopies, in short spelling.
-/
open Go.Lib (hid)
set_option linter.unusedVariables false
set_option linter.unusedSimpArgs false
set_option maxRecDepth 100000
set_option maxHeartbeats 40000000
namespace Go.Proofs.YtaadbccidfdniaaGreat.CcG
open Go.RowKit Go.Proofs.YtaadbccidfdniaaGreat AB CU JV LX Mf SQ
theorem ALu (M a:Nat)(ha:a≤31)(hM:M<2^32):(bits .and .u64 ((M:Int)/2^a) 1==0)= !M.testBit a:=by
 have e1:((M:Int)/2^a)=((M/2^a:Nat):Int):=by push_cast;rfl
 have hlt:M/2^a<2^63:=Nat.lt_of_le_of_lt (Nat.div_le_self _ _) (Ai hM (by decide));have h:=(bits_nat .u64 63 (by decide) Mask.gK (M/2^a) 1 hlt (by decide)).1;rw[e1];have e2:bits .and .u64 ((M/2^a:Nat):Int) 1=((M/2^a &&& 1:Nat):Int):=h;rw[e2,Nat.testBit,Nat.shiftRight_eq_div_pow,Nat.and_comm 1];have h01:=Nat.and_one_is_mod (M/2^a);rw[h01];rcases Nat.mod_two_eq_zero_or_one (M/2^a)with h|h<;>rw[h]<;>rfl
def Stp (T:Tw)(M N:Nat):Prop:=∀c,N.testBit c=true↔M.testBit c=true∨∃a b,a<sz T∧b<sz T∧M.testBit a=true∧M.testBit b=true∧pr T a b=c
structure Way (T:Tw)(M x N:Nat):Prop where
 lt:N<2^32
 PN:∀c,N.testBit c=true→c<sz T
 le:IB M N
 has:N.testBit x=true
 least:∀K,IM T K→IB M K→K.testBit x=true→IB N K
theorem Way.start {T:Tw}(hz:sz T≤32){M x:Nat}(h:IM T M)(hx:x<sz T):Way T M x (M ||| 2^x):=by
 have hb:∀c,(M ||| 2^x).testBit c=true↔M.testBit c=true∨x=c:=fun c=>by rw[Mask.fM,RF];simp
 refine⟨Mask.iN M x (by omega) (h.lt hz),fun c hc=>?_,fun c hc=>(hb c).2 (.inl hc),(hb x).2 (.inr rfl),fun K _ h1 h2 c hc=>?_⟩
 ·rcases(hb c).1 hc with h1|rfl
  ·exact h.PN c h1
  ·exact hx
 ·rcases(hb c).1 hc with h3|rfl
  ·exact h1 c h3
  ·exact h2
theorem Way.step {T:Tw}(hT:Wf T){M x N N':Nat}(h:Way T M x N)(hlt:N'<2^32)(hs:Stp T N N'):Way T M x N'∧N≤N':=by
 have hL:IB N N':=fun c hc=>(hs c).2 (.inl hc);refine⟨⟨hlt,fun c hc=>?_,h.le.trans hL,hL x h.has,fun K hK h1 h2 c hc=>?_⟩,hL.le⟩
 ·rcases(hs c).1 hc with h1|⟨a,b,_,_,_,_,rfl⟩
  ·exact h.PN c h1
  ·exact Mg hT a b
 ·rcases(hs c).1 hc with h3|⟨a,b,_,_,ha,hb,rfl⟩
  ·exact h.least K hK h1 h2 c h3
  ·exact hK.mul a b (h.least K hK h1 h2 a ha) (h.least K hK h1 h2 b hb)
theorem Way.fin {T:Tw}{M x N:Nat}(hM:IM T M)(h:Way T M x N)(hs:Stp T N N):QD T M x N:=
 ⟨⟨h.PN,h.le 0 hM.one,fun a b ha hb=>(hs _).2 (.inr ⟨a,b,h.PN a ha,h.PN b hb,ha,hb,rfl⟩)⟩,h.le,h.has,h.least⟩
def Pa (T:Tw)(M N k:Nat):Prop:=N<2^32∧∀c,N.testBit c=true↔M.testBit c=true∨∃a b,a<k∧a<sz T∧b<sz T∧M.testBit a=true∧M.testBit b=true∧pr T a b=c
def Pb (T:Tw)(M N k l:Nat):Prop:=N<2^32∧∀c,N.testBit c=true↔M.testBit c=true∨(∃a b,a<k∧a<sz T∧b<sz T∧M.testBit a=true∧M.testBit b=true∧pr T a b=c)∨∃b,b<l∧b<sz T∧M.testBit b=true∧pr T k b=c
theorem Pa.no {T:Tw}{M N k:Nat}(h:Pa T M N k)(hk:M.testBit k=false):Pa T M N (k+1):=⟨h.1,fun c=>by
 rw[h.2 c];refine or_congr Iff.rfl ⟨fun⟨a,b,h1,h2⟩=>⟨a,b,by omega,h2⟩,fun⟨a,b,h1,h2⟩=>⟨a,b,?_,h2⟩⟩;rcases CP a k with h3|h3
 ·exact h3
 ·obtain rfl:a=k:=by omega
  rw[hk]at h2;exact absurd h2.2.2.1 (by decide)⟩
theorem Pa.up {T:Tw}{M N k:Nat}(h:Pa T M N k):Pb T M N k 0:=⟨h.1,fun c=>by
 rw[h.2 c];exact or_congr Iff.rfl ⟨fun h=>.inl h,fun h=>h.elim id fun⟨b,hb,_⟩=>absurd hb (CO _)⟩⟩
theorem Pb.no {T:Tw}{M N k l:Nat}(h:Pb T M N k l)(hl:M.testBit l=false):Pb T M N k (l+1):=⟨h.1,fun c=>by
 rw[h.2 c];refine or_congr Iff.rfl (or_congr Iff.rfl ⟨fun⟨b,h1,h2⟩=>⟨b,by omega,h2⟩,fun⟨b,h1,h2⟩=>⟨b,?_,h2⟩⟩);rcases CP b l with h3|h3
 ·exact h3
 ·obtain rfl:b=l:=by omega
  rw[hl]at h2;exact absurd h2.2.1 (by decide)⟩
theorem Pb.yes {T:Tw}{M N k l:Nat}(h:Pb T M N k l)(hl:M.testBit l=true)(hls:l<sz T)(hlt:N ||| 2^pr T k l<2^32):Pb T M (N ||| 2^pr T k l) k (l+1):=⟨hlt,fun c=>by
 rw[Mask.fM,RF,h.2 c];constructor
 ·rintro((h1|h1|⟨b,hb,h1⟩)|h1)
  ·exact .inl h1
  ·exact .inr (.inl h1)
  ·exact .inr (.inr ⟨b,by omega,h1⟩)
  ·exact .inr (.inr ⟨l,by omega,hls,hl,by simpa using h1⟩)
 ·rintro(h1|h1|⟨b,hb,h1⟩)
  ·exact .inl (.inl h1)
  ·exact .inl (.inr (.inl h1))
  ·rcases CP b l with h3|h3
   ·exact .inl (.inr (.inr ⟨b,h3,h1⟩))
   ·obtain rfl:b=l:=by omega
    exact .inr (by simpa using h1.2.2)⟩
theorem Pb.fin {T:Tw}{M N k:Nat}(h:Pb T M N k (sz T))(hk:M.testBit k=true)(hks:k<sz T):Pa T M N (k+1):=⟨h.1,fun c=>by
 rw[h.2 c];refine or_congr Iff.rfl ⟨?_,?_⟩
 ·rintro(⟨a,b,h1,h2⟩|⟨b,_,h1,h2,h3⟩)
  ·exact⟨a,b,by omega,h2⟩
  ·exact⟨k,b,by omega,hks,h1,hk,h2,h3⟩
 ·rintro⟨a,b,h1,h2⟩;rcases CP a k with h3|h3
  ·exact .inl ⟨a,b,h3,h2⟩
  ·obtain rfl:a=k:=by omega
   exact .inr ⟨b,h2.2.1,h2.2.1,h2.2.2.2⟩⟩
theorem Pa.fin {T:Tw}{M N:Nat}(h:Pa T M N (sz T)):Stp T M N:=fun c=>by
 rw[h.2 c];exact or_congr Iff.rfl ⟨fun⟨a,b,_,h⟩=>⟨a,b,h⟩,fun⟨a,b,h⟩=>⟨a,b,h.1,h⟩⟩
def AFX (T:Tw)(M x:Nat)(w:World)(e:Ending)(w':World):Prop:=∃N:Nat,e= .returned (.int .u64 (N:Int))∧QD T M x N∧w=w'
theorem AJI (T:Tw)(hT:Wf T)(hz:sz T≤32)(w:World)(vt:Value)(ht:AP Any w vt ((Ht T (sz T)).map ints))(M x:Nat)(hM:IM T M)(hx:x<sz T):
  Calls Tryz.prog 34 #[vt,.int .u64 (M:Int),.int .i64 (x:Int)] w (AFX T M x w):=by
 have hpos:=JQ hT;obtain⟨at',ct,rfl,hct,_⟩:=Aq.form ht;rw[Bh,Xq]at ht ⊢;have HRR:=hid (fun i (hi:i<sz T)=>show∃b o,at'=some ⟨b,o,none⟩∧b<w.heap.size∧∃b2 o2 c2,w.cell? ⟨b,o+i,none⟩=some (.slice (some ⟨b2,o2,none⟩) (sz T) c2)∧b2<w.heap.size∧∀j,j<sz T→w.cell? ⟨b2,o2+j,none⟩=some (.int .i64 (pr T i j:Int)) from by
  obtain⟨b,o,u,h1,_,h2,h3,h4⟩:=Aq.get ht (k:=i) (x:=ints (IL T i (sz T))) (by rw[Bn,qE hi];rfl);obtain⟨a2,c2,rfl,_⟩:=AL.open h4;rw[VH]at h3 h4;obtain⟨b2,o2,rfl,_,hb2,_⟩:=AL.at h4 (j:=0) (q:=pr T i 0) (fK hpos);refine⟨b,o,h1,h2,b2,o2,c2,h3,hb2,fun j hj=>?_⟩;obtain⟨b3,o3,e,_,_,hc⟩:=AL.at h4 (j:=j) (q:=pr T i j) (fK hj);cases e;exact hc)
 obtain⟨bt,ot,rfl,hbt,_⟩:=HRR.out 0 hpos;have HRR:=hid (fun i (hi:i<sz T)=>show∃b2 o2 c2,w.cell? ⟨bt,ot+i,none⟩=some (.slice (some ⟨b2,o2,none⟩) (sz T) c2)∧b2<w.heap.size∧∀j,j<sz T→w.cell? ⟨b2,o2+j,none⟩=some (.int .i64 (pr T i j:Int)) from by
  obtain⟨b,o,e,_,h⟩:=HRR.out i hi;cases e;exact h)
 have xY:=hid hM;have NL:=hid (hM.lt hz);have H8:=hid (Mg hT);have HW0:=hid (Way.start hz hM hx);have Jw:=hid hT;have e0:=Mask.set_eq M x (by omega) NL.out;obtain⟨B,hB⟩:∃B:Nat,B=2^32:=⟨_,rfl⟩;have FO:=hid hB;clear ht hM hB hT;go_enter Tryz.func34,Tryz.ntmps34;go_wp2_with fail;go_loop [1] (fun mv=>∃N:Nat,mv= .int .u64 (N:Int)∧Hid (Way T M x N)) (fun mv=>B-(intOf mv).toNat);case atStart=>exact⟨_,rfl,HW0⟩
 case round=>
  clear e0;obtain⟨N,rfl,hW⟩:=hrel;go_wp2_with fail;go_loop [7,17] (fun nv av=>∃a:Nat,a≤sz T∧av= .int .i64 (a:Int)∧∃O:Nat,nv= .int .u64 (O:Int)∧Hid (Pa T N O a)) (fun _ av=>sz T-(intOf av).toNat);case atStart=>exact⟨0,AU _,rfl,N,rfl,hid ⟨hW.out.lt,fun c=>⟨fun h=>.inl h,fun h=>h.elim id fun⟨a,b,h,_⟩=>absurd h (CO _)⟩⟩⟩
  case round=>
   obtain⟨a,ha,rfl,O,rfl,hO⟩:=hrel;by_cases halt:a<sz T
   ·have hd2:decide ((a:Int)<(sz T:Int))=true:=by simp;omega
    have h1:=ALu N a (by omega) hW.out.lt;cases hb:N.testBit a with
    |false=>
     have HN:=hid (hO.out.no hb);rw[hb]at h1;clear hb;go_wp2_with fail;go_round;case rel=>exact⟨a+1,by omega,by go_num,O,rfl,HN⟩
     case measure=>simp[intOf];omega
    |true=>
     have HU:=hid hO.out.up;have HBT:=hid hb;rw[hb]at h1;clear hb hO;go_wp2_with fail;go_loop [7,27] (fun nv lv=>∃l:Nat,l≤sz T∧lv= .int .i64 (l:Int)∧∃O:Nat,nv= .int .u64 (O:Int)∧Hid (Pb T N O a l)) (fun _ lv=>sz T-(intOf lv).toNat);case atStart=>exact⟨0,AU _,rfl,O,rfl,HU⟩
     case round=>
      obtain⟨l,hl,rfl,O2,rfl,hO2⟩:=hrel;by_cases AFY:l<sz T
      ·have hd3:decide ((l:Int)<(sz T:Int))=true:=by simp;omega
       have h2:=Mask.test_eq N l (by omega) hW.out.lt;cases hb2:N.testBit l with
       |false=>
        have HN:=hid (hO2.out.no hb2);rw[hb2]at h2;clear hb2;go_wp2_with fail;go_round;case rel=>exact⟨l+1,by omega,by go_num,O2,rfl,HN⟩
        case measure=>simp[intOf];omega
       |true=>
        have hpl:=H8.out a l;obtain⟨b2,o2,c2,hc1,AFZ,hcc⟩:=HRR.out a halt;have hc2:=hcc l AFY;have h3:=Mask.set_eq O2 (pr T a l) (by omega) hO2.out.1;have HN:=hid (hO2.out.yes hb2 AFY (Mask.iN O2 (pr T a l) (by omega) hO2.out.1));have hai:(a:Int)<(sz T:Int):=by omega
        have hli:(l:Int)<(sz T:Int):=by omega
        have ha0:(0:Int)≤(a:Int):=by omega
        have hl0:(0:Int)≤(l:Int):=by omega
        rw[hb2]at h2;clear hb2 hcc;go_wp2_with fail;go_round;case rel=>exact⟨l+1,by omega,by go_num,O2 ||| 2^pr T a l,rfl,HN⟩
        case measure=>simp[intOf];omega
      ·obtain rfl:l=sz T:=by omega
       have hd3:decide ((sz T:Int)<(sz T:Int))=false:=by simp
       have HN:=hid (hO2.out.fin HBT.out halt);clear hO2;go_wp2_with fail;go_round;case rel=>exact⟨a+1,by omega,by go_num,O2,rfl,HN⟩
       case measure=>simp[intOf];omega
   ·obtain rfl:a=sz T:=by omega
    have hd2:decide ((sz T:Int)<(sz T:Int))=false:=by simp
    have HS:=hid (hW.out.step Jw.out hO.out.1 hO.out.fin);by_cases he:O=N
    ·subst he;have hq:((O:Int)==(O:Int))=true:=by simp
     have HR:=hid (show AFX T M x w (.returned (.int .u64 (O:Int))) w from⟨O,rfl,hW.out.fin xY.out hO.out.fin,rfl⟩);clear hO;go_wp2_with fail;go_ret;exact HR.out
    ·have hq:((O:Int)==(N:Int))=false:=by simp;omega
     have hms:N<O:=by have:=HS.out.2;omega
     have hOB:O<B:=by rw[FO.out];exact hO.out.1
     have HN:=hid HS.out.1;clear hO HS he;go_wp2_with fail;go_round;case rel=>exact⟨O,rfl,HN⟩
     case measure=>simp[intOf];omega
end Go.Proofs.YtaadbccidfdniaaGreat.CcG
namespace Go.Proofs.YtaadbccidfdniaaGreat.U8
open Go.RowKit Go.Proofs.YtaadbccidfdniaaGreat AB CU Cu Gt EZ Dr U2 I9 ML SQ
open Go.Proofs.YtaadbccidfdniaaGreat.dM (Du)
structure Lay (w w':World):Prop where
 b:Below w.heap.size w w'
 d:w.drawn≤w'.drawn
theorem Lay.refl (w:World):Lay w w:=⟨A7 _ _,Av _⟩
theorem Lay.trans {a b c:World}(h:Lay a b)(k:Lay b c):Lay a c:=⟨h.b.trans (k.b.mono h.b.size),Ad h.d k.d⟩
theorem Lay.alloc {a b:World}(h:Lay a b)(o:Obj):Lay a (b.alloc o):=⟨h.b.alloc h.b.size o,h.d⟩
theorem Lay.grow {w w':World}(h:Lay w w'):∃q os',w'=Go.Sort.grow (w.drewN q) os':=by
 refine⟨w'.drawn-w.drawn,w'.heap.extract w.heap.size w'.heap.size,?_⟩;obtain⟨⟨h1,h2,h3,h4,h5⟩,h6⟩:=h;cases w with
 |mk hp tp dr os ot=>
 cases w' with
 |mk hp' tp' dr' os' ot'=>
  simp only at h1 h2 h3 h4 h5 h6;subst h1;subst h2;subst h3;simp only[Go.Sort.grow,World.drewN,World.mk.injEq,and_true,true_and];refine⟨?_,by omega⟩;apply Array.ext_getElem?;intro k;rw[Array.getElem?_append];split
  ·next hk=>exact h5 k hk
  ·next hk=>
   rw[Array.getElem?_extract];split
   ·congr 1;omega
   ·next hk2=>exact Array.getElem?_eq_none (by omega)
section
variable {P:Program} (w:World)
theorem AGy (base:Nat)(t ty e:TypeId)(i:TypeInfo)(z:Value)(size bytes:Nat)(ht:P.underlying t=some (.slice e))(hi:P.info? e=some i)(hz:i.zero=some z)
  (hsize:i.size=size) (hby:i.bytes=bytes) (hsz:0<size) (v:Value) (n:Nat) (xs:List Value) (hown:w.ownsRow base e size v n xs)
  (a:Addr) (m c:Nat) (news:List Value) (hl:news.length=m*size) (hnews:∀j u,news[j]?=some u→w.cell? (a.add j)=some u) (h1:∀u∈news,u.oneCell'=true)
  (h63:n+m≤maxLen) (hbytes:(n+m)*bytes≤140737488355328) {v':Value} {w':World} (hrun:(Builtin.append_ #[t,t] ty #[v,.slice (some a) m c]).run P w= .ok v' w'):w.drawn≤w'.drawn:=by
 subst hsize;subst hby;have hsmall:n+m≤9223372036854775807:=by simp only[maxLen]at h63;omega
 have fin:∀{x:Value} {y:World},(Builtin.append_ #[t,t] ty #[v,.slice (some a) m c]).run P w= .ok x y→w.drawn≤y.drawn→w.drawn≤w'.drawn:=fun hq hd=>by
  rw[hrun]at hq;injection hq with _ hq;rw[hq];exact hd
 rcases hown.2 with⟨rfl,rfl⟩|⟨g,cap,cur,rfl,hbg,hg,hnc,hcm,hcs,htake⟩
 ·by_cases hm:m=0
  ·subst hm;have hn:news=[]:=D8 (by simpa using hl);subst hn;refine fin (x:=.slice none 0 0) (y:=w) ?_ AR;simp[Builtin.append_,run_underlying ht,sizeOf,typeInfo,hi,Builtin.lenOf,Builtin.firstCells,loadCells,loadCellsFrom]
  ·exact fin (run_append_nil (P:=P) w t ty e i z ht hi hz a m c news hl hnews (by omega) (by omega) (by have hb:=hbytes;simp only[Cg]at hb;omega)) (Nat.le_succ _)
 ·by_cases hroom:n+m≤cap
  ·have hfit:n*i.size+news.length≤cur.size:=by rw[hl,hcs,←Nat.add_mul];exact RI _ hroom
   exact fin (run_append_room (P:=P) w t ty e i ht hi g n cap cur hg a m c news hl hnews h1 hroom hfit) AR
  ·have holds:∀j u,xs[j]?=some u→w.cell? ((⟨g,0,none⟩:Addr).add j)=some u:=hown.cells (g:=g) rfl;exact fin (run_append_grow (P:=P) w t ty e i z ht hi hz ⟨g,0,none⟩ n cap xs hown.1 holds a m c news hl hnews (by omega) (by omega) (growslice_fits (by omega) hbytes)) (Nat.le_succ _)
theorem z8 {ops:Array Oper}{rest:List Oper}{o:Oper}{a:Act}{Q:Exit→Act→World→Prop}(hgd:o.guard=none)(s x:Operand)(t:TypeId)
  (ho:o.op= .call { callee:=.builtin .append,args:= #[s,x],argTypes:= #[t,t] })
  (base:Nat) (e:TypeId) (i:TypeInfo) (z:Value) (size bytes:Nat) (ht:P.underlying t=some (.slice e)) (hi:P.info? e=some i) (hz:i.zero=some z)
  (hsize:i.size=size) (hby:i.bytes=bytes) (hzs:z.cells.size=size) (hsz:0<size)
  (v:Value) (n:Nat) (xs:List Value) (hs:a.eval s=v) (hown:w.ownsRow base e size v n xs)
  (ad:Addr) (m c:Nat) (news:List Value) (hx:a.eval x= .slice (some ad) m c) (hl:news.length=m*size) (hnews:∀j u,news[j]?=some u→w.cell? (ad.add j)=some u) (h1:∀u∈news,u.oneCell'=true)
  (h63:n+m≤maxLen) (hbytes:(n+m)*bytes≤140737488355328) (hbase:base≤w.heap.size)
  (h:∀v' w',w'.ownsRow base e size v' (n+m) (xs++news)→w.grownBy w' v.ownBlock→w.drawn≤w'.drawn→wpList P ops Q rest (a.put o.dst v') w'):wpList P ops Q (o::rest) a w:=by
 obtain⟨v',w',hr,h2,h3,h4⟩:=run_append_own (P:=P) w base t o.type e i z size bytes ht hi hz hsize hby hzs hsz v n xs hown ad m c news hl hnews h1 h63 hbytes hbase;have hd:=AGy (P:=P) w base t o.type e i z size bytes ht hi hz hsize hby hsz v n xs hown ad m c news hl hnews h1 h63 hbytes hr;refine wpList_plain hgd fun K' hK=>?_;unfold Oper.wp execOp;simp only[ho,resolve,invoke,builtin,Sem.run_bind,Sem.run_pure,RB,RD,GZ,Ng,hs,hx,hr];exact hK _ _ (h v' w' h2 h3 hd)
end
def AFa (us:List (List Nat))(w:World)(e:Ending)(w':World):Prop:=∃v,e= .returned v∧AL (fun k=>w.heap.size≤k) w' v (ints (us.map dep))∧Lay w w'
theorem AHB (w:World)(vu:Value)(us:List (List Nat))(hu:AP Any w vu (us.map ints))(hl:us.length≤1000)(hd:∀u∈us,dep u<u.length∧u.length≤1000):
  Calls Tryz.prog 43 #[vu] w (AFa us w):=by
 obtain⟨i0,hi,hz0,hz1,hz2⟩:=Bt YV;obtain⟨aU,cU,rfl,_,_⟩:=Aq.form hu;rw[Bh]at hu ⊢;have HU:=hid hu;have HD:=hid hd;have yu:=hid (fun W v x h h1 h2=>AA7 W v x h h1 h2);obtain⟨m,hm⟩:∃m,us.length=m:=⟨_,rfl⟩;rw[hm]at HU hl ⊢;have HM:=hid hm;clear hu hd hm;go_enter Tryz.func43,Tryz.ntmps43;go_wp2_with fail;go_loopw [3,8] (fun ov iv wr=>∃k:Nat,k≤m∧iv= .int .i64 (k:Int)∧Hid (wr.ownsRow w.heap.size 3 1 ov k (vals (ints ((us.map dep).take k))))∧Hid (Lay w wr)) (fun _ iv _=>m-(intOf iv).toNat);case atStart=>exact⟨0,AU _,rfl,hid (F7 _ _ _ _),hid (Lay.refl _)⟩
 case round=>
  obtain⟨k,hk,rfl,hO,hB⟩:=hrel;by_cases hlt:k<m
  ·obtain⟨u,hu⟩:∃u,us[k]?=some u:=⟨_,AO (by rw[HM.out];omega)⟩;obtain⟨b,o,q,rfl,_,hb,hc,hq⟩:=Aq.get HU.out (k:=k) (x:=ints u) (by rw[Bn,hu];rfl);have hk1:=AA.of_below (S:=Any) hB.out.b;have hcr:=(hk1.cell (b:=b) (o:=o+k) trivial hb).trans hc;have hbr:b<wr.heap.size:=Ai hb hB.out.b.size;have Lp:=HD.out u (Ak hu);have Dh:=hid (yu.out wr q u (AL.keep hq hk1) Lp.1 (by omega));have hti:(us.map dep).take (k+1)=(us.map dep).take k++[dep u]:=by rw[IJ,Bn,hu];rfl
   have yw:=hid (show vals (ints ((us.map dep).take (k+1)))=vals (ints ((us.map dep).take k))++[.int .i64 (dep u:Int)] by rw[hti];simp[vals,ints]);have hki:(k:Int)<(m:Int):=by omega
   clear hu hc hq Lp hk1 hti;go_wp2_with fail;refine Dh.out.mono ?_;rintro e w' ⟨rfl,rfl⟩;have h1:=Br hO.out (S:=Any) ((AA.refl _ wr).alloc (.cells #[.int .i64 (dep u:Int)] 3)) (fun _ _=>trivial);have hs0:=hB.out.b.size;clear Dh hcr;go_wp2_with (at_builtin;(refine z8 _ rfl _ _ 64 rfl w.heap.size 3 i0 (.int .i64 0) 1 8 Tryz.underlying64 hi hz0 hz1 hz2 rfl (by decide) _ _ _ rfl h1 ⟨wr.heap.size,0,none⟩ 1 1 [.int .i64 (dep u:Int)] rfl rfl ?c1 ?c2 ?c3 ?c4 ?c5 ?_));case c1=>
    intro j u hj
    match j,hj with
    |0,hj=>simp at hj;subst hj;simp[Addr.add]
   case c2=>intro u hu;simp at hu;subst hu;rfl
   case c3=>unfold maxLen;omega
   case c4=>omega
   case c5=>simp;omega
   intro v' w2 hown hgrow hdr;have HN:=hid (show w2.ownsRow w.heap.size 3 1 v' (k+1) (vals (ints ((us.map dep).take (k+1)))) by rw[yw.out];exact hown);have G6:=hid (show Lay w w2 from⟨(hB.out.b.alloc hs0 _).grown hgrow (by simp;omega) (fun g hg=>(Af h1 g hg).1),Ad hB.out.d hdr⟩);clear hown hgrow hdr h1 hO hB;go_wp2_with fail;go_roundw;case rel=>exact⟨k+1,by omega,by go_num,HN,G6⟩
   case measure=>simp[intOf]<;>omega
  ·obtain rfl:k=m:=by omega
   have HR:=hid (show∀ov,wr.ownsRow w.heap.size 3 1 ov k (vals (ints ((us.map dep).take k)))→AFa us w (.returned ov) wr from fun ov h=>⟨ov,rfl,by
    rw[←HM.out,P6 (by simp)]at h;exact AC8 (by rw[Bh];exact h),hB.out⟩)
   have HRR:=hid (HR.out _ hO.out);clear hO hB HR;go_wp2_with fail;go_ret;exact HRR.out
theorem TC (x:Nat)(w:World):Calls Tryz.prog 121 #[.int .i64 (x:Int)] w fun e w'=>e= .returned (.bool false)∧w=w':=by
 go_enter Tryz.func121,Tryz.ntmps121;go_wp2_with fail;go_ret;exact⟨by simp,rfl⟩
theorem gX (x y:Nat)(w:World):Calls Tryz.prog 80 #[.int .i64 (x:Int),.int .i64 (y:Int)] w fun e w'=>e= .returned (.int .i64 (Du x y))∧w=w':=by
 rcases TN x y with h|h|h
 ·have h1:decide ((x:Int)<(y:Int))=true:=by simp;omega
  have HC:=hid (show Du x y= -1 by simp[Du,h]);go_enter Tryz.func80,Tryz.ntmps80;go_wp2_with (go_at_call 121;refine(TC _ _).mono ?_;rintro e w' ⟨rfl,rfl⟩);go_ret;exact⟨by rw[HC.out];rfl,rfl⟩
 ·subst h;have h1:decide ((x:Int)<(x:Int))=false:=by simp
  have HC:=hid (show Du x x=0 by simp[Du]);go_enter Tryz.func80,Tryz.ntmps80;go_wp2_with (go_at_call 121;refine(TC _ _).mono ?_;rintro e w' ⟨rfl,rfl⟩);go_ret;exact⟨by rw[HC.out];rfl,rfl⟩
 ·have h1:decide ((x:Int)<(y:Int))=false:=by simp;omega
  have h2:decide ((x:Int)>(y:Int))=true:=by simp;omega
  have HC:=hid (show Du x y=1 by simp[Du,h];omega);go_enter Tryz.func80,Tryz.ntmps80;go_wp2_with (go_at_call 121;refine(TC _ _).mono ?_;rintro e w' ⟨rfl,rfl⟩);go_ret;exact⟨by rw[HC.out];rfl,rfl⟩
def BR:List Nat→List Nat→Int
 |[],[]=>0
 |[],_::_=> -1
 |_::_,[]=>1
 |a::x,b::y=>if a<b then -1 else if b<a then 1 else BR x y
theorem eY:∀x:List Nat,BR x x=0
 |[]=>rfl
 |a::x=>by rw[BR,BD (Nc _),BD (Nc _),eY x]
theorem YE (a b:Nat)(x y:List Nat):BR (a::x) (b::y)<0↔a<b∨(a=b∧BR x y<0):=by
 rw[BR];split
 ·simp;omega
 ·split
  ·simp;omega
  ·have:a=b:=by omega
   simp[this]
theorem eD:∀x y z:List Nat,BR x y<0→BR y z<0→BR x z<0
 |[],[],z,h,_=>by simp[BR]at h
 |[],_::_,[],_,h=>by simp[BR]at h
 |[],_::_,_::_,_,_=>by simp[BR]
 |_::_,[],z,h,_=>by simp[BR]at h
 |_::_,_::_,[],_,h=>by simp[BR]at h
 |a::x,b::y,c::z,h1,h2=>by
  rw[YE]at h1 h2 ⊢;rcases h1 with h1|⟨h1,h3⟩<;>rcases h2 with h2|⟨h2,h4⟩
  ·exact .inl (by omega)
  ·exact .inl (by omega)
  ·exact .inl (by omega)
  ·exact .inr ⟨by omega,eD x y z h3 h4⟩
theorem dw:∀x y z:List Nat,¬BR x y<0→¬BR y z<0→¬BR x z<0
 |[],[],z,_,h2=>h2
 |[],_::_,z,h,_=>absurd (by simp[BR]) h
 |_::_,[],[],h,_=>h
 |_::_,[],_::_,_,h=>absurd (by simp[BR]) h
 |_::_,_::_,[],_,_=>by simp[BR]
 |a::x,b::y,c::z,h1,h2=>by
  rw[YE,not_or,not_and]at h1 h2 ⊢;refine⟨by omega,fun h=>?_⟩;have h3:a=b:=by omega
  have h4:b=c:=by omega
  exact dw x y z (h1.2 h3) (h2.2 h4)
theorem AJJ {y:List Nat}:BR [] y=if 0<y.length then -1 else 0:=by cases y<;>simp[BR]
theorem AH6 {x y:List Nat}{k a b:Nat}(ha:x[k]?=some a)(hb:y[k]?=some b):BR (x.drop k) (y.drop k)=if a<b then -1 else if b<a then 1 else BR (x.drop (k+1)) (y.drop (k+1)):=by
 obtain⟨h1,e1⟩:=Ag.1 ha;obtain⟨h2,e2⟩:=Ag.1 hb;rw[EX h1,EX h2,e1,e2,BR]
theorem AH7 {x y:List Nat}{k a:Nat}(ha:x[k]?=some a)(hb:y.length≤k):BR (x.drop k) (y.drop k)=1:=by
 obtain⟨h1,e1⟩:=Ag.1 ha;rw[EX h1,TJ hb,BR]
theorem AGz (w:World)(vx vy:Value)(x y:List Nat)(hx:AL (fun _=>True) w vx (ints x))(hy:AL (fun _=>True) w vy (ints y)):
  Calls Tryz.prog 81 #[vx,vy] w fun e w'=>e= .returned (.int .i64 (BR x y))∧w=w':=by
 have hm:(x.length:Int)≤9223372036854775807:=by
  obtain⟨_,_,_,h1,h2,_⟩:=hx;rw[BL]at h1;unfold maxLen at h2;omega
 obtain⟨aX,cX,rfl,hcx⟩:=hx.open;obtain⟨aY,cY,rfl,hcy⟩:=hy.open;have HX:=hid hx;have HY:=hid hy;obtain⟨m,hm2⟩:∃m,y.length=m:=⟨_,rfl⟩;have HL:=hid hm2;rw[hm2]at hcy ⊢;clear hx hy hm2;go_enter Tryz.func81,Tryz.ntmps81;go_wp2_with fail;go_loop [11] (fun iv=>∃k:Nat,k≤x.length∧k≤m∧iv= .int .i64 (k:Int)∧Hid (BR (x.drop k) (y.drop k)=BR x y)) (fun iv=>x.length-(intOf iv).toNat);case atStart=>exact⟨0,AU _,AU _,rfl,hid rfl⟩
 case round=>
  obtain⟨k,hk,hkm,rfl,hR⟩:=hrel;by_cases hlt:k<x.length
  ·obtain⟨a,ha⟩:∃a,x[k]?=some a:=⟨_,AO hlt⟩;have hd:decide ((k:Int)<(x.length:Int))=true:=by simp;omega
   by_cases ANz:k<m
   ·obtain⟨c,hc⟩:∃c,y[k]?=some c:=⟨_,AO (by rw[HL.out];exact ANz)⟩;obtain⟨bX,oX,rfl,_,_,Fh⟩:=HX.out.at ha;obtain⟨bY,oY,rfl,_,_,bS⟩:=HY.out.at hc;have HD:=hid ((AH6 ha hc).symm.trans hR.out);have hd2:decide ((k:Int)≥(m:Int))=false:=by simp;omega
    clear ha hc;go_wp2_with fail;refine(gX _ _ _).mono ?_;rintro e w' ⟨rfl,rfl⟩;rcases TN a c with h|h|h
    ·have HC:=hid (show Du a c= -1 by simp[Du,h]);have HR:=hid (show -1=BR x y by have:=HD.out;rwa[Bo h]at this);rw[HC.out];clear h;go_wp2_with fail;go_ret;exact⟨by rw[←HR.out];rfl,rfl⟩
    ·subst h;have HC:=hid (show Du a a=0 by simp[Du]);have HR:=hid (show BR (x.drop (k+1)) (y.drop (k+1))=BR x y by have:=HD.out;rwa[BD (Nc _),BD (Nc _)]at this);rw[HC.out];go_wp2_with fail;go_round;case rel=>exact⟨k+1,by omega,by omega,by go_num,HR⟩
     case measure=>simp[intOf];omega
    ·have HC:=hid (show Du a c=1 by simp[Du,h];omega);have HR:=hid (show 1=BR x y by have:=HD.out;rwa[BD (by omega),Bo h]at this);rw[HC.out];clear h;go_wp2_with fail;go_ret;exact⟨by rw[←HR.out];rfl,rfl⟩
   ·obtain rfl:k=m:=by omega
    obtain⟨bX,oX,rfl,_,_,Fh⟩:=HX.out.at ha;have HR:=hid (show 1=BR x y by rw[←hR.out];exact(AH7 ha (by rw[HL.out];exact Av _)).symm);have hd2:decide ((k:Int)≥(k:Int))=true:=by simp
    clear ha;go_wp2_with fail;go_ret;exact⟨by rw[←HR.out];rfl,rfl⟩
  ·obtain rfl:k=x.length:=by omega
   have hd:decide ((x.length:Int)<(x.length:Int))=false:=by simp
   have HR:=hid (show BR x y=if 0<(y.drop x.length).length then -1 else 0 by rw[←hR.out,Nb,AJJ]);by_cases hq:x.length<m
   ·have hd2:decide ((x.length:Int)<(m:Int))=true:=by simp;omega
    have hd3:decide (x.length<m)=true:=by simp;omega
    have HR2:=hid (show BR x y= -1 by rw[HR.out,Cx,HL.out,Bo (by omega)]);clear hq;go_wp2_with fail;go_ret;exact⟨by rw[HR2.out];rfl,rfl⟩
   ·have hd2:decide ((x.length:Int)<(m:Int))=false:=by simp;omega
    have hd3:decide (x.length<m)=false:=by simp;omega
    have HR2:=hid (show BR x y=0 by rw[HR.out,Cx,HL.out,BD (by omega)]);clear hq;go_wp2_with fail;go_ret;exact⟨by rw[HR2.out];rfl,rfl⟩
theorem ALG (w:World)(b c:Nat)(x y:Int)(h0:w.cell? ⟨b,0,none⟩=some (.int .i64 x))(h1:w.cell? ⟨b,1,none⟩=some (.int .i64 y)):
  Calls Tryz.prog 79 #[.slice (some ⟨b,0,none⟩) 2 c] w fun e w'=>e= .returned (.int .i64 (if x≠0 then x else y))∧w=w':=by
 go_enter Tryz.func79,Tryz.ntmps79;go_wp2_with fail;go_loop [8] (fun iv=>(iv= .int .i64 0)∨(iv= .int .i64 1∧Hid (x=0))∨(iv= .int .i64 2∧Hid (x=0)∧Hid (y=0))) (fun iv=>2-(intOf iv).toNat);case atStart=>exact .inl rfl
 case round=>
  rcases hrel with rfl|⟨rfl,hx⟩|⟨rfl,hx,hy⟩
  ·by_cases hx:x=0
   ·subst hx;go_wp2_with fail;go_round;case rel=>exact .inr (.inl ⟨by go_num,by first|exact hid rfl|exact hid trivial⟩)
    case measure=>simp[intOf]
   ·have hne:(x !=0)=true:=by simp;exact hx
    go_wp2_with fail;go_ret;first|exact⟨rfl,rfl⟩|exact⟨by rw[Bo hx],rfl⟩
  ·obtain rfl:=hx.out;by_cases hy:y=0
   ·subst hy;go_wp2_with fail;go_round;case rel=>exact .inr (.inr ⟨by go_num,by first|exact hid rfl|exact hid trivial,by first|exact hid rfl|exact hid trivial⟩)
    case measure=>simp[intOf]
   ·have hne:(y !=0)=true:=by simp;exact hy
    go_wp2_with fail;go_ret;first|exact⟨rfl,rfl⟩|exact⟨by simp,rfl⟩
  ·obtain rfl:=hx.out;obtain rfl:=hy.out;go_wp2_with fail;go_ret;first|exact⟨rfl,rfl⟩|exact⟨by simp,rfl⟩
def AFb (w:World)(e:Ending)(w':World):Prop:=∃v,e= .returned v∧Own w.heap.size w' v []∧Lay w w'
theorem AG0 (n:Nat)(hn:n≤1000000)(w:World):Calls Tryz.prog 122 #[.slice none 0 0,.int .i64 (n:Int)] w (AFb w):=by
 obtain⟨i0,hi,hz0,hz1,hz2⟩:=Bt FX;by_cases h0:n=0
 ·subst h0;go_enter Tryz.func122,Tryz.ntmps122;go_wp2_with fail;go_ret;exact⟨_,rfl,⟨rfl,.inl ⟨rfl,rfl⟩⟩,Lay.refl _⟩
 ·have h1:¬((n:Int)<0):=by omega
  have h4:(n:Int)>0:=by omega
  have hw:IntKind.i64.wrap (n:Int)=n:=AY _ (by omega);have hrz:=fun ty=>Lib.run_append_nil_zeros (P:=Tryz.prog) w 24 3 ty 2 i0 (.int .i64 0) .i64 .i64 Tryz.underlying24 Tryz.underlying3 hi hz0 n (by omega) (by rw[hz1];omega) (by omega) (by rw[hz2];omega);have hge:=grownCap_ge w n 0 2;have hle:=hid (grownCap_le_maxLen w n 0 2 (by unfold maxLen;omega));have hle2:(grownCap w n 0 2:Int)≤9223372036854775807:=by have:=hle.out;unfold maxLen at this;omega
  obtain⟨cp,hcp⟩:∃cp,grownCap w n 0 2=cp:=⟨_,rfl⟩;obtain⟨w2,hw2⟩:∃w2,w.drew.alloc (.cells (Builtin.zeroCells (Value.int .i64 0).cells n++Builtin.zeroCells (Value.int .i64 0).cells (grownCap w n 0 2-n)) 2)=w2:=⟨_,rfl⟩;have HR:=hid (show AFb w (.returned (.slice (some ⟨w.heap.size,0,none⟩) 0 cp)) w2 from by
   rw[←hw2,←hcp];refine⟨_,rfl,⟨rfl,.inr ⟨w.heap.size,_,_,rfl,Av _,BA w.drew _,AU _,hle.out,?_,by simp⟩⟩,⟨(AX.drew).alloc AR _,Nat.le_succ _⟩⟩;simp[Builtin.zeroCells,Value.cells];omega)
  rw[hw2]at hrz;rw[hcp]at hrz hge hle2;have hge':(n:Int)≤(cp:Int):=by omega
  have AQI:(0:Int)≤(cp:Int):=by omega
  clear hw2 hcp h0 hle hn;go_enter Tryz.func122,Tryz.ntmps122;go_wp2_with (at_builtin;(refine Lib.wpList_append_run _ rfl _ _ _ _ rfl _ _ rfl rfl _ _ (hrz _) ?_));go_ret;exact HR.out
def AFc (l:List Nat)(w:World)(e:Ending)(w':World):Prop:=∃v,e= .returned v∧AL (fun k=>w.heap.size≤k) w' v (ints l)∧Lay w w'
theorem ABA {us:List (List Nat)}{r:List Nat}{k:Nat}(h:us[k]?=some r):(us.take (k+1)).flatten=(us.take k).flatten++r:=by
 rw[IJ,h];simp
theorem AKU {us:List (List Nat)}(h:∀r∈us,r.length≤1000):us.flatten.length≤us.length*1000:=by
 induction us with
 |nil=>simp
 |cons r us ih=>
  rw[List.flatten_cons,Cs,Hl];have h1:=h r DJ;have h2:=ih fun r hr=>h r (Dj _ hr);omega
theorem AHd (w:World)(vu:Value)(us:List (List Nat))(hu:AP Any w vu (us.map ints))(hl:us.length≤1000)(hr:∀r∈us,0<r.length∧r.length≤1000):
  Calls Tryz.prog 82 #[vu] w (AFc us.flatten w):=by
 obtain⟨i0,hi,hz0,hz1,hz2⟩:=Bt FX;have Zh:=hid (fun k=>show(us.take k).flatten.length≤1000000 from by
  have h1:=AKU (us:=us.take k) (fun r h=>(hr r (Vo h)).2);have h2:(us.take k).length≤us.length:=by rw[JX];omega
  omega)
 have HU:=hid hu;have HRR:=hid hr;obtain⟨aU,cU,rfl,Db,_⟩:=Aq.form hu;rw[Bh]at HU Db ⊢;obtain⟨m,hm⟩:∃m,us.length=m:=⟨_,rfl⟩;rw[hm]at HU hl Db ⊢;have HM:=hid hm;clear hu hr hm;go_enter Tryz.func82,Tryz.ntmps82;go_wp2_with fail;go_loop [3,11] (fun sv iv=>∃k s:Nat,k≤m∧iv= .int .i64 (k:Int)∧sv= .int .i64 (s:Int)∧Hid (s=(us.take k).flatten.length)) (fun _ iv=>m-(intOf iv).toNat);case atStart=>exact⟨0,0,AU _,rfl,rfl,hid (by simp)⟩
 case round=>
  obtain⟨k,s,hk,rfl,rfl,hs⟩:=hrel;by_cases hlt:k<m
  ·obtain⟨r,IX⟩:∃r,us[k]?=some r:=⟨_,AO (by rw[HM.out];exact hlt)⟩;obtain⟨bU,oU,u,rfl,_,EU,hcc,Co⟩:=Aq.get HU.out (k:=k) (x:=ints r) (by rw[Bn,IX];rfl);obtain⟨a2,c2,rfl,_⟩:=AL.open Co;have hd:decide ((k:Int)<(m:Int))=true:=by simp;omega
   have HN:=hid (show s+r.length=(us.take (k+1)).flatten.length by rw[ABA IX,Cs,←hs.out]);have hw:IntKind.i64.wrap ((s:Int)+(r.length:Int))=((s+r.length:Nat):Int):=by
    have h1:=Zh.out (k+1);rw[←HN.out]at h1;rw[AY _ (by omega)];omega
   obtain⟨t,ht⟩:∃t,s+r.length=t:=⟨_,rfl⟩;rw[ht]at HN hw;have hd2:decide ((t:Int)<0)=false:=by simp
   clear IX Co ht;go_wp2_with fail;go_round;case rel=>exact⟨k+1,t,by omega,by go_num,by first|rfl|simp[hw],HN⟩
   case measure=>simp[intOf];omega
  ·obtain rfl:k=m:=by omega
   have hd:decide ((k:Int)<(k:Int))=false:=by simp
   have HG:=hid (AG0 s (by rw[hs.out];exact Zh.out k) w);clear hs;go_wp2_with fail;refine HG.out.mono ?_;rintro e w1 ⟨v1,rfl,ho1,hb1⟩;have DD:=hid ho1;have HB1:=hid hb1;clear ho1 hb1;go_wp2_with fail;go_loopw [6,27] (fun nv iv wr=>∃j:Nat,j≤k∧iv= .int .i64 (j:Int)∧Hid (Own w.heap.size wr nv (ints (us.take j).flatten))∧Hid (Lay w wr)) (fun _ iv _=>k-(intOf iv).toNat);case atStart=>exact⟨0,AU _,rfl,hid (by simpa[ints]using DD.out),HB1⟩
   case round=>
    obtain⟨j,hj,rfl,hO,hB⟩:=hrel;by_cases hlt2:j<k
    ·obtain⟨r,IX⟩:∃r,us[j]?=some r:=⟨_,AO (by rw[HM.out];exact hlt2)⟩;obtain⟨bU,oU,u,rfl,_,EU,hcc,Co⟩:=Aq.get (AP.keep HU.out (AA.of_below hB.out.b)) (k:=j) (x:=ints r) (by rw[Bn,IX];rfl);obtain⟨a2,c2,rfl,_⟩:=AL.open Co;have hr0:=HRR.out r (Ak IX);obtain⟨b2,o2,rfl,-, -, -⟩:=AL.at Co (j:=0) (q:=r[0]'hr0.1) (AO _);have hd:decide ((j:Int)<(k:Int))=true:=by simp;omega
     obtain⟨f,hf⟩:∃f,(us.take j).flatten=f:=⟨_,rfl⟩;have HN:=hid (show(us.take (j+1)).flatten=f++r by rw[ABA IX,hf]);have HFB:=hid (show f.length+r.length≤1000000 by have:=Zh.out (j+1);rw[HN.out,Cs]at this;exact this);rw[hf]at hO;have HOW:=hid (show wr.ownsRow w.heap.size 2 1 _ f.length (vals (ints f)) from by have h:=hO.out;rw[Own,BL]at h;exact h);have C1:=hid (AL.src Co (AA.refl _ wr));have C2:=hid (Qy (ints r));have C3:=hid (show f.length+r.length≤maxLen from by have:=HFB.out;unfold maxLen;omega);have C4:=hid (show(f.length+r.length)*8≤140737488355328 from by have:=HFB.out;omega);have C5:=hid (show(vals (ints r)).length=r.length*1 by simp[vals,ints]);have C6:=hid hB.out.b.size;clear IX Co hr0 hf hO;go_wp2_with (at_builtin;refine z8 _ rfl _ _ 24 rfl w.heap.size 2 i0 (.int .i64 0) 1 8 Tryz.underlying24 hi hz0 hz1 hz2 rfl (by decide) _ _ _ rfl HOW.out ⟨b2,o2,none⟩ r.length c2 (vals (ints r)) rfl C5.out C1.out C2.out C3.out C4.out C6.out ?_);intro v' w4 hown' hgrow hdr;have Iu:=hid (show Own w.heap.size w4 v' (ints (us.take (j+1)).flatten) from by
      rw[HN.out,Own,BL,Cs];rw[show vals (ints (f++r))=vals (ints f)++vals (ints r) by simp[vals,ints]];exact hown')
     have Bl:=hid (show Lay w w4 from⟨hB.out.b.grown hgrow hB.out.b.size (fun g hg=>(Af HOW.out g hg).1),Ad hB.out.d hdr⟩);clear hown' hgrow hdr;go_wp2_with fail;go_roundw;case rel=>exact⟨j+1,by omega,by go_num,Iu,Bl⟩
     case measure=>simp[intOf];omega
    ·obtain rfl:j=k:=by omega
     have hd:decide ((j:Int)<(j:Int))=false:=by simp
     have HR:=hid (fun v (h:Own w.heap.size wr v (ints (us.take j).flatten))=>show AFc us.flatten w (.returned v) wr from⟨v,rfl,by
      rw[←HM.out,KC]at h;exact h.sl,hB.out⟩)
     have Yy:=hid (HR.out _ hO.out);clear hO HR;go_wp2_with fail;go_ret;exact Yy.out
theorem AAk (T:Tw)(hs:Small T)(w:World)(b o:Nat)(vu:Value)(us:List (List Nat))(hP:BN Any w b o (AQ T))(hu:AP Any w vu (us.map ints))(KU:us.length≤1000)(hL:∀u∈us,El T u∧dep u<T.length)(hz:sz (Ac T us)≤729):
  Calls Tryz.prog 19 #[.pointer (some ⟨b,o,none⟩),vu] w fun e w'=>e= .returned (.int .i64 (sz (Ac T us):Int))∧Lay w w':=by
 have hs6:=hs.1;have HP:=hid hP;have HL:=hid hL;have HZ:=hid hz;have Jr:=hid (AHB w vu us hu KU (fun u hu=>by have h:=hL u hu;have:=AZ h.1;omega));obtain⟨m,hm⟩:∃m,us.length=m:=⟨_,rfl⟩;have HM:=hid hm;have HPO:=hid (show∀V:List (List Nat),(∀u∈V,dep u<T.length∧∃L,T[dep u]?=some L∧0<L.o)→0<sz (Ac T V) from fun V=>by
  induction V with
  |nil=>intro _;simp[Ac,sz]
  |cons v V ih=>
   intro h;obtain⟨_,L,hL',h0⟩:=h v DJ;have h2:=ih fun u hu=>h u (Dj _ hu);rw[Ac,sz];show 0<oF T (dep v)*_;rw[J7 hL'];exact Nat.mul_pos h0 h2)
 have Gh:=hid (fun u (h:u∈us)=>show∃L,T[dep u]?=some L from⟨_,AO (hL u h).2⟩);rw[hm]at KU;clear hP hu hL hz hm;go_enter Tryz.func19,Tryz.ntmps19;go_wp2_with fail;refine Jr.out.mono ?_;rintro e w1 ⟨vp,rfl,hp1,hb1⟩;obtain⟨aP,cP,rfl,_⟩:=hp1.open;rw[Bh,HM.out]at hp1 ⊢;have NP:=hid hp1;have HB1:=hid hb1;obtain⟨-, hPb,vO,vP,vC,p0,p1,p2,hv⟩:=HP.out.keep (AA.of_below hb1.b);obtain⟨aO,cO,NS,NT,aC,cC,rfl,rfl,rfl,-, -, -⟩:=hv.open;have HV:=hid hv;clear hp1 hb1 hv p1 p2;go_wp2_with fail;go_loop [5,11] (fun sv iv=>∃k s:Nat,k≤m∧iv= .int .i64 (k:Int)∧sv= .int .i64 (s:Int)∧Hid (s*sz (Ac T (us.drop k))=sz (Ac T us))) (fun _ iv=>m-(intOf iv).toNat);case atStart=>exact⟨0,1,AU _,rfl,rfl,hid (by simp)⟩
 case round=>
  obtain⟨k,s,hk,rfl,rfl,hS⟩:=hrel;by_cases hlt:k<m
  ·obtain⟨u,hu⟩:∃u,us[k]?=some u:=⟨_,AO (by rw[HM.out];exact hlt)⟩;obtain⟨L,hL⟩:=Gh.out u (Ak hu);obtain⟨bP,oP,rfl,_,FE,hcP⟩:=AL.at NP.out (j:=k) (q:=dep u) (by rw[Bn,hu];rfl);obtain⟨bO,oO,rfl,-, CQ,BS⟩:=HV.out.ord hL;obtain⟨d,hd⟩:∃d,dep u=d:=⟨_,rfl⟩;rw[hd]at hcP BS;have hdl:d<T.length:=by rw[←hd];exact(HL.out u (Ak hu)).2
   have HN:=hid (show s*L.o*sz (Ac T (us.drop (k+1)))=sz (Ac T us) from by
    have h1:=hS.out;obtain⟨h2,e⟩:=Ag.1 hu;rw[EX h2,e,Ac,sz]at h1;have h3:s*(oF T (dep u)*sz (Ac T (us.drop (k+1))))=sz (Ac T us):=h1;rw[J7 hL,←Nat.mul_assoc]at h3;exact h3)
   obtain⟨t,ht⟩:∃t,s*L.o=t:=⟨_,rfl⟩;rw[ht]at HN;have mG:t≤729:=by
    rcases Nat.eq_zero_or_pos (sz (Ac T (us.drop (k+1))))with h0|h0
    ·have h1:=HN.out;rw[h0,Nat.mul_zero]at h1;exfalso;have hpos:=HPO.out us (fun u hu=>?_)
     ·omega
     ·obtain⟨L2,hL2⟩:=Gh.out u hu;refine⟨(HL.out u hu).2,L2,hL2,?_⟩;obtain⟨L',hL',hlt'⟩:=LP (HL.out u hu).1 (AO (l:=u) (i:=dep u) (by rw[AZ (HL.out u hu).1];exact(HL.out u hu).2));rw[hL2]at hL';injection hL' with hL';subst hL';omega
    ·have h1:=HN.out;have h2:=HZ.out;have h3:t*1≤t*sz (Ac T (us.drop (k+1))):=Nat.mul_le_mul AR h0;omega
   have hw:IntKind.i64.wrap ((s:Int)*(L.o:Int))=(t:Int):=by
    have h:((s:Int)*(L.o:Int))=((t:Nat):Int):=by rw[←ht];push_cast;rfl
    rw[h,AY _ (by omega)]
   have hdi:(d:Int)<(T.length:Int):=by omega
   have uX:(0:Int)≤(d:Int):=by omega
   have hd1:decide ((k:Int)<(m:Int))=true:=by simp;omega
   have Qn:=hid hlt;clear hu hL ht hd;go_wp2_with fail;go_round;case rel=>exact⟨k+1,t,by have:=Qn.out;omega,by go_num,by first|rfl|simp[hw],HN⟩
   case measure=>have:=Qn.out;simp[intOf];omega
  ·obtain rfl:k=m:=by omega
   have hd1:decide ((k:Int)<(k:Int))=false:=by simp
   have HE:=hid (show s=sz (Ac T us) from by
    have h:=hS.out;rw[TJ (by rw[HM.out];exact Av _)]at h;simpa[Ac,sz]using h)
   clear hS;go_wp2_with fail;go_ret;exact⟨by rw[HE.out];rfl,HB1.out⟩
noncomputable def key (T:Tw)(us:List (List Nat)):List Nat:=sz (Ac T us)::us.flatten
def CsR (T:Tw)(us vs:List (List Nat))(w:World)(e:Ending)(w':World):Prop:=e= .returned (.int .i64 (BR (key T us) (key T vs)))∧Lay w w'
theorem ALH (a b:Nat)(x y:List Nat):(if Du a b≠0 then Du a b else BR x y)=BR (a::x) (b::y):=by
 unfold Du;rw[BR];split
 ·simp
 ·split
  ·simp
  ·simp
structure Ll (T:Tw)(us:List (List Nat)):Prop where
 len:us.length≤6
 row:∀u∈us,El T u∧dep u<T.length
 size:sz (Ac T us)≤729
theorem AGs (T:Tw)(hs:Small T)(w:World)(b o:Nat)(vu vv:Value)(us vs:List (List Nat))(hP:BN Any w b o (AQ T))(hu:AP Any w vu (us.map ints))(hv:AP Any w vv (vs.map ints))(gu:Ll T us)(gv:Ll T vs):
  Calls Tryz.prog 42 #[.pointer (some ⟨b,o,none⟩),vu,vv] w (CsR T us vs w):=by
 have hs6:=hs.1;have Bv:=hid (fun W v l h1 h2 (g:Ll T l)=>AAk T hs W b o v l h1 h2 (by have:=g.len;omega) g.row g.size);have M0:=hid (fun W v l h2 (g:Ll T l)=>AHd W v l h2 (by have:=g.len;omega) (fun u hu=>by have h:=g.row u hu;have:=AZ h.1;omega));have HP:=hid hP;have HU:=hid hu;have HV:=hid hv;have HK:=hid (ALH (sz (Ac T us)) (sz (Ac T vs)) us.flatten vs.flatten);clear hP hu hv;have C1:=hid (Bv.out w vu us HP.out HU.out gu);go_enter Tryz.func42,Tryz.ntmps42;go_wp2_with fail;refine C1.out.mono ?_;rintro e w1 ⟨rfl,hb1⟩;have HB1:=hid hb1;have C2:=hid (Bv.out w1 vv vs (HP.out.keep (AA.of_below hb1.b)) (AP.keep HV.out (AA.of_below hb1.b)) gv);clear hb1 C1 Bv;go_wp2_with fail;refine C2.out.mono ?_;rintro e w2 ⟨rfl,hb2⟩;have HB2:=hid (HB1.out.trans hb2);clear hb2 C2;go_wp2_with fail;refine(gX _ _ _).mono ?_;rintro e w3 ⟨rfl,rfl⟩;have C4:=hid (M0.out w2 vu us (AP.keep HU.out (AA.of_below HB2.out.b)) gu);go_wp2_with fail;refine C4.out.mono ?_;rintro e w4 ⟨v4,rfl,hc4,hb4⟩;have Bl:=hid (HB2.out.trans hb4);have Gg:=hid (hc4.mono (S':=Any) (fun _ _=>trivial));have C5:=hid (M0.out w4 vv vs (AP.keep HV.out (AA.of_below Bl.out.b)) gv);clear hc4 hb4 C4 M0;go_wp2_with fail;refine C5.out.mono ?_;rintro e w5 ⟨v5,rfl,Sa,hb5⟩;have Aa:=hid (Bl.out.trans hb5);have C6:=hid (AGz w5 v4 v5 _ _ (Gg.out.keep (AA.of_below hb5.b)) (Sa.mono (fun _ _=>trivial)));clear Sa hb5 C5;go_wp2_with fail;refine C6.out.mono ?_;rintro e w6 ⟨rfl,rfl⟩;obtain⟨c1,hc1⟩:∃c,Du (sz (Ac T us)) (sz (Ac T vs))=c:=⟨_,rfl⟩;obtain⟨c2,hc2⟩:∃c,BR us.flatten vs.flatten=c:=⟨_,rfl⟩;rw[hc1,hc2]at HK;rw[hc1,hc2];clear hc1 hc2 C6;go_wp2_with fail;have C7:=hid (ALG (w5.alloc (.cells #[.int .i64 c1,.int .i64 c2] 3)) w5.heap.size 2 c1 c2 (by rw[Ah _ _ _ #[.int .i64 c1,.int .i64 c2] 3 (0,0) (BA _ _)];rfl) (by rw[Ah _ _ _ #[.int .i64 c1,.int .i64 c2] 3 (0,0) (BA _ _)];rfl));refine C7.out.mono ?_;rintro e w7 ⟨rfl,rfl⟩;have NA:=hid (Aa.out.alloc (.cells #[.int .i64 c1,.int .i64 c2] 3));rw[HK.out];clear C7;go_wp2_with fail;go_ret;exact⟨rfl,NA.out⟩
end Go.Proofs.YtaadbccidfdniaaGreat.U8
namespace Go.Proofs.YtaadbccidfdniaaGreat.zO
open Go.RowKit Go.Lib Go.Sort Go.Proofs.YtaadbccidfdniaaGreat AB CU EZ dN ML U8
open Go.Proofs.YtaadbccidfdniaaGreat.Dr (Any)
theorem AJK (T:Tw)(hs:Small T)(w:World)(b o bp:Nat)(vu vv:Value)(us vs:List (List Nat))(hP:BN Any w b o (AQ T))(hc:w.cell? ⟨bp,0,none⟩=some (.pointer (some ⟨b,o,none⟩)))
  (hu:AP Any w vu (us.map ints)) (hv:AP Any w vv (vs.map ints)) (gu:Ll T us) (gv:Ll T vs):
  Calls Tryz.prog 41 #[vu,vv,.pointer (some ⟨bp,0,none⟩)] w (CsR T us vs w):=by
 have HC:=hid (AGs T hs w b o vu vv us vs hP hu hv gu gv);clear hP hu hv gu gv hs;go_enter Tryz.func41,Tryz.ntmps41;go_wp2_with fail;refine HC.out.mono ?_;rintro e w1 ⟨rfl,hb⟩;have HB:=hid hb;clear hb HC;go_wp2_with fail;go_ret;exact⟨rfl,HB.out⟩
abbrev Rw (S:Nat→Prop)(T:Tw)(g:Nat)(w:World):Type:={ p:Value×List (List Nat) // AP (fun k=>S k∧k≠g) w p.1 (p.2.map ints)∧Ll T p.2 }
def Ou {S:Nat→Prop}{T:Tw}{g:Nat}{w:World}(x:Rw S T g w):Value:=x.1.1
noncomputable def nI {S:Nat→Prop}{T:Tw}{g:Nat}{w:World}(x y:Rw S T g w):Int:=BR (key T x.1.2) (key T y.1.2)
theorem qp (S:Nat→Prop)(T:Tw)(g:Nat)(w:World):OneCell (Ou (S:=S) (T:=T) (g:=g) (w:=w)):=by
 rintro⟨⟨u,r⟩,⟨ao,c,h,_⟩,_⟩;show u.oneCell'=true;simp only at h;rw[h];rfl
theorem swo (S:Nat→Prop)(T:Tw)(g:Nat)(w:World):SWO (ltOf (nI (S:=S) (T:=T) (g:=g) (w:=w))) where
 irrefl x:=by simp[ltOf,nI,eY]
 trans x y z h1 h2:=IK (eD _ _ _ (TR h1) (TR h2))
 ntrans x y z h1 h2:=GX (dw _ _ _ (of_decide_eq_false h1) (of_decide_eq_false h2))
theorem AKV (S:Nat→Prop)(T:Tw)(hs:Small T)(g:Nat)(w:World)(b o bp size:Nat)(hP:BN (fun k=>k≠g) w b o (AQ T))(hc:w.cell? ⟨bp,0,none⟩=some (.pointer (some ⟨b,o,none⟩)))(hbp:bp≠g∧bp<w.heap.size)(ax:Rw S T g w):
  letI:Inhabited (Rw S T g w):=⟨ax⟩
  CmpLays1 Tryz.prog 41 #[.pointer (some ⟨bp,0,none⟩)] (Ou (S:=S) (T:=T) (g:=g) (w:=w)) nI g 0 size w:=by
 letI:Inhabited (Rw S T g w):=⟨ax⟩
 intro m os dk hsz x y;have hk:=fT (w:=w) (enc:=Ou (S:=S) (T:=T) (g:=g) (w:=w)) (g:=g) (n:=m) (os:=os) dk;have hr:∀z:Rw S T g w,AP Any (sortWorld (Ou (S:=S) (T:=T) (g:=g) (w:=w)) w g 0 m dk os) z.1.1 (z.1.2.map ints):=fun z=>AP.mono (AP.keep z.2.1 (hk.mono fun k hk=>hk.2)) (fun _ _=>trivial);refine(AJK T hs _ b o bp _ _ x.1.2 y.1.2 ((hP.keep hk).mono (fun _ _=>trivial)) ((hk.cell hbp.1 hbp.2).trans hc) (hr x) (hr y) x.2.2 y.2.2).mono ?_;rintro e w' ⟨rfl,hl⟩;exact⟨rfl,hl.grow⟩
def V9 (S:Nat→Prop)(B:Nat)(w:World)(v:Value)(L:List (List (List Nat))):Prop:=
 ∃us,w.ownsRow B 25 1 v L.length us∧us.length=L.length∧∀(i:Nat) (x:List (List Nat)) (u:Value),L[i]?=some x→us[i]?=some u→AP (fun k=>S k∧some k≠v.ownBlock) w u (x.map ints)
def AN0 (S:Nat→Prop)(B:Nat)(v:Value)(L:List (List (List Nat)))(w:World)(e:Ending)(w':World):Prop:=
 e= .returned (.tuple #[])∧∃L',L'.Perm L∧V9 S B w' v L'∧AA (fun k=>some k≠v.ownBlock) w w'∧Below (min B w.heap.size) w w'
theorem V9.nil (S:Nat→Prop)(B:Nat)(w:World):V9 S B w (.slice none 0 0) []:=⟨[],F7 _ _ _ _,rfl,by simp⟩
theorem qM (S:Nat→Prop)(T:Tw)(hs:Small T)(B:Nat)(w:World)(v:Value)(L:List (List (List Nat)))(hL:V9 S B w v L)(hbig:L.length<4611686018427387904)(hU:∀x∈L,Ll T x)(b o bp:Nat)
  (hP:BN (fun k=>some k≠v.ownBlock) w b o (AQ T)) (hc:w.cell? ⟨bp,0,none⟩=some (.pointer (some ⟨b,o,none⟩))) (hbp:some bp≠v.ownBlock∧bp<w.heap.size):
  Calls Tryz.prog 40 #[v,.func (.func 41) #[] #[.pointer (some ⟨bp,0,none⟩)]] w (AN0 S B v L w):=by
 obtain⟨us,h1,h2,h4⟩:=hL;rcases h1.2 with⟨rfl,h5⟩|⟨g,cap,cur,rfl,hB,hg,hc1,hc2,hc3,hc4⟩
 ·obtain rfl:L=[]:=D8 h5;have hc:=AnyF.slices_SortFunc_none ({ Tryz.vg with }:SlLaysF0.n6 _ _) none 0 (.func (.func 41) #[] #[.pointer (some ⟨bp,0,none⟩)]) w;refine hc.mono ?_;rintro e w' ⟨rfl,rfl⟩;exact⟨rfl,[],List.Perm.refl _,V9.nil _ _ _,AA.refl _ _,A7 _ _⟩
 ·have hne:∀k,(some k≠Value.ownBlock (.slice (some ⟨g,0,none⟩) L.length cap))↔k≠g:=fun k=>by simp[Value.ownBlock]
  cases L with
  |nil=>
   have hc:=AnyF.slices_SortFunc_none ({ Tryz.vg with }:SlLaysF0.n6 _ _) (some ⟨g,0,none⟩) cap (.func (.func 41) #[] #[.pointer (some ⟨bp,0,none⟩)]) w;refine hc.mono ?_;rintro e w' ⟨rfl,rfl⟩;exact⟨rfl,[],List.Perm.refl _,⟨us,h1,h2,h4⟩,AA.refl _ _,A7 _ _⟩
  |cons r0 L0=>
   generalize zN:r0::L0=L at *;have hpos:0<L.length:=by rw[←zN];simp
   have hget:∀i:Fin L.length,∃u,us[i.1]?=some u∧AP (fun k=>S k∧k≠g) w u ((L[i.1]).map ints)∧Ll T L[i.1]:=fun i=>by
    obtain⟨u,hu⟩:∃u,us[i.1]?=some u:=⟨_,AO (by rw[h2];exact i.2)⟩;exact⟨u,hu,AP.mono (h4 i.1 _ u (AO i.2) hu) (fun k hk=>⟨hk.1,(hne k).1 hk.2⟩),hU _ (Ke i.2)⟩
   let dd:Fin L.length→Rw S T g w:=fun i=>⟨(us[i.1]'(by rw[h2];exact i.2),L[i.1]),by
    obtain⟨u,hu,h5,h6⟩:=hget i;obtain⟨hi,e⟩:=Ag.1 hu;rw[e];exact⟨h5,h6⟩⟩
   letI:Inhabited (Rw S T g w):=⟨dd ⟨0,hpos⟩⟩
   let d:Array (Rw S T g w):=Array.ofFn dd
   have hds:d.size=L.length:=by simp[d]
   have Lp:d.toList.map Ou=us:=by
    apply TQ
    ·simp[d,h2]
    ·intro i q1 q2;simp[d,dd,Ou]
   have hdF:d.toList.map (fun x=>x.1.2)=L:=by
    apply TQ
    ·simp[d]
    ·intro i q1 q2;simp[d,dd]
   have hH:Holds (Ou (S:=S) (T:=T) (g:=g) (w:=w)) w g 0 d:=AA9 hg (by rw[hds,Lp,←hc4,Ic]);have hgl:g<w.heap.size:=(Ba.1 hg).1;have eg:∀args w,(callFunc 41 args).run Tryz.prog w= .ok (.enter 41 args) w:=enters_of Tryz.func41 (by kernel_rfl) rfl;have hc':=Go.Proofs.Any.slices_SortFunc Tryz.vg (Ou (S:=S) (T:=T) (g:=g) (w:=w)) (qp S T g w) nI (swo S T g w) 41 #[.pointer (some ⟨bp,0,none⟩)] g 0 cap d w eg
    (AKV S T hs g w b o bp d.size (hP.mono fun k hk=>(hne k).1 hk) hc ⟨(hne bp).1 hbp.1,hbp.2⟩ (dd ⟨0,hpos⟩)) hH hgl (by rw[hds];exact hbig)
   rw[hds]at hc';refine hc'.mono ?_;rintro e w' ⟨rfl,d',m,os,⟨p1,p2,p3⟩,_,rfl⟩;have Nv:d'.size=L.length:=by rw[p1,hds]
   have hperm:d'.toList.Perm d.toList:=by
    have e1:d'.extract 0 L.length=d':=by rw[←Nv];exact Array.extract_size
    have e2:d.extract 0 L.length=d:=by rw[←hds];exact Array.extract_size
    rwa[e1,e2]at p3
   have hk:=fT (w:=w) (enc:=Ou (S:=S) (T:=T) (g:=g) (w:=w)) (g:=g) (n:=m) (os:=os) d';have hlen':(d'.toList.map fun x=>x.1.2).length=L.length:=by simp[Nv]
   refine⟨rfl,d'.toList.map (fun x=>x.1.2),(hperm.map _).trans (by rw[hdF]),⟨d'.toList.map Ou,?_,by simp,fun i r u hr hu=>?_⟩,hk.mono (fun k h e=>h (by rw[e];rfl)),⟨rfl,rfl,rfl,hk.size,fun k hk'=>hk.block k (by omega) (by omega)⟩⟩
   ·rw[hlen'];refine⟨by simp[Nv],.inr ⟨g,cap,_,rfl,hB,ABs d' hg,hc1,hc2,by simp[putCells,hc3],?_⟩⟩;rw[Ic,←Nv];exact ABt _ cur d' (by rw[Nv,hc3];omega)
   ·simp only[Bn,II]at hr hu;obtain⟨x,hx,rfl⟩:=hr;obtain⟨y,hy,rfl⟩:=hu;rw[hx]at hy;cases hy;exact AP.mono (AP.keep x.2.1 (hk.mono fun k hk=>hk.2)) (fun k hk=>⟨hk.1,(hne k).2 hk.2⟩)
end Go.Proofs.YtaadbccidfdniaaGreat.zO
namespace Go.Proofs.YtaadbccidfdniaaGreat.Ym
open Go.RowKit Go.Proofs.YtaadbccidfdniaaGreat AB Ct CU JV LX Mf V6 TU jE sM Ni ADo Grow dN
theorem Aq.strong {α:Type}{E E':World→Value→α→Prop}{S:Nat→Prop}{w:World}{v:Value}{l:List α}(h:Aq E S w v l)(hE:∀u x,E w u x→E' w u x):Aq E' (fun k=>k<w.heap.size) w v l:=by
 obtain⟨ao,c,h1,h2,h3,h0,h4⟩:=h;refine⟨ao,c,h1,h2,h3,h0,fun i x hx=>?_⟩;obtain⟨b,o,e1,e2,e3,u,e4,e5⟩:=h4 i x hx;exact⟨b,o,e1,e3,e3,u,e4,hE _ _ e5⟩
theorem AL.strong {S:Nat→Prop}{w:World}{v:Value}{l:List Int}(h:AL S w v l):AL (fun k=>k<w.heap.size) w v l:=Aq.strong h (fun _ _ e=>e)
theorem AP.strong {S:Nat→Prop}{w:World}{v:Value}{l:List (List Int)}(h:AP S w v l):AP (fun k=>k<w.heap.size) w v l:=Aq.strong h (fun _ _ e=>AL.strong e)
theorem GA.strong {S:Nat→Prop}{w:World}{v:Value}{l:List (List (List Int))}(h:GA S w v l):GA (fun k=>k<w.heap.size) w v l:=Aq.strong h (fun _ _ e=>AP.strong e)
theorem BN.strong {S:Nat→Prop}{w:World}{b o:Nat}{P:Bu}(h:BN S w b o P):BN (fun k=>k<w.heap.size) w b o P:=by
 obtain⟨h1,h2,vO,vP,vC,c1,c2,c3,hv⟩:=h;exact⟨h2,h2,vO,vP,vC,c1,c2,c3,⟨AL.strong hv.os,AP.strong hv.ps,GA.strong hv.cs⟩⟩
def iW (P Q:Bu)(w:World)(e:Ending)(w':World):Prop:=
 ∃(v:Value) (k:Int),e= .returned (.tuple #[v,.int .i64 k])∧Below w.heap.size w w'∧
  ((v= .slice none 0 0∧k=1∧¬(Bb P∧Bb Q))∨
   ∃T U,P=AQ T∧Q=AQ U∧Bb P∧Bb Q∧
   ((v= .slice none 0 0∧k=3∧(27<sz T∨27<sz U))∨(v= .slice none 0 0∧k=0∧sz T≤27∧sz U≤27∧sz T≠sz U)∨
    (k=0∧sz T=sz U∧sz U≤27∧∃F,F.Perm (grow U T T.length [])∧Asc F∧Own2 64 3 w.heap.size w' v F)))
theorem AKW (Q:Tw):zL Q [] [] 1:=⟨by omega,fun c=>by
 simp only[IA];cases c with
 |zero=>simp
 |succ c=>simp[Nat.testBit_succ]⟩
theorem pV {Q T:Tw}:∀(k:Nat) (im:List Nat),∀r∈grow Q T k im,r.length=k+im.length
 |0,im,r,h=>by simp only[grow,GU]at h;rw[h];simp
 |k+1,im,r,h=>by
  rw[grow,List.mem_flatMap]at h;obtain⟨x,_,h⟩:=h;split at h
  ·rw[pV k _ r h];simp;omega
  ·simp at h
theorem mkN (n:Nat)(hn:n≤6)(w:World):(Instr.makeSlice 64 (.int .i64 (n:Int)) (.int .i64 (n:Int))).run Tryz.prog w= .ok (.slice (some ⟨w.heap.size,0,none⟩) n n) (w.alloc (.cells (madeCells #[.int .i64 0] n) 3)):=
 run_make_row' (P:=Tryz.prog) 64 3 (.int .i64 0) 8 Tryz.underlying64 YV rfl .i64 .i64 n (by omega) (by omega) w
structure Xb (w W:World)(bs bp op bg gi n:Nat)(U:Tw):Prop where
 UI:Below w.heap.size w W
 a1:w.heap.size≤bs
 a2:w.heap.size≤bg
 a3:w.heap.size≤gi
 b1:bs<W.heap.size
 b2:bg<W.heap.size
 b3:gi<W.heap.size
 c1:bs≠gi
 c2:bg≠bs
 c3:bg≠gi
 row:W.heap[bs]?=some (.cells #[.pointer (some ⟨bp,op,none⟩),.pointer (some ⟨bg,0,none⟩),.slice (some ⟨gi,0,none⟩) n n,.bool false,.slice none 0 0] 94)
 img:W.heap[gi]?=some (.cells (madeCells #[.int .i64 0] n) 3)
 tab:∃v,W.cell? ⟨bg,0,none⟩=some v∧AP (fun k=>k≠bs∧k≠gi∧k<W.heap.size) W v ((Ht U (sz U)).map ints)
theorem Aq.gY {α:Type}{E E':World→Value→α→Prop}{S:Nat→Prop}{w:World}{v:Value}{l:List α}(h:Aq E S w v l)(hE:∀u x,E w u x→E' w u x):Aq E' (fun k=>S k∧k<w.heap.size) w v l:=by
 obtain⟨ao,c,h1,h2,h3,h0,h4⟩:=h;refine⟨ao,c,h1,h2,h3,h0,fun i x hx=>?_⟩;obtain⟨b,o,e1,e2,e3,u,e4,e5⟩:=h4 i x hx;exact⟨b,o,e1,⟨e2,e3⟩,e3,u,e4,hE _ _ e5⟩
theorem AP.gY {S:Nat→Prop}{w:World}{v:Value}{l:List (List Int)}(h:AP S w v l):AP (fun k=>S k∧k<w.heap.size) w v l:=Aq.gY h (fun _ _ e=>Aq.gY e (fun _ _ e=>e))
theorem qw {w7 W:World}{B bs gi:Nat}{v:Value}{U:Tw}(h:Own2 64 3 B w7 v (Ht U (sz U)))(hk:AA (fun _=>True) w7 W)(hn:∀k,B≤k→k<w7.heap.size→k≠bs∧k≠gi):
  AP (fun k=>k≠bs∧k≠gi∧k<W.heap.size) W v ((Ht U (sz U)).map ints):=
 AP.mono ((AP.gY h.sl).keep (hk.mono (fun _ _=>trivial))) (fun k hk'=>⟨(hn k hk'.1 hk'.2).1,(hn k hk'.1 hk'.2).2,Ai hk'.2 hk.size⟩)
theorem Po (w:World)(o:Obj)(k:Nat)(h:k=w.heap.size):(w.alloc o).heap[k]?=some o:=by subst h;exact BA _ _
theorem ALv {w w6 w7:World}{bp op n B:Nat}{v:Value}{U:Tw}(hb:Below w.heap.size w w7)(h:Own2 64 3 B w7 v (Ht U (sz U))):
  Xb w (((w7.alloc (.cells #[v] 92)).alloc (.cells (madeCells #[.int .i64 0] n) 3)).alloc (.cells #[.pointer (some ⟨bp,op,none⟩),.pointer (some ⟨w7.heap.size,0,none⟩),.slice (some ⟨w7.heap.size+1,0,none⟩) n n,.bool false,.slice none 0 0] 94)) (w7.heap.size+1+1) bp op w7.heap.size (w7.heap.size+1) n U:=by
 have hs:=hb.size;refine⟨((hb.alloc hs _).alloc (by simp;omega) _).alloc (by simp;omega) _,by omega,by omega,by omega,by simp,by simp;omega,by simp,by omega,by omega,by omega,Po _ _ _ (by simp),(KD _ _ (by simp)).trans (Po _ _ _ (by simp)),v,?_,qw h (((AJ.alloc _).alloc _).alloc _) (fun k _ hk=>by omega)⟩;exact(Ah _ _ _ #[v] 92 (0,0) ((KD _ _ (by simp;omega)).trans ((KD _ _ (by simp)).trans (Po _ _ _ (by simp))))).trans rfl
theorem ALw {w w6 w7:World}{bp op n B:Nat}{v:Value}{U:Tw}(hb:Below w.heap.size w w7)(h:Own2 64 3 B w7 v (Ht U (sz U))):
  Xb w (((w7.alloc (.cells (madeCells #[.int .i64 0] n) 3)).alloc (.cells #[v] 92)).alloc (.cells #[.pointer (some ⟨bp,op,none⟩),.pointer (some ⟨w7.heap.size+1,0,none⟩),.slice (some ⟨w7.heap.size,0,none⟩) n n,.bool false,.slice none 0 0] 94)) (w7.heap.size+1+1) bp op (w7.heap.size+1) w7.heap.size n U:=by
 have hs:=hb.size;refine⟨((hb.alloc hs _).alloc (by simp;omega) _).alloc (by simp;omega) _,by omega,by omega,by omega,by simp,by simp,by simp;omega,by omega,by omega,by omega,Po _ _ _ (by simp),(KD _ _ (by simp;omega)).trans ((KD _ _ (by simp)).trans (Po _ _ _ (by simp))),v,?_,qw h (((AJ.alloc _).alloc _).alloc _) (fun k _ hk=>by omega)⟩;exact(Ah _ _ _ #[v] 92 (0,0) ((KD _ _ (by simp)).trans (Po _ _ _ (by simp)))).trans rfl
theorem ALx {w w6 w7:World}{bp op n:Nat}{v:Value}{U:Tw}(hb6:Below w.heap.size w w6)(Cz:Below (w6.heap.size+1) (w6.alloc (.cells (madeCells #[.int .i64 0] n) 3)).drew w7)(h:Own2 64 3 (w6.heap.size+1) w7 v (Ht U (sz U))):
  Xb w ((w7.alloc (.cells #[v] 92)).alloc (.cells #[.pointer (some ⟨bp,op,none⟩),.pointer (some ⟨w7.heap.size,0,none⟩),.slice (some ⟨w6.heap.size,0,none⟩) n n,.bool false,.slice none 0 0] 94)) (w7.heap.size+1) bp op w7.heap.size w6.heap.size n U:=by
 have hs6:=hb6.size;have hs7:=Cz.size;simp at hs7;have hb:Below w.heap.size w w7:=((hb6.alloc hs6 _).drew).trans (Cz.mono (by omega));have hs:=hb.size;have hg:w7.heap[w6.heap.size]?=some (.cells (madeCells #[.int .i64 0] n) 3):=by
  rw[Cz.block _ (by omega)];exact Po w6 _ _ rfl
 refine⟨(hb.alloc hs _).alloc (by simp;omega) _,by omega,by omega,by omega,by simp,by simp;omega,by simp;omega,by omega,by omega,by omega,Po _ _ _ (by simp),?_,v,?_,qw h ((AJ.alloc _).alloc _) (fun k hk hk'=>by omega)⟩
 ·have hk:AA (fun _=>True) w7 ((w7.alloc (.cells #[v] 92)).alloc (.cells #[.pointer (some ⟨bp,op,none⟩),.pointer (some ⟨w7.heap.size,0,none⟩),.slice (some ⟨w6.heap.size,0,none⟩) n n,.bool false,.slice none 0 0] 94)):=(AJ.alloc _).alloc _;rw[hk.block _ trivial (by omega)];exact hg
 ·exact(Ah _ _ _ #[v] 92 (0,0) ((KD _ _ (by simp)).trans (Po _ _ _ (by simp)))).trans rfl
theorem Xb.iso {w W:World}{bs bp op bg gi:Nat}{T U:Tw}(h:Xb w W bs bp op bg gi T.length U)(hP:BN (fun k=>k<w.heap.size) w bp op (AQ T))(h6:T.length≤6):
  Ia W bs bp op bg gi T.length W.heap.size T U false (List.replicate T.length 0) [] (.slice none 0 0):=by
 have hs:=h.UI.size;have h1:=h.a1;have h3:=h.a3;obtain⟨v,hv,ht⟩:=h.tab;refine⟨h.b1,h.b3,h.c1,Av _,h.row,?_,⟨⟨h.b2,h.c2,h.c3⟩,h.b2,v,hv,ht.mono (fun k hk=>⟨hk.2.2,hk.1,hk.2.1⟩)⟩,by simp,?_,Own2.nil _ _ _ _⟩
 ·exact(hP.keep ⟨hs,fun k hk _=>h.UI.block k hk⟩).mono (fun k hk=>⟨by omega,by omega,by omega⟩)
 ·refine⟨by simp[vals,ints],.inr ⟨gi,T.length,_,rfl,AU _,h.img,Av _,by unfold maxLen;omega,by simp[madeCells],?_⟩⟩;rw[Q7];simp[vals,ints]
theorem AAB (w:World)(bp op bq oq:Nat)(P Q:Bu)(hP:BN Any w bp op P)(hQ:BN Any w bq oq Q):
  Calls Tryz.prog 21 #[.pointer (some ⟨bp,op,none⟩),.pointer (some ⟨bq,oq,none⟩)] w (iW P Q w):=by
 have HP:=hid hP;have HQ:=hid hQ;obtain⟨_,hpl,vO,vP,vC,p0,p1,p2,Sb⟩:=hP;obtain⟨_,NK,uO,uP,uC,q0,q1,q2,hVQ⟩:=hQ;have Sc:=hid Sb;have HVQ:=hid hVQ;have HG:=hid (fun W a b c P h=>Yj.Su W a b c P h);have Xc:Hid (¬(Bb P∧Bb Q)→∀w',Below w.heap.size w w'→iW P Q w (.returned (.tuple #[.slice none 0 0,.int .i64 1])) w'):=hid fun h w' hb=>⟨_,_,rfl,hb,.inl ⟨rfl,rfl,h⟩⟩;clear Sb hVQ;go_enter Tryz.func21,Tryz.ntmps21;go_wp2_with fail;refine(HG.out _ _ _ _ _ Sc.out).mono ?_;rintro e w1 ⟨r,rfl,hr,hb1⟩;have HB1:=hid hb1;by_cases Es:Bb P
 ·obtain rfl:r=true:=hr.2 Es;have Fu:=hid Es;have k1:=Au (AA.of_below hb1);have r0:=(k1.1 bq oq NK).trans q0;have r1:=(k1.1 bq (oq+1) NK).trans q1;have r2:=(k1.1 bq (oq+2) NK).trans q2;have AFd:=hid (HVQ.out.keep (AA.of_below hb1));clear hr hb1 Es k1;go_wp2_with fail;refine(HG.out _ _ _ _ _ AFd.out).mono ?_;rintro e w2 ⟨r,rfl,hr,hb2⟩;have HB2:=hid (HB1.out.trans (hb2.mono HB1.out.size));by_cases FR:Bb Q
  ·obtain rfl:r=true:=hr.2 FR;have LB:=hid FR;clear hr hb2 r0 r1 r2 p0 p1 p2 q0 q1 q2 AFd;obtain⟨U,hU,G7,rfl,ADp,FU⟩:=FR;obtain⟨T,hT,hs,rfl,WV,hgd⟩:=Fu.out;have hzT:=fB WV;have hzU:=fB ADp;have DY:=hid (fun W (h:Below w.heap.size w W)=>HP.out.keep (S:=Any) (AA.of_below h));have KQ:=hid (fun W (h:Below w.heap.size w W)=>HQ.out.keep (S:=Any) (AA.of_below h));have L9:=hid (fun W (h:Below w.heap.size w W)=>LJ T hT hs.1 hzT W bp op (DY.out W h));have NU:=hid (fun W (h:Below w.heap.size w W)=>LJ U hU G7.1 hzU W bq oq (KQ.out W h));have Si:=hid (fun W (h:Below w.heap.size w W)=>AA4 U hU G7 FU hzU W bq oq (KQ.out W h));have Sj:=hs.1;have HT:=hid hT;have HS:=hid hs;have HU:=hid hU;have KP:=hid G7;clear hT hs hU G7 WV ADp FU hgd;have UA:Hid (∀v k w',Below w.heap.size w w'→((v= .slice none 0 0∧k=3∧(27<sz T∨27<sz U))∨(v= .slice none 0 0∧k=0∧sz T≤27∧sz U≤27∧sz T≠sz U)∨
     (k=0∧sz T=sz U∧sz U≤27∧∃F,F.Perm (grow U T T.length [])∧Asc F∧Own2 64 3 w.heap.size w' v F))→iW (AQ T) (AQ U) w (.returned (.tuple #[v,.int .i64 k])) w'):=
    hid fun v k w' hb h=>⟨v,k,rfl,hb,.inr ⟨T,U,rfl,rfl,Fu.out,LB.out,h⟩⟩
   go_wp2_with fail;refine(L9.out _ HB2.out).mono ?_;rintro e w3 ⟨rfl,hb3⟩;have HB3:=hid (HB2.out.trans (hb3.mono HB2.out.size));clear hb3;by_cases h27:27<sz T
   ·have hd:decide ((sz T:Int)>27)=true:=by simp;omega
    have HR:=hid (UA.out (.slice none 0 0) 3 w3 HB3.out (.inl ⟨rfl,rfl,.inl h27⟩));clear DY KQ L9 NU Si HG h27;go_wp2_with fail;exact Aj (v:=.tuple #[.slice none 0 0,.int .i64 3]) (by simp[results,Tryz.results21,go_sem]) rfl HR.out
   ·have hd:decide ((sz T:Int)>27)=false:=by simp;omega
    go_wp2_with fail;refine(NU.out _ HB3.out).mono ?_;rintro e w4 ⟨rfl,hb4⟩;have Bl:=hid (HB3.out.trans (hb4.mono HB3.out.size));clear hb4;by_cases QG:27<sz U
    ·have hd2:decide ((sz U:Int)>27)=true:=by simp;omega
     have HR:=hid (UA.out (.slice none 0 0) 3 w4 Bl.out (.inl ⟨rfl,rfl,.inr QG⟩));clear DY KQ L9 NU Si HG h27 QG;go_wp2_with fail;exact Aj (v:=.tuple #[.slice none 0 0,.int .i64 3]) (by simp[results,Tryz.results21,go_sem]) rfl HR.out
    ·have hd2:decide ((sz U:Int)>27)=false:=by simp;omega
     go_wp2_with fail;refine(L9.out _ Bl.out).mono ?_;rintro e w5 ⟨rfl,hb5⟩;have Aa:=hid (Bl.out.trans (hb5.mono Bl.out.size));clear hb5;go_wp2_with fail;refine(NU.out _ Aa.out).mono ?_;rintro e w6 ⟨rfl,hb6⟩;have Ar:=hid (Aa.out.trans (hb6.mono Aa.out.size));clear hb6;by_cases hne:sz T=sz U
     ·have hd3:((sz T:Int) !=(sz U:Int))=false:=by simp[hne]
      have AN1:=hid (BN.strong (DY.out w AX));obtain⟨_,uN,vO,vP,vC,p0,p1,p2,Sb⟩:=DY.out _ Ar.out;obtain⟨aO,cO,aP,cP,aC,cC,rfl,rfl,rfl,Eo,hP1,FC⟩:=Sb.open;clear Sb p1 p2 h27 hd hd2;have hmk:∀W:World,(Instr.makeSlice 64 (.int .i64 (T.length:Int)) (.int .i64 (T.length:Int))).run Tryz.prog W= .ok (.slice (some ⟨W.heap.size,0,none⟩) T.length T.length) (W.alloc (.cells (madeCells #[.int .i64 0] T.length) 3)):=fun W=>mkN T.length (by omega) W;go_upto_region 7 with fail;clear HG Xc HB2 HB3 Bl Aa;go_cut [6] (fun sv W=>∃bs bg gi,sv= .pointer (some ⟨bs,0,none⟩)∧Xb w W bs bp op bg gi T.length U);case rest=>
       obtain⟨bs,bg,gi,rfl,hI⟩:=hcut;have HI:=hid hI;obtain⟨_,AQJ,Qo,PR,PS,p0',_,_,AFe⟩:=DY.out _ hI.UI;obtain⟨aO',cO',NS,NT,aC',cC',rfl,rfl,rfl,_,_,_⟩:=AFe.open;have vk:=hid (hI.iso (AN1.out) Sj);have PU:=hid (fun j4=>AHc w.heap.size T U HT.out HS.out HU.out (by omega) bs bp op bg gi T.length wc.heap.size false ⟨hI.a1,hI.a3⟩ T.length AR wc (List.replicate T.length 0) [] (.slice none 0 0) 1 j4
        (fun y hy=>by rw[(Kh.1 hy).2];exact JQ HU.out) (by rw[Nb];simpa using AKW U) (by have h6:27^T.length≤27^6:=Vm (by omega) Sj;simp;omega) (fun h=>by simp at h))
       have Cb:=hid hI.UI;clear AFe hI p0;go_wp2_with fail;refine(PU.out vk.out).mono ?_;rintro e w8 ⟨rfl,FL,Jv,MO,_,_,AFf⟩;have AN2:bs<w8.heap.size:=Ai HI.out.b1 MO.hB;have zP:Own2 64 3 wc.heap.size w8 Jv (grow U T T.length []):=by
        have h:=MO.dI;rwa[AHW,List.nil_append,show(List.replicate T.length 0).drop T.length=[] by simp]at h
       have q4:=MO.cells.2.2.2.2;have su:some bs≠Jv.ownBlock:=fun e=>by
        obtain⟨us,hu,_⟩:=zP;have:=(Af hu bs e.symm).1;have:=HI.out.b1;omega
       have HF8:=hid zP;have Gy:=hid (Cb.out.trans AFf.1);have Uh:=MO.hB;clear MO AFf zP p0';go_wp2_with fail;refine(qM wc.heap.size T.length (by omega) w8 Jv _ HF8.out (by have h6:27^T.length≤27^6:=Vm (by omega) Sj;have:=Xr U T (by omega) T.length [];omega) (fun r hr=>by have:=pV _ _ r hr;simpa using this)).mono ?_;rintro e w9 ⟨rfl,F',hperm,hasc,hown,hkeep,hbel⟩;have q49:=(hkeep.cell (b:=bs) (o:=4) su AN2).trans q4;have HR:=hid (UA.out Jv 0 w9 (Gy.out.trans (hbel.mono (by have:=Cb.out.size;omega))) (.inr (.inr ⟨rfl,hne,by omega,F',hperm,hasc,hown.mono Cb.out.size⟩)));clear hperm hasc hown hkeep hbel q4 su;go_wp2_with fail;exact Aj (v:=.tuple #[Jv,.int .i64 0]) (by simp[results,Tryz.results21,go_sem]) rfl HR.out
      go_region_law
       (first|(go_simp;go_at_call 33;refine(Si.out _ (by first|exact Ar.out|exact(Ar.out).drew)).mono ?_;rintro e w7 ⟨v7,rfl,Xd,Cz⟩;obtain⟨a7,c7,rfl,_,_⟩:=Xd.form;have k7:=Au (AA.of_below Cz);have p7:=(k7.1 bp op uN).trans p0;have AEP:bp<w7.heap.size:=Ai uN Cz.size)|(go_simp;go_at_call 33;refine(Si.out _ (by first|exact((Ar.out).alloc (by have:=Ar.out.size;omega) _).drew|exact(Ar.out).alloc (by have:=Ar.out.size;omega) _)).mono ?_;rintro e w7 ⟨v7,rfl,Xd,Cz⟩;obtain⟨a7,c7,rfl,_,_⟩:=Xd.form))
      all_goals (go_wp2_with fail;go_meet)
      all_goals first
       |exact⟨_,_,_,rfl,ALv (w6:=w6) ((Ar.out.drew).trans (Cz.mono Ar.out.size)) Xd⟩
       |exact⟨_,_,_,rfl,ALw (w6:=w6) ((Ar.out.drew).trans (Cz.mono Ar.out.size)) Xd⟩
       |exact⟨_,_,_,rfl,ALx Ar.out (by simpa using Cz) (by simpa using Xd)⟩
     ·have hd3:((sz T:Int) !=(sz U:Int))=true:=by simp;omega
      have HR:=hid (UA.out (.slice none 0 0) 0 w6 Ar.out (.inr (.inl ⟨rfl,rfl,by omega,by omega,hne⟩)));clear DY KQ L9 NU Si HG h27 QG hne;go_wp2_with fail;exact Aj (v:=.tuple #[.slice none 0 0,.int .i64 0]) (by simp[results,Tryz.results21,go_sem]) rfl HR.out
  ·obtain rfl:r=false:=by
    cases r with
    |false=>rfl
    |true=>exact absurd (hr.1 rfl) FR
   have HR:=hid (Xc.out (fun h=>FR h.2) w2 HB2.out);clear hr hb2 FR r0 r1 r2;go_wp2_with fail;exact Aj (v:=.tuple #[.slice none 0 0,.int .i64 1]) (by simp[results,Tryz.results21,go_sem]) rfl HR.out
 ·obtain rfl:r=false:=by
   cases r with
   |false=>rfl
   |true=>exact absurd (hr.1 rfl) Es
  have HR:=hid (Xc.out (fun h=>Es h.1) w1 HB1.out);clear hr hb1 Es;go_wp2_with fail;exact Aj (v:=.tuple #[.slice none 0 0,.int .i64 1]) (by simp[results,Tryz.results21,go_sem]) rfl HR.out
end Go.Proofs.YtaadbccidfdniaaGreat.Ym
