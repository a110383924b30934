import Derived.Test.YtlmlamcoeegkbaaGreatZ0
import Derived.Test.YtlmlamcoeegkbaaGreatZf
import Derived.Test.YtlmlamcoeegkbaaGreatZe
import Derived.Test.YtlmlamcoeegkbaaGreatProg
import Derived.WalkKit
import Derived.WalkSpells
import Derived.WalkLawsBesides
import Derived.BigQuiet
import Derived.Deep.QuietTactic
import Derived.Lib.Hide
import Derived.Outline
import Derived.Handy
import Derived.Below
import Derived.Laws.AppendOwn
import Derived.Lib.ItoaNum
import Derived.Lib.ParseIntB
import Derived.Test.YtlmlamcoeegkbaaGreatZb
import Derived.Laws.IdiomStrings
import Derived.IntWalk
import Derived.Lib.Strings
import Derived.Laws.BitsAllLaws
import Derived.Deep.RegionWith
import Derived.Deep.DrawnRows
import Derived.Deep.DeepCutAuto
import Derived.Deep.RegionHeld3
import Derived.Deep.LoopGhost
import Derived.Test.YtlmlamcoeegkbaaGreatZa
import Derived.Lib.AppendZerosOnto
/-
  Lemmas for the law FnOrbits, in short spelling.
-/
open Go.Lib (hid)
set_option linter.unusedVariables false
set_option linter.unusedSimpArgs false
set_option maxRecDepth 100000
set_option maxHeartbeats 40000000
namespace Go.Proofs.YtlmlamcoeegkbaaGreat.SpecD
open Go.RowKit Go.Proofs.YtlmlamcoeegkbaaGreat Tow SpecA SpecB SpecC
theorem at_end (T:Tw)(hs:Small T):AtSpec T T.length:=by
 intro w vO vP vC va vb a b hP ha hb hal hbl haE hbE;have hs6:=hs.1;have hmk:=mk22 T.length hs6;obtain⟨aO,cO,aP,cP,aC,cC,rfl,rfl,rfl,hO1,hP1,hC1⟩:=hP.open;have HO:=hid (Own.made (B:=w.heap.size) (w.alloc (.cells #[.slice aO T.length cO,.slice aP T.length cP,.slice aC T.length cC] 28)) T.length (by simp) (by unfold maxLen;omega));have hd:decide ((T.length:Int)≥(T.length:Int))=true:=by simp
 clear hP ha hb haE hbE;go_enter Tryz.func143,Tryz.ntmps143;go_wp2_with fail;go_ret;have hz:pad T.length (mul (T.drop T.length) (a.drop T.length) (b.drop T.length))=List.replicate T.length 0:=by
  rw[zq104];simp[pad,mul]
 rw[hz,←ints_replicate];have h1:=HO.out;simp only[World.size_alloc]at h1;refine⟨_,rfl,h1,?_⟩;exact(zqB.alloc zqN _).alloc (by simp) _
theorem at_img_any (T:Tw)(hT:Wf T)(hs:Small T)(m:Nat):∀i,T.length-i=m→i≤T.length→AtSpec T i∧∀L,T[i]?=some L→ImgSpec T i L:=by
 induction m with
 |zero=>
  intro i h1 h2;obtain rfl:i=T.length:=by omega
  exact⟨at_end T hs,fun L hL=>by simp at hL⟩
 |succ m ih=>
  intro i h1 h2;have hlt:i<T.length:=by omega
  have hL:T[i]?=some T[i]:=zq0 hlt;have hA:=(ih (i+1) (by omega) (by omega)).1;have hI:=fun L hL=>img_of_at T hT hs i L hL hA;exact⟨at_of T hT hs i _ hL hA (hI _ hL),hI⟩
theorem at_any (T:Tw)(hT:Wf T)(hs:Small T)(i:Nat)(hi:i≤T.length):AtSpec T i:=(at_img_any T hT hs _ i rfl hi).1
theorem img_any (T:Tw)(hT:Wf T)(hs:Small T)(i:Nat)(L:Lv)(hL:T[i]?=some L):ImgSpec T i L:=
 (at_img_any T hT hs _ i rfl (zq44 (zq2.1 hL).1)).2 L hL
theorem mul_any (T:Tw)(hT:Wf T)(hs:Small T)(w:World)(vO vP vC va vb:Value)(a b:List Nat)(hP:ValP Any w vO vP vC (ofTw T))(ha:SlI Any w va (ints a))(hb:SlI Any w vb (ints b))(haE:El T a)(hbE:El T b):
  Calls Tryz.prog 92 #[.agg #[vO,vP,vC],va,vb] w (NewI (ints (mul T a b)) w):=by
 have HP:=hid hP;have HA:=hid ha;have HB:=hid hb;have HAT:=hid (at_any T hT hs 0 (zq4 _));clear hP ha hb;go_enter Tryz.func92,Tryz.ntmps92;go_wp2_with fail;refine(HAT.out _ _ _ _ _ _ a b (HP.out.keep (zqK.alloc _)) (HA.out.keep (zqK.alloc _)) (HB.out.keep (zqK.alloc _)) (El_length haE) (El_length hbE) haE hbE).mono ?_;rintro e w2 ⟨v2,rfl,ho,hb⟩;have HO:=hid (ho.mono (B':=w.heap.size) (by simp));have HB2:=hid (((zq3 w.heap.size w).alloc zqN _).trans (hb.mono (by simp)));clear ho hb;go_wp2_with fail;go_ret;exact⟨_,rfl,HO.out,HB2.out⟩
def SameR (a b:List Int)(w:World)(e:Ending)(w':World):Prop:=e= .returned (.bool (decide (a=b)))∧∃n,w'=w.drewN n
theorem same_any (w:World)(va vb:Value)(a b:List Int)(ha:SlI Any w va a)(hb:SlI Any w vb b):
  Calls Tryz.prog 183 #[va,vb] w (SameR a b w):=by
 obtain⟨aA,cA,rfl,_,hmA,_,hA⟩:=ha;obtain⟨aB,cB,rfl,_,hmB,_,hB⟩:=hb;unfold maxLen at hmA hmB;have hA63:(a.length:Int)≤9223372036854775807:=by omega
 have HMA:=hid hmA;have HMB:=hid hmB;clear hmA hmB;by_cases hl:a.length=b.length
 ·have hl2:((a.length:Int) !=(b.length:Int))=false:=by simp;omega
  have HA:=hid hA;have HB:=hid hB;have HL:=hid hl;clear hA hB hl;go_enter Tryz.func183,Tryz.ntmps183;go_wp2_with fail;go_loopw [5] (fun i wr=>∃k:Nat,k≤a.length∧i= .int .i64 (k:Int)∧Hid ((∀j,j<k→a[j]?=b[j]?)∧∃n,wr=w.drewN n)) (fun i _=>a.length-(intOf i).toNat);case atStart=>exact⟨0,zq4 _,rfl,hid ⟨fun j h=>absurd h (zq33 _),0,rfl⟩⟩
  case round=>
   obtain⟨k,hk,rfl,hR⟩:=hrel;obtain⟨m,hw⟩:=hR.out.2;subst hw;by_cases hlt:k<a.length
   ·obtain⟨x,hx⟩:∃x,a[k]?=some x:=⟨_,zq0 hlt⟩;obtain⟨y,hy⟩:∃y,b[k]?=some y:=⟨_,zq0 (by rw[←HL.out];exact hlt)⟩;obtain⟨bA,oA,rfl,_,hbA,u,hcA,rfl⟩:=HA.out k x hx;obtain⟨bB,oB,rfl,_,hbB,u,hcB,rfl⟩:=HB.out k y hy;have hk2:k<b.length:=by rw[←HL.out];exact hlt
    have HX:=hid hx;have HY:=hid hy;have w4:(k:Int)<(a.length:Int):=by omega
    have w5:(0:Int)≤(k:Int):=by omega
    have w6:(k:Int)<(b.length:Int):=by omega
    clear hx hy;by_cases hxy:x=y
    ·have h2:(x !=y)=false:=by simp[hxy]
     have HXY:=hid hxy;clear hxy;go_wp2_with fail;go_quiet (fail);go_wp2_with fail;go_roundw;case rel=>exact⟨k+1,by omega,by go_num,hid ⟨fun j hj=>by
       rcases zq30.1 hj with h|h
       ·exact hR.out.1 j h
       ·subst h;rw[HX.out,HY.out,HXY.out],m+nq,by first|rfl|rw[zq113]⟩⟩
     case measure=>simp[intOf];omega
    ·have h2:(x !=y)=true:=by simpa using hxy
     have HXY:=hid hxy;clear hxy;go_wp2_with fail;go_quiet (fail);go_wp2_with fail;go_ret;refine⟨ret_b ?_,m+nq,by first|rfl|rw[zq113]⟩
     symm
     rw[decide_eq_false_iff_not];intro e;rw[e,HY.out]at HX;exact HXY.out (zq102 HX.out).symm
   ·obtain rfl:k=a.length:=by omega
    go_wp2_with fail;go_ret;refine⟨ret_b ?_,m,rfl⟩
    symm
    rw[zq78];apply zq99;intro j;by_cases hj:j<a.length
    ·exact hR.out.1 j hj
    ·rw[zq51 (by omega),zq51 (by rw[←HL.out];omega)]
 ·have hl2:((a.length:Int) !=(b.length:Int))=true:=by simp;omega
  clear hA hB;go_enter Tryz.func183,Tryz.ntmps183;go_wp2_with fail;go_ret;refine⟨ret_b ?_,0,rfl⟩
  symm
  rw[decide_eq_false_iff_not];intro e;exact hl (by rw[e])
end Go.Proofs.YtlmlamcoeegkbaaGreat.SpecD
namespace Go.Proofs.YtlmlamcoeegkbaaGreat.DwP
open Go.RowKit Go.Lib Go.Proofs.YtlmlamcoeegkbaaGreat Tow DwT DwB
theorem r1at {B n c j:Nat}{w:World}{a:Option Addr}(h:R1 B w n (.slice a n c))(hj:j<n):∃g cur x,a=some ⟨g,0,none⟩∧w.cell? ⟨g,j,none⟩=some (.int .i64 x)∧w.frozen? ⟨g,j,none⟩=false∧w.heap[g]?=some (.cells cur 2 (0,0))∧B≤g∧g<w.heap.size:=by
 obtain⟨l,h1,h2⟩:=h;rcases id h2.2 with⟨h3,h4⟩|⟨g,cap,cur,h3,hB,hg,_,_,_,ht⟩
 ·omega
 ·simp only[zq40]at h3;obtain⟨rfl,-, -⟩:=h3;have e1:(vals l)[j]?=some (.int .i64 (l[j]'(by omega))):=by simp[vals]
  rw[←ht,zq106]at e1;split at e1
  ·rw[zq118]at e1;exact⟨g,cur,_,rfl,by rw[zq15 w g j cur _ (0,0) hg];exact e1,zq25 w g j cur _ hg,hg,hB,(zq10.1 hg).1⟩
  ·cases e1
theorem sl_own {B n:Nat}{w:World}{v:Value}{l:List Int}(h:w.ownsRow B 2 1 v n (vals l))(hl:l.length=n):SlI Any w v l:=by
 subst hl;exact(Own.sl h).mono fun _ _=>trivial
theorem own_slg {α:Type}{E:World→Value→α→Prop}{B n:Nat}{e:TypeId}{w:World}{v:Value}{us:List Value}(h:w.ownsRow B e 1 v n us)(xs:List α)(hx:xs.length=n)
  (hE:∀(i:Nat) x,xs[i]?=some x→∃u,us[i]?=some u∧E w u x):SlG E (fun k=>B≤k) w v xs:=by
 rcases h.2 with⟨rfl,h0⟩|⟨g,cap,cur,rfl,hB,hg,hn,hm,hc,ht⟩
 ·have:xs=[]:=zq21 (by omega);subst this;exact⟨none,0,rfl,zq1 _,zq4 _,fun _=>rfl,fun i x hi=>by simp at hi⟩
 ·refine⟨some ⟨g,0,none⟩,cap,by rw[hx],by rw[hx];exact hn,hm,(fun e=>by cases e),fun i x hi=>?_⟩;obtain⟨u,hu,he⟩:=hE i x hi;refine⟨g,0,rfl,hB,(zq10.1 hg).1,u,?_,he⟩;have hil:i<n:=by rw[←hx];exact(zq2.1 hi).1
  rw[zq39,zq15 w g i cur e (0,0) hg,←hu,←ht,zq138 (by omega)];simp
theorem fin_at {α:Type}{n:Nat}(f:Fin n→α){i:Nat}{x:α}(h:((List.finRange n).map f)[i]?=some x):∃hi:i<n,x=f ⟨i,hi⟩:=by
 simp only[zq20,zq46]at h;obtain⟨j,hj,rfl⟩:=h;obtain⟨hl,e⟩:=zq2.1 hj;simp only[List.length_finRange]at hl;refine⟨hl,?_⟩;rw[←e];simp
theorem fin_map {n:Nat}{α:Type}(f:Fin n→α)(g:α→Nat)(L:List Nat)(hL:L.length=n)(h:∀i:Fin n,L[i.1]?=some (g (f i))):((List.finRange n).map f).map g=L:=by
 apply zq99;intro i;by_cases hi:i<n
 ·rw[h ⟨i,hi⟩];simp[hi]
 ·rw[zq51 (by simp;omega),zq51 (by omega)]
theorem R2.sl {B:Nat}{L:List Nat}{w:World}{v:Value}(h:R2 B w L v):∃rows:List (List Int),rows.map List.length=L∧Sl2 (fun k=>B≤k) w v rows:=by
 obtain⟨us,ho,hu⟩:=h;have hz:∀i:Fin L.length,∃l:List Int,L[i.1]?=some l.length∧∃u,us[i.1]?=some u∧SlI (fun k=>B≤k) w u l:=fun i=>by
  obtain⟨u,h1,h2⟩:=hu i.1 _ (zq0 i.2);obtain⟨l,h3,h4⟩:=h2.sl;exact⟨l,by rw[h3];exact zq0 i.2,u,h1,h4⟩
 refine⟨(List.finRange L.length).map fun i=>Classical.choose (hz i),fin_map _ _ L rfl (fun i=>(zq86 (hz i)).1),own_slg ho _ (by simp) fun i x hx=>?_⟩;obtain⟨hi,rfl⟩:=fin_at _ hx;exact(zq86 (hz ⟨i,hi⟩)).2
theorem R3.sl {B:Nat}{M:List (List Nat)}{w:World}{v:Value}(h:R3 B w M v):∃cs:List (List (List Int)),cs.map (fun r=>r.map List.length)=M∧Sl3 (fun k=>B≤k) w v cs:=by
 obtain⟨us,ho,hu⟩:=h;have hz:∀i:Fin M.length,∃r:List (List Int),M[i.1]?=some (r.map List.length)∧∃u,us[i.1]?=some u∧Sl2 (fun k=>B≤k) w u r:=fun i=>by
  obtain⟨u,h1,h2⟩:=hu i.1 _ (zq0 i.2);obtain⟨r,h3,h4⟩:=R2.sl h2;exact⟨r,by rw[h3];exact zq0 i.2,u,h1,h4⟩
 refine⟨(List.finRange M.length).map fun i=>Classical.choose (hz i),?_,own_slg ho _ (by simp) fun i x hx=>?_⟩
 ·apply zq99;intro i;by_cases hi:i<M.length
  ·rw[(zq86 (hz ⟨i,hi⟩)).1];simp[hi]
  ·rw[zq51 (by simp;omega),zq51 (by omega)]
 ·obtain⟨hi,rfl⟩:=fin_at _ hx;exact(zq86 (hz ⟨i,hi⟩)).2
theorem pt_val {B n:Nat}{w:World}{vO vP vC:Value}(h:PT B w n vO vP vC):∃P:Pres,ValP (fun k=>B≤k) w vO vP vC P∧P.os.length=n∧P.ps.map List.length=List.replicate n n∧P.cs.map (fun r=>r.map List.length)=(List.range n).map fun i=>List.replicate (n-(i+1)) n:=by
 obtain⟨l,h1,h2⟩:=h.1.sl;obtain⟨ps,h3,h4⟩:=R2.sl h.2.1;obtain⟨cs,h5,h6⟩:=R3.sl h.2.2;exact⟨⟨l,ps,cs⟩,⟨h2,h4,h6⟩,h1,h3,h5⟩
end Go.Proofs.YtlmlamcoeegkbaaGreat.DwP
namespace Go.Proofs.YtlmlamcoeegkbaaGreat.SplitPlain
def spl (s:ByteArray)(by_:UInt8):Nat→List ByteArray×Nat
 |0=>([],0)
 |k+1=>if s.data.toList[k]?=some by_ then((spl s by_ k).1++[s.extract (spl s by_ k).2 k],k+1)else spl s by_ k
theorem spl_from (s:ByteArray)(b:UInt8):∀k,(spl s b k).2≤k
 |0=>zq1 _
 |k+1=>by
  have:=spl_from s b k;simp only[spl];split
  ·exact zq1 _
  ·omega
theorem spl_length (s:ByteArray)(b:UInt8):∀k,(spl s b k).1.length≤k
 |0=>zq1 _
 |k+1=>by
  have:=spl_length s b k;simp only[spl];split
  ·simp;omega
  ·omega
def parts (s:ByteArray)(b:UInt8):List ByteArray:=(spl s b s.size).1++[s.extract (spl s b s.size).2 s.size]
end Go.Proofs.YtlmlamcoeegkbaaGreat.SplitPlain
namespace Go.Proofs.YtlmlamcoeegkbaaGreat.Split
open Go.RowKit SplitPlain
theorem infoS:(Tryz.prog.info? 9).map (fun i=>(i.zero,i.size,i.bytes))=some (some (.string ⟨#[]⟩),1,16):=by kernel_rfl
theorem split_any (s:ByteArray)(b:UInt8)(w:World)(hs:s.size≤1000000000):
  Calls Tryz.prog 230 #[.string s,.int .u8 b.toNat] w fun e w'=>∃v,e= .returned v∧
   w'.ownsRow w.heap.size 9 1 v (parts s b).length ((parts s b).map Value.string)∧Below w.heap.size w w':=by
 obtain⟨i0,hi,hz0,hz1,hz2⟩:=zq41 infoS;go_enter Tryz.func230,Tryz.ntmps230;go_wp2_with fail;go_loopw [5,6,7] (fun v f i wr=>∃k:Nat,k≤s.size∧i= .int .i64 k∧f= .int .i64 (spl s b k).2∧
   wr.ownsRow w.heap.size 9 1 v (spl s b k).1.length ((spl s b k).1.map Value.string)∧Below w.heap.size w wr) (fun _ _ i _=>s.size-(intOf i).toNat)
 case atStart=>exact⟨0,zq4 _,rfl,rfl,zq47 w #[] 0 zqN (zq4 _) rfl,zqB.alloc zqN _⟩
 case round=>
  obtain⟨k,hk,rfl,rfl,hown,hbel⟩:=hrel;have hf:=spl_from s b k;have hl:=spl_length s b k;have hsz:=hbel.size;by_cases hlt:k<s.size
  ·by_cases hb:s[k]=b
   ·have hs1:Hid (spl s b (k+1)=((spl s b k).1++[s.extract (spl s b k).2 k],k+1)):=hid (by
     have:s.data.toList[k]?=some b:=by rw[zq0 (by exact hlt)];exact zq38 some hb
     simp[spl,this])
    have ht:((s[k].toNat:Int)==(b.toNat:Int))=true:=by rw[hb];simp
    have HB:=hid hb;have HO:=hid hown;have HBel:=hid hbel;clear hb hown hbel;generalize hfe:(spl s b k).2=f at hf ⊢;generalize hle:(spl s b k).1=ps at hl ⊢;have HF:=hid hfe;have HL:=hid hle;clear hfe hle;go_wp2_with (at_builtin;refine zq55 _ rfl _ _ 239 rfl w.heap.size 9 i0 (.string ⟨#[]⟩) 1 16 Tryz.underlying239 hi hz0 hz1 hz2 rfl (by decide) _ _ _ rfl ((show wr.ownsRow w.heap.size 9 1 _ ps.length (ps.map Value.string) by rw[←HL.out];exact HO.out).alloc _) ⟨wr.heap.size,0,none⟩ 1 1 [.string (s.extract f k)] rfl rfl ?c1 ?c2 ?c3 ?c4 ?c5 ?_);case c1=>exact cell_one_new _ _ _
    case c2=>intro u hu;simp only[zq70,List.not_mem_nil,or_false]at hu;subst hu;rfl
    case c3=>unfold maxLen;omega
    case c4=>omega
    case c5=>simp;omega
    intro v' w1 hown' hgrow _;have hlt2:=zq8 (show wr.ownsRow w.heap.size 9 1 u5 _ _ from HO.out);have HO':=hid hown';have HB1:=hid ((HBel.out.alloc hsz _).grown hgrow (by simp;omega) (fun k hk=>(hlt2 k hk).1));clear hown' hgrow hlt2;go_wp2_with fail;go_roundw;case rel=>exact⟨k+1,by omega,by go_num,by rw[hs1.out];show _=Value.int .i64 ((k+1:Nat):Int);go_num,by rw[hs1.out,HL.out,HF.out];simpa using HO'.out,HB1.out⟩
    case measure=>simp[intOf];omega
   ·have hs1:Hid (spl s b (k+1)=spl s b k):=hid (by
     have:¬s.data.toList[k]?=some b:=by
      rw[zq0 (by exact hlt)];exact fun h=>hb (zq102 h)
     rw[spl];exact zq37 this)
    have ht:((s[k].toNat:Int)==(b.toNat:Int))=false:=by
     simp only[zq79];intro h;exact hb (UInt8.toNat_inj.1 (by omega))
    have HO:=hid hown;have HBel:=hid hbel;clear hb hown hbel;go_wp2_with fail;go_roundw;case rel=>exact⟨k+1,by omega,by go_num,by rw[hs1.out],by rw[hs1.out];exact HO.out,HBel.out⟩
    case measure=>simp[intOf];omega
  ·obtain rfl:k=s.size:=by omega
   have HO:=hid hown;have HBel:=hid hbel;clear hown hbel hlt hk;have hpl:Hid ((parts s b)=(spl s b s.size).1++[s.extract (spl s b s.size).2 s.size]):=hid rfl;generalize hfe:(spl s b s.size).2=f at hf ⊢;generalize hle:(spl s b s.size).1=ps at hl ⊢;have HF:=hid hfe;have HL:=hid hle;clear hfe hle;go_wp2_with (at_builtin;refine zq55 _ rfl _ _ 239 rfl w.heap.size 9 i0 (.string ⟨#[]⟩) 1 16 Tryz.underlying239 hi hz0 hz1 hz2 rfl (by decide) _ _ _ rfl ((show wr.ownsRow w.heap.size 9 1 _ ps.length (ps.map Value.string) by rw[←HL.out];exact HO.out).alloc _) ⟨wr.heap.size,0,none⟩ 1 1 [.string (s.extract f s.size)] rfl rfl ?c1 ?c2 ?c3 ?c4 ?c5 ?_);case c1=>exact cell_one_new _ _ _
   case c2=>intro u hu;simp only[zq70,List.not_mem_nil,or_false]at hu;subst hu;rfl
   case c3=>unfold maxLen;omega
   case c4=>omega
   case c5=>simp;omega
   intro v' w1 hown' hgrow _;have hlt2:=zq8 (show wr.ownsRow w.heap.size 9 1 u5 _ _ from HO.out);have HO':=hid hown';have HB1:=hid ((HBel.out.alloc hsz _).grown hgrow (by simp;omega) (fun k hk=>(hlt2 k hk).1));clear hown' hgrow hlt2;go_wp2_with fail;go_ret;refine⟨v',rfl,?_,HB1.out⟩;rw[hpl.out,HL.out,HF.out];simpa using HO'.out
end Go.Proofs.YtlmlamcoeegkbaaGreat.Split
namespace Go.Proofs.YtlmlamcoeegkbaaGreat.NumPlain
open Go.Lib
def valFrom (acc:Nat)(l:List UInt8):Nat:=l.foldl (fun a c=>10*a+(c.toNat-48)) acc
def val (l:List UInt8):Nat:=valFrom 0 l
def dgt (x:Nat):UInt8:=UInt8.ofNat (48+x)
theorem dec_small (n:Nat)(h:n<10):decDigits n=[dgt n]:=by rw[decDigits,dif_pos h];rfl
theorem dec_big (n:Nat)(h:¬n<10):decDigits n=decDigits (n/10)++[dgt (n%10)]:=by rw[decDigits,dif_neg h];rfl
theorem dec_len (n:Nat):∀k,n<10^(k+1)→(decDigits n).length≤k+1:=by
 induction n using Nat.strongRecOn with
 |ind n ih=>
  intro k hk;by_cases h:n<10
  ·rw[dec_small n h];simp
  ·rw[dec_big n h];cases k with
   |zero=>simp at hk;omega
   |succ k=>
    have:=ih (n/10) (by omega) k (by rw[zq112]at hk;omega);simp;omega
theorem dec_app (ds:List UInt8)(n:Nat)(h:decDigits n=ds++[dgt (n%10)]):(⟨ds.toArray⟩:ByteArray)++⟨#[dgt (n%10)]⟩=⟨(decDigits n).toArray⟩:=by
 rw[h];apply ByteArray.ext;apply Array.toList_inj.1;simp[ByteArray.data_append]
end Go.Proofs.YtlmlamcoeegkbaaGreat.NumPlain
namespace Go.Proofs.YtlmlamcoeegkbaaGreat.NumD
open Go.RowKit Go.Lib NumPlain
theorem one_byte (x:Nat)(hx:x<10)(g:Nat)(w':World)(h:w'.cell? ⟨g,0,none⟩=some (.int .u8 (48+(x:Int)))):
  (convert 22 9 (.slice (some ⟨g,0,none⟩) 1 1)).run Tryz.prog w'= .ok (.string ⟨#[dgt x]⟩) w':=by
 refine run_convert_bytes_back (P:=Tryz.prog) w' 22 9 5 ⟨g,0,none⟩ 1 [dgt x] Tryz.underlying22 Tryz.underlying5 Tryz.underlying9 ?_;intro j hj;have hj0:j=0:=by simp at hj;omega
 subst hj0;rw[show(Addr.add ⟨g,0,none⟩ 0)=⟨g,0,none⟩ by simp[Addr.add],h];simp[dgt];omega
attribute [local go_sem ↓] Go.wp_at_zero Go.wp_at_succ
theorem dec_any (n:Nat):∀(w:World),n≤1000000000→
  Calls Tryz.prog 239 #[.int .i64 n] w fun e w'=>e= .returned (.string ⟨(decDigits n).toArray⟩)∧Below w.heap.size w w':=by
 induction n using Nat.strongRecOn with
 |ind n ih=>
  intro w hn;by_cases h10:n<10
  ·have hob:=one_byte n (by omega);have HD:=hid (dec_small n h10);clear ih;go_enter Tryz.func239,Tryz.ntmps239;go_wp2_with fail;go_ret;exact⟨zq38 (fun l:List UInt8=>Ending.returned (Value.string ⟨l.toArray⟩)) HD.out.symm,zqB.alloc zqN _⟩
  ·have hob:=one_byte (n%10) (by omega);rw[show((n%10:Nat):Int)=(n:Int)%10 by omega]at hob;have HD:=hid (dec_big n h10);have ih':=fun w=>ih (n/10) (by omega) w (by omega);rw[show((n/10:Nat):Int)=(n:Int)/10 by omega]at ih';have IH:=hid ih';have hlen:(decDigits (n/10)).length≤10:=dec_len (n/10) 9 (by omega);clear ih ih';generalize hds:decDigits (n/10)=ds at IH HD hlen;have q1:IntKind.i64.wrap ((n:Int)/10)=(n:Int)/10:=zq6 _ (by omega);have q2:(n:Int).tmod 10=(n:Int)%10:=by rw[zq134 (by omega)]
   have q3:IntKind.i64.wrap (48+(n:Int)%10)=48+(n:Int)%10:=zq6 _ (by omega);have q4:IntKind.u8.wrap (48+(n:Int)%10)=48+(n:Int)%10:=by rw[IntKind.wrap_u8'];omega
   go_enter Tryz.func239,Tryz.ntmps239;go_upto_region 3 with fail;go_region_with (first|(go_at_call 239;refine(IH.out _).mono ?_;rintro e w1 ⟨rfl,hb1⟩;obtain⟨hc1,hf1⟩:=bcell hb1));all_goals
    go_wp2_with fail;go_ret;refine⟨zq38 (fun l:ByteArray=>Ending.returned (Value.string l)) (dec_app ds n HD.out),?_⟩;first
     |exact(zqB.drew.trans hb1).alloc hb1.size _
     |exact(zqB.alloc zqN _).drew.trans (hb1.mono (by simp))
end Go.Proofs.YtlmlamcoeegkbaaGreat.NumD
namespace Go.Proofs.YtlmlamcoeegkbaaGreat.DwL
open Go.RowKit Go.Proofs.YtlmlamcoeegkbaaGreat Tow Val CyA CyB CyC DwT DwB DwP
def ValR (w:World)(e:Ending)(w':World):Prop:=∃n:Int,e= .returned (.int .i64 n)∧w'=w
theorem value_any (s:ByteArray)(w:World):Calls Tryz.prog 236 #[.string s] w (ValR w):=by
 go_enter Tryz.func236,Tryz.ntmps236;go_upto_region 1 with fail;go_cut [22] (fun v W=>(∃b,v= .bool b∧(b=false→s.size≤6))∧W=w);case first=>
  by_cases h0:s.size=0
  ·have hz:((s.size:Int)==0)=true:=by rw[h0];rfl
   go_wp2_with fail;go_meet;exact⟨⟨_,rfl,fun h=>by omega⟩,rfl⟩
  ·have hz:((s.size:Int)==0)=false:=zq79.2 (by omega);by_cases h6:6<s.size
   ·have h6i:(6:Int)<(s.size:Int):=by omega
    go_wp2_with fail;go_meet;exact⟨⟨_,rfl,fun h=>by cases h⟩,rfl⟩
   ·have h6i:¬(6:Int)<(s.size:Int):=by omega
    by_cases h1:1<s.size
    ·have h1i:(1:Int)<(s.size:Int):=by omega
     go_wp2_with fail;go_meet;exact⟨⟨_,rfl,fun h=>by omega⟩,rfl⟩
    ·have h1i:¬(1:Int)<(s.size:Int):=by omega
     go_wp2_with fail;go_meet;exact⟨⟨_,rfl,fun h=>by omega⟩,rfl⟩
 case rest=>
  obtain⟨⟨b,rfl,hb6⟩,rfl⟩:=hcut;cases b with
  |true=>
   go_wp2_with fail;go_ret;exact⟨_,rfl,rfl⟩
  |false=>
   have hs6:=hb6 rfl;clear hb6;go_wp2_with fail;go_loopw [3,4] (fun nv iv wr=>∃(n:Int) (i:Nat),i≤s.size∧nv= .int .i64 n∧iv= .int .i64 (i:Int)∧wr=wc) (fun _ iv _=>s.size-(intOf iv).toNat);case atStart=>exact⟨0,0,zq4 _,rfl,rfl,rfl⟩
   case round=>
    obtain⟨n,i,hi,rfl,rfl,rfl⟩:=hrel;by_cases hlt:i<s.size
    ·have hki:(i:Int)<(s.size:Int):=by omega
     have hki0:(0:Int)≤(i:Int):=by omega
     go_wp2_with fail;all_goals first
      |(go_ret
        exact⟨_,rfl,rfl⟩)
      |(go_roundw
        case rel=>exact⟨_,i+1,by omega,rfl,by go_num,trivial⟩
        case measure=>simp[intOf];omega)
    ·obtain rfl:i=s.size:=by omega
     go_wp2_with fail;go_ret;exact⟨_,rfl,rfl⟩
def ParR (k n:Nat)(w:World)(e:Ending)(w':World):Prop:=∃(l:List Int) (a:Option Addr) (c:Nat) (b:Bool),e= .returned (.tuple #[.slice a l.length c,.bool b])∧w'.ownsRow w.heap.size 2 1 (.slice a l.length c) l.length (vals l)∧(∀x∈l,(1≤x∧x≤(k:Int))∨x≤ -1)∧l.length≤n∧Below w.heap.size w w'
theorem parnone {k n:Nat}{w w':World}{b:Bool}(h:Below w.heap.size w w'):ParR k n w (.returned (.tuple #[.slice none 0 0,.bool b])) w':=⟨[],none,0,b,rfl,zq56 _ _ _ _,fun x h=>by simp at h,zq4 _,h⟩
theorem in_any (x lo hi:Int)(w:World):Calls Tryz.prog 180 #[.int .i64 x,.int .i64 lo,.int .i64 hi] w fun e w'=>∃b:Bool,(b=true→lo≤x∧x≤hi)∧e= .returned (.bool b)∧w'=w:=by
 by_cases h:lo≤x∧x≤hi
 ·refine(in_T x lo hi h.1 h.2 w).mono ?_;rintro e w' ⟨rfl,rfl⟩;exact⟨true,fun _=>h,rfl,rfl⟩
 ·refine(in_F x lo hi h w).mono ?_;rintro e w' ⟨rfl,rfl⟩;exact⟨false,fun h=>Bool.noConfusion h,rfl,rfl⟩
def LsW (P:Int→Prop)(B m:Nat)(w:World)(v:Value)(n:Nat):Prop:=∃l:List Int,l.length=n∧w.ownsRow B 2 1 v n (vals l)∧(∀x∈l,P x)∧n≤m
theorem LsW.nil {P:Int→Prop}{B m:Nat}(w:World)(h:B≤w.heap.size):LsW P B m (w.alloc (.cells #[] 2)) (.slice (some ⟨w.heap.size,0,none⟩) 0 0) 0:=
 ⟨[],rfl,zq47 (e:=2) (size:=1) w #[] 0 h (zq4 _) rfl,fun x h=>by simp at h,zq4 _⟩
theorem LsW.push {P:Int→Prop}{B m n:Nat}{w':World}{v':Value}{l:List Int}{x:Int}(hl:l.length=n)(hp:∀y∈l,P y)(hx:P x)(hm:n+1≤m)(h:w'.ownsRow B 2 1 v' (n+1) (vals l++[.int .i64 x])):LsW P B m w' v' (n+1):=
 ⟨l++[x],by simp[hl],by simpa[vals]using h,fun y hy=>by
  rcases zq68.1 hy with h|h
  ·exact hp y h
  ·rw[zq54.1 h];exact hx,hm⟩
def PX6 (k:Nat)(x:Int):Prop:=(1≤x∧x≤(k:Int))∨x≤ -1
theorem parse_any (k:Nat)(hk:k≤100)(s:ByteArray)(hs:s.size≤1000)(w:World):
  Calls Tryz.prog 237 #[.int .i64 (k:Int),.string s] w (ParR k s.size w):=by
 obtain⟨i0,hi0,hz0,hz1,hz2⟩:=zq41 infoI;cases ht:(s.toList==[49])with
 |true=>
  have HR1:=hid (show ParR k s.size w (.returned (.tuple #[.slice (some ⟨w.heap.size,0,none⟩) 0 0,.bool true])) (w.alloc (.cells #[] 2)) from
   ⟨[],some ⟨w.heap.size,0,none⟩,0,true,rfl,zq47 (e:=2) (size:=1) w #[] 0 zqN (zq4 _) rfl,fun x h=>by simp at h,zq4 _,zqB.alloc zqN _⟩)
  go_enter Tryz.func237,Tryz.ntmps237;go_wp2_with fail;exact zq12 (v:=.tuple #[.slice (some ⟨w.heap.size,0,none⟩) 0 0,.bool true]) (by simp[results,Tryz.results237,go_sem]) rfl HR1.out
 |false=>
  have HL0:=hid (LsW.nil (P:=PX6 k) (m:=s.size) w zqN);go_enter Tryz.func237,Tryz.ntmps237;go_wp2_with fail;go_loopw [6,7] (fun ov iv wr=>∃(i n:Nat) (a:Option Addr) (c:Nat),i≤s.size∧n≤i∧iv= .int .i64 (i:Int)∧ov= .slice a n c∧Hid (LsW (PX6 k) w.heap.size s.size wr (.slice a n c) n)∧Hid (Below w.heap.size w wr)) (fun _ iv _=>s.size-(intOf iv).toNat);case atStart=>exact⟨0,0,_,_,zq4 _,zq1 _,rfl,rfl,HL0,hid (zqB.alloc zqN _)⟩
  case round=>
   clear HL0;obtain⟨i,n,a,c,hi,hni,rfl,rfl,hL,hB⟩:=hrel;by_cases hlt:i<s.size
   ·have hki:(i:Int)<(s.size:Int):=by omega
    have hki0:(0:Int)≤(i:Int):=by omega
    have hz8:s[i].toNat<256:=s[i].toNat_lt;obtain⟨y,hy⟩:∃y:Nat,s[i].toNat=y:=⟨_,rfl⟩;rw[hy]at hz8;have hw1:IntKind.i64.wrap ((y:Int)-97)=(y:Int)-97:=zq6 _ (by omega);have hw2:IntKind.i64.wrap ((y:Int)-97+1)=(y:Int)-97+1:=zq6 _ (by omega);have hw3:IntKind.i64.wrap ((y:Int)-65)=(y:Int)-65:=zq6 _ (by omega);have hw4:IntKind.i64.wrap ((y:Int)-65+1)=(y:Int)-65+1:=zq6 _ (by omega);have hw5:IntKind.i64.wrap (-((y:Int)-65+1))= -((y:Int)-65+1):=zq6 _ (by omega);have hw6:IntKind.i64.wrap (y:Int)=(y:Int):=zq6 _ (by omega);go_upto_region 7 with fail;go_cut [8,9] (fun u v W=>u= .int .i64 ((y:Int)-97+1)∧v= .int .i64 ((y:Int)-65+1)∧W=wr.drew);case first=>
     go_region_law (fail);all_goals
      go_wp2_with fail;go_meet;exact⟨rfl,rfl,rfl⟩
    case rest=>
     obtain⟨rfl,rfl,rfl⟩:=hcut;obtain⟨l,h1,h2,h3,h4⟩:=hL.out;have HI1:=hid (fun W=>in_any ((y:Int)-97+1) 1 (k:Int) W);have HI2:=hid (fun W=>in_any ((y:Int)-65+1) 1 (k:Int) W);go_wp2_with fail;refine(HI1.out _).mono ?_;rintro e w2 ⟨b1,hb1,rfl,rfl⟩;cases b1 with
     |true=>
      have HH1:=hid (hb1 rfl);clear hb1;have a1:=ownsRow_keep h2 (S:=Any) (((Keep.refl _ wr).drew).alloc (.cells #[.int .i64 ((y:Int)-97+1)] 2)) (fun _ _=>trivial);have HP3:=hid h3;have hBs:=hB.out.size;clear h2 h3 hL;go_wp2_with (at_builtin;(refine zq52 _ rfl _ _ 24 rfl w.heap.size 2 i0 (.int .i64 0) 1 8 Tryz.underlying24 hi0 hz0 hz1 hz2 rfl (by decide) _ _ _ rfl a1 ⟨wr.heap.size,0,none⟩ 1 1 [.int .i64 ((y:Int)-97+1)] rfl rfl (zq50 (cs:= #[.int .i64 ((y:Int)-97+1)]) (t:=2) (fr:=(0,0)) (zq17 wr.drew _)) (by simp[Value.oneCell']) (by decide) (by unfold maxLen;omega) (by omega) (by simp;omega) _ rfl ?_));intro g2 cap2 w6 hown2 hgrow2 hat2 hlt2;have HB6:=hid (((hB.out.drew).alloc hBs (.cells #[.int .i64 ((y:Int)-97+1)] 2)).grown hgrow2 (by simp;omega) (fun g hg=>(zq8 a1 g hg).1));have HL6:=hid (LsW.push (m:=s.size) h1 HP3.out (show PX6 k ((y:Int)-97+1) from Or.inl HH1.out) (by omega) hown2);clear a1 hown2 hgrow2 hat2 hlt2 hB hBs;go_wp2_with fail;go_roundw;case rel=>exact⟨i+1,n+1,_,cap2,by omega,by omega,by go_num,rfl,HL6,HB6⟩
      case measure=>simp[intOf];omega
     |false=>
      clear hb1;go_wp2_with fail;refine(HI2.out _).mono ?_;rintro e w2 ⟨b2,hb2,rfl,rfl⟩;cases b2 with
      |true=>
       have HH2:=hid (hb2 rfl);clear hb2;have a1:=ownsRow_keep h2 (S:=Any) (((Keep.refl _ wr).drew).alloc (.cells #[.int .i64 (-((y:Int)-65+1))] 2)) (fun _ _=>trivial);have HP3:=hid h3;have hBs:=hB.out.size;clear h2 h3 hL;go_wp2_with (at_builtin;(refine zq52 _ rfl _ _ 24 rfl w.heap.size 2 i0 (.int .i64 0) 1 8 Tryz.underlying24 hi0 hz0 hz1 hz2 rfl (by decide) _ _ _ rfl a1 ⟨wr.heap.size,0,none⟩ 1 1 [.int .i64 (-((y:Int)-65+1))] rfl rfl (zq50 (cs:= #[.int .i64 (-((y:Int)-65+1))]) (t:=2) (fr:=(0,0)) (zq17 wr.drew _)) (by simp[Value.oneCell']) (by decide) (by unfold maxLen;omega) (by omega) (by simp;omega) _ rfl ?_));intro g2 cap2 w6 hown2 hgrow2 hat2 hlt2;have HB6:=hid (((hB.out.drew).alloc hBs (.cells #[.int .i64 (-((y:Int)-65+1))] 2)).grown hgrow2 (by simp;omega) (fun g hg=>(zq8 a1 g hg).1));have HL6:=hid (LsW.push (m:=s.size) h1 HP3.out (show PX6 k (-((y:Int)-65+1)) from Or.inr (by have:=HH2.out;omega)) (by omega) hown2);clear a1 hown2 hgrow2 hat2 hlt2 hB hBs;go_wp2_with fail;go_roundw;case rel=>exact⟨i+1,n+1,_,cap2,by omega,by omega,by go_num,rfl,HL6,HB6⟩
       case measure=>simp[intOf];omega
      |false=>
       have HN:=hid (parnone (k:=k) (n:=s.size) (b:=false) hB.out.drew);clear h2 h3 hL hB hb2;go_wp2_with fail;exact zq12 (v:=.tuple #[.slice none 0 0,.bool false]) (by simp[results,Tryz.results237,go_sem]) rfl HN.out
   ·obtain rfl:i=s.size:=by omega
    obtain⟨l,h1,h2,h3,h4⟩:=hL.out;subst h1;have HN:=hid (fun b=>show ParR k s.size w (.returned (.tuple #[.slice a l.length c,.bool b])) wr from⟨l,a,c,b,rfl,h2,h3,h4,hB.out⟩);clear h2 h3 hL hB;go_wp2_with fail;exact zq12 (v:=.tuple #[.slice a l.length c,.bool (decide ((0:Int)<(l.length:Int)))]) (by simp[results,Tryz.results237,go_sem]) rfl (HN.out _)
def VecR (n:Nat)(w:World)(e:Ending)(w':World):Prop:=(∃g c,e= .returned (.tuple #[.slice (some ⟨g,0,none⟩) n c,.bool true])∧R1 w.heap.size w' n (.slice (some ⟨g,0,none⟩) n c)∧Below w.heap.size w w')∨(e= .returned (.tuple #[.slice none 0 0,.bool false])∧Below w.heap.size w w')
theorem vector_any (n:Nat)(hn:n≤100)(a:Option Addr)(m c:Nat)(l:List Int)(hl:l.length=m)(w:World)(hv:SlI Any w (.slice a m c) l)(hm:m≤1000)(hp:∀x∈l,(1≤x∧x≤(n:Int))∨x≤ -1):
  Calls Tryz.prog 238 #[.int .i64 (n:Int),.slice a m c] w (VecR n w):=by
 have HV:=hid hv;have HP:=hid hp;have HL:=hid hl;have hmk:=mkE n (by omega) w;obtain⟨w1,hw1⟩:∃w1,w1=w.alloc (.cells (madeCells #[.int .i64 0] n) 2):=⟨_,rfl⟩;rw[←hw1]at hmk;obtain⟨g,hg⟩:∃g,w.heap.size=g:=⟨_,rfl⟩;have H1:=hid (show R1 w.heap.size w1 n (.slice (some ⟨g,0,none⟩) n n) from⟨List.replicate n 0,by simp,by
  have h:=Own.made (B:=w.heap.size) w n zqN (by unfold maxLen;omega);unfold Own at h;rw[zq29]at h;rw[hw1,←hg];exact h⟩)
 have HB1:=hid (show Below w.heap.size w w1 by rw[hw1];exact zqB.alloc zqN _);rw[hg]at hmk;have HG:=hid hg;clear hv hp hl hw1 hg;go_enter Tryz.func238,Tryz.ntmps238;go_wp2_with fail;go_loopw [7] (fun iv wr=>∃i:Nat,i≤m∧iv= .int .i64 (i:Int)∧Hid (R1 w.heap.size wr n (.slice (some ⟨g,0,none⟩) n n))∧Hid (Below w.heap.size w wr)) (fun iv _=>m-(intOf iv).toNat);case atStart=>exact⟨0,zq4 _,rfl,H1,HB1⟩
 case round=>
  clear H1 HB1;obtain⟨i,hi,rfl,hR,hB⟩:=hrel;by_cases hlt:i<m
  ·have hki:(i:Int)<(m:Int):=by omega
   have hki0:(0:Int)≤(i:Int):=by omega
   obtain⟨x,hx⟩:∃x,l[i]?=some x:=⟨_,zq0 (by rw[HL.out];exact hlt)⟩;have hpx:=HP.out x (zq5 hx);obtain⟨b,o,u,rfl,_,hbl,hcu,rfl⟩:=slg_get (HV.out.keep (Keep.of_below hB.out)) hx;have hi6:i≤1000:=by omega
   have HX:=hid hx;clear hx;by_cases hneg:x<0
   ·have HN:=hid (show VecR n w (.returned (.tuple #[.slice none 0 0,.bool false])) wr from .inr ⟨rfl,hB.out⟩);clear hpx hR hB;go_wp2_with fail;exact zq12 (v:=.tuple #[.slice none 0 0,.bool false]) (by simp[results,Tryz.results238,go_sem]) rfl HN.out
   ·obtain⟨y,hy⟩:∃y:Nat,x=(y:Int)+1:=⟨(x-1).toNat,by omega⟩;subst hy;have hyn:y<n:=by omega
    have hyi:(y:Int)<(n:Int):=by omega
    have hw1:IntKind.i64.wrap ((y:Int)+1-1)=(y:Int):=by rw[zq6 _ (by omega)];omega
    have hw2:IntKind.i64.wrap (y:Int)=(y:Int):=zq6 _ (by omega);have hnn:¬(y:Int)+1<0:=by omega
    obtain⟨g',cur,x0,hgg,hc,hfz,hhg,hgB,hgl⟩:=r1at hR.out hyn;obtain rfl:g=g':=by simpa using hgg
    have hbg:¬b=g:=by
     obtain⟨b',o',u',e,_,hbl',_⟩:=slg_get HV.out HX.out;simp only[zq42,zq96]at e;omega
    have HR2:=hid (fun t:Int=>(Ty.set1 (B:=w.heap.size) (b:=g) (i:=y) hhg t).one _ _ hR.out);have HB2:=hid (fun t:Int=>hB.out.setCell (p:=⟨g,y,none⟩) hgB (.int .i64 t));have HTR:=hid (fun(W:World) (h:R1 w.heap.size W n (.slice (some ⟨g,0,none⟩) n n))=>(show R1 w.heap.size W.drew n (.slice (some ⟨g,0,none⟩) n n) from(Ty.keep (S:=Any) (zqK.drew) fun _ _=>trivial).one _ _ h));clear hgg hhg hpx hneg hR hB;go_upto_region 7 with fail;go_region_law (fail);all_goals
     go_wp2_with fail;go_roundw;case rel=>exact⟨i+1,by omega,by go_num,hid (by first|exact HR2.out _|exact HTR.out _ (HR2.out _)),hid (by first|exact HB2.out _|exact(HB2.out _).drew)⟩
     case measure=>simp[intOf];omega
  ·obtain rfl:m=i:=by omega
   have hnl:¬(m:Int)<(m:Int):=by omega
   have HF:=hid (show VecR n w (.returned (.tuple #[.slice (some ⟨g,0,none⟩) n n,.bool true])) wr from .inl ⟨g,n,rfl,hR.out,hB.out⟩);clear hR hB;go_wp2_with fail;exact zq12 (v:=.tuple #[.slice (some ⟨g,0,none⟩) n n,.bool true]) (by simp[results,Tryz.results238,go_sem]) rfl HF.out
end Go.Proofs.YtlmlamcoeegkbaaGreat.DwL
namespace Go.Proofs.YtlmlamcoeegkbaaGreat.DwM
open Go.RowKit Go.Proofs.YtlmlamcoeegkbaaGreat Tow Val CyA CyB CyC DwT DwB DwP DwL
theorem infoB:(Tryz.prog.info? 5).map (fun i=>(i.zero,i.size,i.bytes))=some (some (.int .u8 0),1,1):=by kernel_rfl
def bys (l:List UInt8):List Value:=l.map fun b=>.int .u8 (b.toNat:Int)
theorem u8_of (z:Int):∃ub:UInt8,z%256=(ub.toNat:Int):=by
 refine⟨UInt8.ofNat (z%256).toNat,?_⟩;have h1:0≤z%256:=Int.emod_nonneg _ (by decide);have h2:z%256<256:=Int.emod_lt_of_pos _ (by decide);simp;omega
def BoolR (w:World)(e:Ending)(w':World):Prop:=∃b:Bool,e= .returned (.bool b)∧w'=w
theorem zero_r (a:Option Addr)(n c:Nat)(l:List Int)(hl:l.length=n)(hn:n≤1000)(w:World)(hv:SlI Any w (.slice a n c) l):
  Calls Tryz.prog 240 #[.slice a n c] w (BoolR w):=by
 have HV:=hid hv;have HL:=hid hl;clear hv hl;go_enter Tryz.func240,Tryz.ntmps240;go_wp2_with fail;go_loopw [3] (fun iv wr=>∃i:Nat,i≤n∧iv= .int .i64 (i:Int)∧wr=w) (fun iv _=>n-(intOf iv).toNat);case atStart=>exact⟨0,zq4 _,rfl,rfl⟩
 case round=>
  obtain⟨i,hi,rfl,rfl⟩:=hrel;by_cases hlt:i<n
  ·have hki:(i:Int)<(n:Int):=by omega
   have hki0:(0:Int)≤(i:Int):=by omega
   obtain⟨x,hx⟩:∃x,l[i]?=some x:=⟨_,zq0 (by rw[HL.out];exact hlt)⟩;obtain⟨b,o,u,rfl,_,hbl,hcu,rfl⟩:=slg_get HV.out hx;clear hx;cases hx0:(x==0)with
   |true=>
    go_wp2_with fail;go_roundw;case rel=>exact⟨i+1,by omega,by go_num,trivial⟩
    case measure=>simp[intOf];omega
   |false=>
    go_wp2_with fail;go_ret;exact⟨_,rfl,rfl⟩
  ·obtain rfl:n=i:=by omega
   have hnl:¬(n:Int)<(n:Int):=by omega
   go_wp2_with fail;go_ret;exact⟨_,rfl,rfl⟩
def WordR (m:Nat)(w:World)(e:Ending)(w':World):Prop:=∃n a c,e= .returned (.slice a n c)∧LsW (fun _=>True) w.heap.size m w' (.slice a n c) n∧Below w.heap.size w w'
theorem word_any (a:Option Addr)(n c:Nat)(x:List Nat)(hl:x.length=n)(hn:n≤6)(h7:∀q∈x,q≤7)(w:World)(hv:SlI Any w (.slice a n c) (ints x)):
  Calls Tryz.prog 243 #[.slice a n c] w (WordR 42 w):=by
 obtain⟨i0,hi0,hz0,hz1,hz2⟩:=zq41 infoI;have HV:=hid hv;have HL:=hid hl;have H7:=hid h7;have HL0:=hid (LsW.nil (P:=fun _=>True) (m:=42) w zqN);clear hv hl h7;go_enter Tryz.func243,Tryz.ntmps243;go_wp2_with fail;go_loopw [3,4] (fun ov iv wr=>∃(i k:Nat) (a:Option Addr) (c:Nat),i≤n∧k≤7*i∧iv= .int .i64 (i:Int)∧ov= .slice a k c∧Hid (LsW (fun _=>True) w.heap.size 42 wr (.slice a k c) k)∧Hid (Below w.heap.size w wr)) (fun _ iv _=>n-(intOf iv).toNat);case atStart=>exact⟨0,0,_,_,zq4 _,zq1 _,rfl,rfl,HL0,hid (zqB.alloc zqN _)⟩
 case round=>
  clear HL0;obtain⟨i,k,aw,cw,hi,hk,rfl,rfl,hL,hB⟩:=hrel;by_cases hlt:i<n
  ·have hki:(i:Int)<(n:Int):=by omega
   have hki0:(0:Int)≤(i:Int):=by omega
   have HI:=hid (And.intro hlt hk);obtain⟨q,hq⟩:∃q,x[i]?=some q:=⟨_,zq0 (by rw[HL.out];exact hlt)⟩;have hq7:=H7.out q (zq5 hq);have HQ:=hid (show(ints x)[i]?=some (q:Int) by simp[ints,hq]);clear hq hlt hk;have hi6:i≤100:=by omega
   go_wp2_with fail;go_loopw [3,5] (fun ov tv wr=>∃(t k':Nat) (a:Option Addr) (c:Nat),t≤q∧k'=k+t∧tv= .int .i64 (t:Int)∧ov= .slice a k' c∧Hid (LsW (fun _=>True) w.heap.size 42 wr (.slice a k' c) k')∧Hid (Below w.heap.size w wr)) (fun _ tv _=>q-(intOf tv).toNat);case atStart=>exact⟨0,k,aw,cw,zq4 _,rfl,rfl,rfl,hL,hB⟩
   case round=>
    clear hL hB;obtain⟨t,k',aw,cw,ht,hkt,rfl,rfl,hL,hB⟩:=hrel;have HKT:=hid hkt;clear hkt;obtain⟨b,o,u,rfl,_,hbl,hcu,rfl⟩:=slg_get (HV.out.keep (Keep.of_below hB.out)) HQ.out;by_cases htq:t<q
    ·have htqi:(t:Int)<(q:Int):=by omega
     obtain⟨l,h1,h2,h3,h4⟩:=hL.out;have hk42:k'+1≤42:=by have:=HKT.out;have:=HI.out;omega
     have a1:=ownsRow_keep h2 (S:=Any) ((Keep.refl _ wr).alloc (.cells #[.int .i64 ((i:Int)+1)] 2)) (fun _ _=>trivial);have hBs:=hB.out.size;have H1:=hid h1;clear h1 h2 h3 hL;go_wp2_with (at_builtin;(refine zq52 _ rfl _ _ 24 rfl w.heap.size 2 i0 (.int .i64 0) 1 8 Tryz.underlying24 hi0 hz0 hz1 hz2 rfl (by decide) _ _ _ rfl a1 ⟨wr.heap.size,0,none⟩ 1 1 [.int .i64 ((i:Int)+1)] rfl rfl (zq50 (cs:= #[.int .i64 ((i:Int)+1)]) (t:=2) (fr:=(0,0)) (zq17 wr _)) (by simp[Value.oneCell']) (by decide) (by unfold maxLen;omega) (by omega) (by simp;omega) _ rfl ?_));intro g2 cap2 w6 hown2 hgrow2 hat2 hlt2;have HB6:=hid ((hB.out.alloc hBs (.cells #[.int .i64 ((i:Int)+1)] 2)).grown hgrow2 (by simp;omega) (fun g hg=>(zq8 a1 g hg).1));have HL6:=hid (LsW.push (P:=fun _=>True) (m:=42) H1.out (fun _ _=>trivial) trivial hk42 hown2);clear a1 hown2 hgrow2 hat2 hlt2 hB hBs;go_wp2_with fail;go_roundw;case rel=>exact⟨t+1,k'+1,_,cap2,by omega,by have:=HKT.out;omega,by go_num,rfl,HL6,HB6⟩
     case measure=>simp[intOf];omega
    ·obtain rfl:q=t:=by omega
     have htqi:¬(q:Int)<(q:Int):=by omega
     go_wp2_with fail;go_roundw;case rel=>exact⟨i+1,k',aw,cw,by have:=HI.out;omega,by have:=HKT.out;have:=HI.out;omega,by go_num,rfl,hL,hB⟩
     case measure=>have:=HI.out;simp[intOf];omega
  ·obtain rfl:n=i:=by omega
   have hnl:¬(n:Int)<(n:Int):=by omega
   have HF:=hid (show WordR 42 w (.returned (.slice aw k cw)) wr from⟨k,aw,cw,rfl,hL.out,hB.out⟩);clear hL hB;go_wp2_with fail;go_ret;exact HF.out
def StrR (m:Nat)(w:World)(e:Ending)(w':World):Prop:=∃t:ByteArray,e= .returned (.string t)∧t.size≤m∧Below w.heap.size w w'
theorem text6_any (a:Option Addr)(n c:Nat)(l:List Int)(hl:l.length=n)(hn:n≤1000)(w:World)(hv:SlI Any w (.slice a n c) l):
  Calls Tryz.prog 242 #[.slice a n c] w (StrR (n+1) w):=by
 obtain⟨i8,hi8,h80,h81,h82⟩:=zq41 infoB;have HV:=hid hv;have HL:=hid hl;have H1:=hid (show StrR (n+1) w (.returned (.string ⟨#[49]⟩)) w from⟨_,rfl,by show 1≤_;omega,zq3 _ _⟩);have H0:=hid (show(w.alloc (.cells #[] 5)).ownsRow w.heap.size 5 1 (.slice (some ⟨w.heap.size,0,none⟩) 0 0) 0 (bys []) from zq47 (base:=w.heap.size) (e:=5) (size:=1) w #[] 0 zqN (zq4 _) rfl);have HCV:=hid (fun(W:World) (g c:Nat) (L:List UInt8) (h:W.ownsRow w.heap.size 5 1 (.slice (some ⟨g,0,none⟩) L.length c) L.length (bys L))=>run_convert_bytes_back (P:=Tryz.prog) W 22 9 5 ⟨g,0,none⟩ c L Tryz.underlying22 Tryz.underlying5 Tryz.underlying9 (fun j hj=>h.cells (g:=g) rfl j _ (by simp[bys,hj])));clear hv hl;by_cases hn0:n=0
 ·have hz:((n:Int)==0)=true:=by rw[hn0];rfl
  clear hn0;go_enter Tryz.func242,Tryz.ntmps242;go_wp2_with fail;go_ret;exact H1.out
 have hz:((n:Int)==0)=false:=zq79.2 (by omega);go_enter Tryz.func242,Tryz.ntmps242;go_wp2_with fail;go_loopw [3,4] (fun ov iv wr=>∃(i:Nat) (L:List UInt8) (g c:Nat),i≤n∧iv= .int .i64 (i:Int)∧L.length=i∧ov= .slice (some ⟨g,0,none⟩) i c∧Hid (wr.ownsRow w.heap.size 5 1 (.slice (some ⟨g,0,none⟩) i c) i (bys L))∧Hid (Below w.heap.size w wr)) (fun _ iv _=>n-(intOf iv).toNat);case atStart=>exact⟨0,[],_,_,zq4 _,rfl,rfl,rfl,H0,hid (zqB.alloc zqN _)⟩
 case round=>
  clear H0;obtain⟨i,L,g,cg,hi,rfl,hLL,rfl,hO,hB⟩:=hrel;have HLL:=hid hLL;by_cases hlt:i<n
  ·have hki:(i:Int)<(n:Int):=by omega
   have hki0:(0:Int)≤(i:Int):=by omega
   obtain⟨x,hx⟩:∃x,l[i]?=some x:=⟨_,zq0 (by rw[HL.out];exact hlt)⟩;obtain⟨b,o,u,rfl,_,hbl,hcu,rfl⟩:=slg_get (HV.out.keep (Keep.of_below hB.out)) hx;clear hx;by_cases hx0:0<x
   ·clear HL;obtain⟨ub,hub⟩:∃ub:UInt8,(wrap64 (wrap64 (97+x)-1))%256=(ub.toNat:Int):=u8_of _;have a1:=ownsRow_keep hO.out (S:=Any) ((Keep.refl _ wr).alloc (.cells #[.int .u8 (ub.toNat:Int)] 5)) (fun _ _=>trivial);have hBs:=hB.out.size;clear hO;go_wp2_with (at_builtin;(refine zq52 _ rfl _ _ 22 rfl w.heap.size 5 i8 (.int .u8 0) 1 1 Tryz.underlying22 hi8 h80 h81 h82 rfl (by decide) _ _ _ rfl a1 ⟨wr.heap.size,0,none⟩ 1 1 [.int .u8 (ub.toNat:Int)] rfl rfl (zq50 (cs:= #[.int .u8 (ub.toNat:Int)]) (t:=5) (fr:=(0,0)) (zq17 wr _)) (by simp[Value.oneCell']) (by decide) (by unfold maxLen;omega) (by omega) (by simp;omega) _ rfl ?_));intro g2 cap2 w6 hown2 hgrow2 hat2 hlt2;have HB6:=hid ((hB.out.alloc hBs (.cells #[.int .u8 (ub.toNat:Int)] 5)).grown hgrow2 (by simp;omega) (fun g hg=>(zq8 a1 g hg).1));have HO6:=hid (show w6.ownsRow w.heap.size 5 1 (.slice (some ⟨g2,0,none⟩) (i+1) cap2) (i+1) (bys (L++[ub])) from by simpa[bys]using hown2);clear a1 hown2 hgrow2 hat2 hlt2 hB hBs hub;go_wp2_with fail;go_roundw;case rel=>exact⟨i+1,L++[ub],g2,cap2,by omega,by go_num,by simp;omega,rfl,HO6,HB6⟩
    case measure=>simp[intOf];omega
   ·clear HL;obtain⟨ub,hub⟩:∃ub:UInt8,(wrap64 (wrap64 (65-x)-1))%256=(ub.toNat:Int):=u8_of _;have a1:=ownsRow_keep hO.out (S:=Any) ((Keep.refl _ wr).alloc (.cells #[.int .u8 (ub.toNat:Int)] 5)) (fun _ _=>trivial);have hBs:=hB.out.size;clear hO;go_wp2_with (at_builtin;(refine zq52 _ rfl _ _ 22 rfl w.heap.size 5 i8 (.int .u8 0) 1 1 Tryz.underlying22 hi8 h80 h81 h82 rfl (by decide) _ _ _ rfl a1 ⟨wr.heap.size,0,none⟩ 1 1 [.int .u8 (ub.toNat:Int)] rfl rfl (zq50 (cs:= #[.int .u8 (ub.toNat:Int)]) (t:=5) (fr:=(0,0)) (zq17 wr _)) (by simp[Value.oneCell']) (by decide) (by unfold maxLen;omega) (by omega) (by simp;omega) _ rfl ?_));intro g2 cap2 w6 hown2 hgrow2 hat2 hlt2;have HB6:=hid ((hB.out.alloc hBs (.cells #[.int .u8 (ub.toNat:Int)] 5)).grown hgrow2 (by simp;omega) (fun g hg=>(zq8 a1 g hg).1));have HO6:=hid (show w6.ownsRow w.heap.size 5 1 (.slice (some ⟨g2,0,none⟩) (i+1) cap2) (i+1) (bys (L++[ub])) from by simpa[bys]using hown2);clear a1 hown2 hgrow2 hat2 hlt2 hB hBs hub;go_wp2_with fail;go_roundw;case rel=>exact⟨i+1,L++[ub],g2,cap2,by omega,by go_num,by simp;omega,rfl,HO6,HB6⟩
    case measure=>simp[intOf];omega
  ·obtain rfl:n=i:=by omega
   have hnl:¬(n:Int)<(n:Int):=by omega
   subst hLL;have hcv:=HCV.out _ _ _ _ hO.out;have HF:=hid (show StrR (L.length+1) w (.returned (.string ⟨L.toArray⟩)) wr from⟨_,rfl,by show L.toArray.size≤_;simp,hB.out⟩);clear hO hB;go_wp2_with fail;go_ret;exact HF.out
theorem letter_any (i:Nat)(hi:i≤100)(w:World):Calls Tryz.prog 241 #[.int .i64 (i:Int)] w (StrR 2 w):=by
 have hw1:IntKind.i64.wrap ((i:Int)+1)=(i:Int)+1:=zq6 _ (by omega);have HO:=hid (sl_own (l:=[(i:Int)+1]) (Own_lit (B:=0) w #[.int .i64 ((i:Int)+1)] [(i:Int)+1] (zq4 _) (by simp[maxLen]) rfl) rfl);have HC:=hid ((text6_any (some ⟨w.heap.size,0,none⟩) 1 1 [(i:Int)+1] rfl (by omega) _ HO.out).mono (R':=StrR 2 w) (by
  rintro e w' ⟨t,rfl,ht,hb⟩;exact⟨t,rfl,ht,(zqB.alloc zqN _).trans (hb.mono (by simp))⟩))
 go_enter Tryz.func241,Tryz.ntmps241;go_wp2_with fail;refine HC.out.mono ?_;rintro e w6 ⟨t,rfl,ht,hb⟩;have HF:=hid (show StrR 2 w (.returned (.string t)) w6 from⟨t,rfl,ht,hb⟩);clear hb ht;go_wp2_with fail;go_ret;exact HF.out
end Go.Proofs.YtlmlamcoeegkbaaGreat.DwM
namespace Go.Proofs.YtlmlamcoeegkbaaGreat.DwN
open Go.RowKit Go.Proofs.YtlmlamcoeegkbaaGreat Tow Val CyA CyB CyC DwT DwB DwP DwL DwM SplitPlain
theorem str_at {B n:Nat}{w:World}{v:Value}{L:List ByteArray}(h:w.ownsRow B 9 1 v n (L.map Value.string)){i:Nat}{t:ByteArray}(hi:L[i]?=some t):
  ∃g c,v= .slice (some ⟨g,0,none⟩) n c∧w.cell? ⟨g,i,none⟩=some (.string t)∧g<w.heap.size:=by
 rcases id h.2 with⟨h3,h4⟩|⟨g,cap,cur,h3,hB,hg,_⟩
 ·have h1:=h.1;have:=(zq2.1 hi).1;simp at h1;omega
 ·subst h3;exact⟨g,cap,rfl,by
   have h5:=h.cells (g:=g) rfl i (.string t) (by simp[hi]);rwa[show((⟨g,0,none⟩:Addr).add i)=⟨g,i,none⟩ by rw[Addr.add_lit,zq39]]at h5,(zq10.1 hg).1⟩
theorem spl_size (s:ByteArray)(b:UInt8):∀k,∀p∈(spl s b k).1,p.size≤s.size
 |0,p,h=>by simp[spl]at h
 |k+1,p,h=>by
  rw[spl]at h;split at h
  ·rcases zq68.1 h with h|h
   ·exact spl_size s b k p h
   ·rw[zq54.1 h];simp[ByteArray.size_extract];omega
  ·exact spl_size s b k p h
theorem parts_size (s:ByteArray)(b:UInt8):∀p∈parts s b,p.size≤s.size:=fun p h=>by
 rcases zq68.1 h with h|h
 ·exact spl_size s b _ p h
 ·rw[zq54.1 h];simp[ByteArray.size_extract]
theorem parts_len (s:ByteArray)(b:UInt8):1≤(parts s b).length∧(parts s b).length≤s.size+1:=by
 have:=spl_length s b s.size;unfold parts;simp;omega
def Parts (w:World)(e:Ending)(w':World)(s:ByteArray):Prop:=∃(v:Value) (L:List ByteArray) (n:Nat),e= .returned v∧L.length=n∧1≤n∧n≤s.size+1∧(∀p∈L,p.size≤s.size)∧w'.ownsRow w.heap.size 9 1 v n (L.map Value.string)∧Below w.heap.size w w'
theorem split_r (s:ByteArray)(b:UInt8)(z:Int)(hz:z=(b.toNat:Int))(hs:s.size≤1000)(w:World):Calls Tryz.prog 230 #[.string s,.int .u8 z] w fun e w'=>Parts w e w' s:=by
 subst hz;refine(Split.split_any s b w (by omega)).mono ?_;rintro e w' ⟨v,rfl,h,hb⟩;exact⟨v,parts s b,_,rfl,rfl,(parts_len s b).1,(parts_len s b).2,parts_size s b,h,hb⟩
def OrdR (w:World)(e:Ending)(w':World):Prop:=∃(n:Nat) (l:List Int) (a:Option Addr) (c:Nat) (b:Bool),e= .returned (.tuple #[.slice a n c,.bool b])∧l.length=n∧SlI Any w' (.slice a n c) l∧n≤6∧(∀x∈l,primeB x=true)∧Below w.heap.size w w'
theorem ord_nil {w w':World}{b:Bool}(h:Below w.heap.size w w'):OrdR w (.returned (.tuple #[.slice none 0 0,.bool b])) w':=
 ⟨0,[],none,0,b,rfl,rfl,⟨none,0,rfl,zq1 _,by simp[maxLen],fun _=>rfl,fun i x h=>by simp at h⟩,by omega,fun x h=>by simp at h,h⟩
theorem orders_any (s:ByteArray)(hs:s.size≤1000)(w:World):Calls Tryz.prog 231 #[.string s] w (OrdR w):=by
 obtain⟨i0,hi0,hz0,hz1,hz2⟩:=zq41 infoI;have HL0:=hid (LsW.nil (P:=fun x=>primeB x=true) (m:=6) w zqN);cases ht:(s.toList==[49])with
 |true=>
  have HR1:=hid (show OrdR w (.returned (.tuple #[.slice (some ⟨w.heap.size,0,none⟩) 0 0,.bool true])) (w.alloc (.cells #[] 2)) from
   ⟨0,[],_,0,true,rfl,rfl,sl_own (B:=w.heap.size) (zq47 (e:=2) (size:=1) w #[] 0 zqN (zq4 _) rfl) rfl,by omega,fun x h=>by simp at h,zqB.alloc zqN _⟩)
  go_enter Tryz.func231,Tryz.ntmps231;go_wp2_with fail;exact zq12 (v:=.tuple #[.slice (some ⟨w.heap.size,0,none⟩) 0 0,.bool true]) (by simp[results,Tryz.results231,go_sem]) rfl HR1.out
 |false=>
  have HSP:=hid (fun W=>split_r s 32 32 rfl hs W);go_enter Tryz.func231,Tryz.ntmps231;go_wp2_with fail;refine(HSP.out _).mono ?_;rintro e w2 ⟨v,L,n,rfl,hLn,hn1,hn2,hLs,hO,hb2⟩;have HOO:=hid (ownsRow_mono (B':=w.heap.size) hO (by simp));have HLN:=hid hLn;have HB2:=hid (((zq3 w.heap.size w).alloc zqN (.cells #[] 2)).trans (hb2.mono (by simp)));have HL2:=hid (show LsW (fun x=>primeB x=true) w.heap.size 6 w2 (.slice (some ⟨w.heap.size,0,none⟩) 0 0) 0 from by
   obtain⟨l,h1,h2,h3,h4⟩:=HL0.out;exact⟨l,h1,ownsRow_keep h2 (S:=Any) (Keep.of_below hb2) (fun _ _=>trivial),h3,h4⟩)
  obtain⟨av,cv,rfl⟩:=owns_form hO;have hn6:n≤1001:=by omega
  clear hO hLn hb2 HL0 HSP hLs;go_wp2_with fail;go_loopw [4,6] (fun ov iv wr=>∃(i:Nat) (a:Option Addr) (c:Nat),i≤n∧i≤6∧iv= .int .i64 (i:Int)∧ov= .slice a i c∧Hid (LsW (fun x=>primeB x=true) w.heap.size 6 wr (.slice a i c) i)∧Hid (wr.ownsRow w.heap.size 9 1 (.slice av n cv) n (L.map Value.string))∧Hid (Below w.heap.size w wr)) (fun _ iv _=>n-(intOf iv).toNat);case atStart=>exact⟨0,_,_,zq4 _,by omega,rfl,rfl,HL2,HOO,HB2⟩
  case round=>
   clear HL2 HOO HB2;obtain⟨i,a,c,hi,hi6,rfl,rfl,hL,hO,HBA⟩:=hrel;by_cases hlt:i<n
   ·have hki:(i:Int)<(n:Int):=by omega
    have hki0:(0:Int)≤(i:Int):=by omega
    obtain⟨t,hx⟩:∃t,L[i]?=some t:=⟨_,zq0 (by rw[HLN.out];exact hlt)⟩;obtain⟨g,c',he,hc1,hgl⟩:=str_at hO.out hx;obtain⟨rfl,rfl⟩:av=some ⟨g,0,none⟩∧cv=c':=by simpa using he
    have hc2:=hc1;have HVA:=hid (fun W=>value_any t W);clear hx he hc1;go_wp2_with fail;refine(HVA.out _).mono ?_;rintro e w3 ⟨x,rfl,rfl⟩;have HPA:=hid (fun W=>SpecV.prime_any x W);go_wp2_with fail;refine(HPA.out _).mono ?_;rintro e w4 ⟨rfl,rfl⟩;cases hpx:primeB x with
    |false=>
     have HN:=hid (ord_nil (b:=false) HBA.out);clear hL hO;go_wp2_with fail;exact zq12 (v:=.tuple #[.slice none 0 0,.bool false]) (by simp[results,Tryz.results231,go_sem]) rfl HN.out
    |true=>
     by_cases h6:6≤i
     ·have h6i:(6:Int)≤(i:Int):=by omega
      have HN:=hid (ord_nil (b:=false) HBA.out);clear hL hO;go_wp2_with fail;exact zq12 (v:=.tuple #[.slice none 0 0,.bool false]) (by simp[results,Tryz.results231,go_sem]) rfl HN.out
     ·have h6i:¬(6:Int)≤(i:Int):=by omega
      obtain⟨l,h1,h2,h3,h4⟩:=hL.out;have a1:=ownsRow_keep h2 (S:=Any) ((Keep.refl _ w3).alloc (.cells #[.int .i64 x] 2)) (fun _ _=>trivial);have hBs:=HBA.out.size;have HH:=hid (And.intro h1 (And.intro h3 hpx));clear h1 h2 h3 hL hpx;go_wp2_with (at_builtin;(refine zq52 _ rfl _ _ 24 rfl w.heap.size 2 i0 (.int .i64 0) 1 8 Tryz.underlying24 hi0 hz0 hz1 hz2 rfl (by decide) _ _ _ rfl a1 ⟨w3.heap.size,0,none⟩ 1 1 [.int .i64 x] rfl rfl (zq50 (cs:= #[.int .i64 x]) (t:=2) (fr:=(0,0)) (zq17 w3 _)) (by simp[Value.oneCell']) (by decide) (by unfold maxLen;omega) (by omega) (by simp;omega) _ rfl ?_));intro g2 cap2 w6 hown2 hgrow2 hat2 hlt2;have HB6:=hid ((HBA.out.alloc hBs (.cells #[.int .i64 x] 2)).grown hgrow2 (by simp;omega) (fun g hg=>(zq8 a1 g hg).1));have hO4:=ownsRow_keep hO.out (S:=Any) ((Keep.refl _ w3).alloc (.cells #[.int .i64 x] 2)) (fun _ _=>trivial);have HO6:=hid (zq93 hO4 hgrow2 (rows_apart hO4 a1 (by decide)));clear hO4;have HL6:=hid (LsW.push (P:=fun x=>primeB x=true) (m:=6) HH.out.1 HH.out.2.1 HH.out.2.2 (by omega) hown2);clear a1 hown2 hgrow2 hat2 hlt2 hO hBs HBA;go_wp2_with fail;go_roundw;case rel=>exact⟨i+1,_,cap2,by omega,by omega,by go_num,rfl,HL6,HO6,HB6⟩
      case measure=>simp[intOf];omega
   ·obtain rfl:n=i:=by omega
    have hnl:¬(n:Int)<(n:Int):=by omega
    obtain⟨l,h1,h2,h3,h4⟩:=hL.out;have HS:=hid (sl_own h2 h1);have HPR:=hid (SpecV.product_any wr _ l HS.out h3);have HN:=hid (fun b=>show OrdR w (.returned (.tuple #[.slice a n c,.bool b])) wr from⟨n,l,a,c,b,rfl,h1,HS.out,h4,h3,HBA.out⟩);clear h1 h2 h3 hL hO;go_wp2_with fail;refine HPR.out.mono ?_;rintro e w3 ⟨r,rfl,-, -, rfl⟩;go_wp2_with fail;exact zq12 (v:=.tuple #[.slice a n c,.bool (decide (r≤729))]) (by simp[results,Tryz.results231,go_sem]) rfl (HN.out _)
end Go.Proofs.YtlmlamcoeegkbaaGreat.DwN
namespace Go.Proofs.YtlmlamcoeegkbaaGreat.DwC
open Go.RowKit Go.Proofs.YtlmlamcoeegkbaaGreat Tow CyA CyB CyC DwT DwB
theorem zeroCells_one (z:Value)(k:Nat):(Builtin.zeroCells #[z] k).toList=List.replicate k z:=by
 apply zq99;intro j;by_cases hj:j<k
 ·simp[Builtin.zeroCells,hj,Nat.mod_one]
 ·simp[Builtin.zeroCells,hj]
theorem run_zeros (w:World)(base:Nat)(ty:TypeId)(kq:IntKind)(g n cap:Nat)(xs:List Value)(hown:w.ownsRow base 2 1 (.slice (some ⟨g,0,none⟩) n cap) n xs)(k:Nat)(h63:n+k≤1000000)(hbase:base≤w.heap.size):
  ∃v' w',(Builtin.append_ #[24,3] ty #[.slice (some ⟨g,0,none⟩) n cap,.int kq k]).run Tryz.prog w= .ok v' w'∧w'.ownsRow base 2 1 v' (n+k) (xs++List.replicate k (.int .i64 0))∧w.grownBy w' (some g)∧∃g' c',v'= .slice (some ⟨g',0,none⟩) (n+k) c':=by
 obtain⟨i0,hi,hz0,hz1,hz2⟩:=zq41 infoI;have ht:=Tryz.underlying24;have htn:=Tryz.underlying3;have hx1:xs.length=n:=by have:=hown.1;omega
 rcases hown.2 with⟨h,_⟩|⟨g',cap',cur,h,hbg,hg,hnc,hcm,hcs,htake⟩
 ·cases h
 ·simp only[zq40,zq42,zq96,and_true,true_and]at h;obtain⟨rfl,rfl⟩:=h;have hw:IntKind.i64.wrap (k:Int)=k:=by rw[IntKind.wrap_i64];omega
  have hneg:¬((k:Int)<0):=by omega
  have h48i:¬(281474976710656<(k:Int)*8):=by omega
  have hw0:IntKind.i64.wrap 0=0:=by decide
  by_cases hroom:n+k≤cap
  ·by_cases hk:k=0
   ·subst hk;refine⟨.slice (some ⟨g,0,none⟩) n cap,w,?_,by simpa using hown,⟨rfl,rfl,rfl,zq1 _,fun _ _ _=>rfl⟩,g,cap,rfl⟩;simp[Builtin.append_,run_underlying ht,run_underlying htn,sizeOf,typeInfo,hi,hz1,hz2,asInt,asIntOf,hw0,hnc,storeCells]
   ·have hst:=run_storeCells_at Tryz.prog g n 2 (List.replicate k (.int .i64 0)) 0 cur w hg (by simp;omega) (fun u hu=>by rw[List.eq_of_mem_replicate hu];rfl);simp only[zq128]at hst;obtain⟨cs,hcs2⟩:∃cs:Array Value,cs=(cur.toList.take n++List.replicate k (Value.int .i64 0)++cur.toList.drop (n+(List.replicate k (Value.int .i64 0)).length)).toArray:=⟨_,rfl⟩;rw[←hcs2]at hst;refine⟨.slice (some ⟨g,0,none⟩) (n+k) cap,w.setRow g cs,by simp[Builtin.append_,run_underlying ht,run_underlying htn,sizeOf,typeInfo,zeroValue,hi,hz0,hz1,hz2,asInt,asIntOf,hw,hneg,h48i,hroom,hk,Addr.add_lit,Value.cells,zeroCells_one,hst],⟨by simp[hx1],.inr ⟨g,cap,cs,rfl,hbg,setRow_heap w g cur _ _ _ hg,hroom,hcm,?_,?_⟩⟩,⟨rfl,rfl,rfl,by simp,fun k hk hne=>setRow_other w g k _ (fun e=>hne (by simp[e]))⟩,g,cap,rfl⟩
    ·rw[hcs2];simp;omega
    ·rw[hcs2];have h4:cur.toList.take n=xs:=by simpa using htake
     rw[h4];simp only[zq74];rw[←zq74,List.take_append_of_le_length (by simp[hx1])];rw[zq90 (by simp[hx1])]
  ·have h0:0<k:=by omega
   have holds:∀j u,xs[j]?=some u→w.drew.cell? ((⟨g,0,none⟩:Addr).add j)=some u:=hown.cells (g:=g) rfl;have hf:=run_firstCells_some (P:=Tryz.prog) w.drew i0.size n ⟨g,0,none⟩ n cap xs (by rw[hz1];omega) holds;have hr:=Lib.run_append_grow_zeros (P:=Tryz.prog) w 24 3 ty 2 i0 (.int .i64 0) kq .i64 ht htn hi hz0 (some ⟨g,0,none⟩) n cap xs hf k h0 (by rw[hz1];omega) (by omega) (by omega) (by rw[hz2];omega) (by rw[hz2];exact growslice_fits (by omega) (by omega));have hge:=grownCap_ge w (n+k) cap 2;have hcm2:grownCap w (n+k) cap 2≤maxLen:=grownCap_le_maxLen w (n+k) cap 2 (by unfold maxLen;omega);refine⟨_,_,hr,⟨by simp[hx1],.inr ⟨w.heap.size,_,_,rfl,hbase,zq17 w.drew _,hge,hcm2,?_,?_⟩⟩,⟨rfl,rfl,rfl,by simp,fun k hk _=>zq48 w.drew _ k hk⟩,_,_,rfl⟩
   ·simp[Value.cells,hx1,size_zeroCells];omega
   ·simp only[Array.toList_append,zq74];rw[←zq74,List.take_append_of_le_length (by simp[hx1,Value.cells,size_zeroCells])];rw[zq90 (by simp[hx1,Value.cells,size_zeroCells]),show(Value.int .i64 0).cells= #[.int .i64 0] from rfl,zeroCells_one]
theorem wpList_zeros {ops:Array Oper}{rest:List Oper}{o:Oper}{a:Act}{w:World}{Q:Exit→Act→World→Prop}(hgd:o.guard=none)(s x:Operand)
  (ho:o.op= .call { callee:=.builtin .append,args:= #[s,x],argTypes:= #[24,3] }) (base g n cap:Nat) (xs:List Value) (k:Nat) (kq:IntKind) (hs:a.eval s= .slice (some ⟨g,0,none⟩) n cap) (hown:w.ownsRow base 2 1 (.slice (some ⟨g,0,none⟩) n cap) n xs)
  (hx:a.eval x= .int kq (k:Int)) (h63:n+k≤1000000) (hbase:base≤w.heap.size)
  (h:∀g' c' w',w'.ownsRow base 2 1 (.slice (some ⟨g',0,none⟩) (n+k) c') (n+k) (xs++List.replicate k (.int .i64 0))→w.grownBy w' (some g)→wpList Tryz.prog ops Q rest (a.put o.dst (.slice (some ⟨g',0,none⟩) (n+k) c')) w'):wpList Tryz.prog ops Q (o::rest) a w:=by
 refine wpList_plain hgd fun K hK=>?_;obtain⟨v',w',hr,h2,h3,g',c',rfl⟩:=run_zeros w base o.type kq g n cap xs hown k h63 hbase;unfold Oper.wp execOp;simp only[ho,resolve,invoke,builtin,Sem.run_bind,Sem.run_pure,zq122,zq132,zq81,zq129,hs,hx,hr];exact hK _ _ (h g' c' w' h2 h3)
theorem wpList_nilx {ops:Array Oper}{rest:List Oper}{o:Oper}{a:Act}{w:World}{Q:Exit→Act→World→Prop}(hgd:o.guard=none)(s x:Operand)
  (ho:o.op= .call { callee:=.builtin .append,args:= #[s,x],argTypes:= #[24,24] }) (g n cap:Nat) (hs:a.eval s= .slice (some ⟨g,0,none⟩) n cap) (hc:n≤cap)
  (hx:a.eval x= .slice none 0 0) (h:wpList Tryz.prog ops Q rest (a.put o.dst (.slice (some ⟨g,0,none⟩) n cap)) w):wpList Tryz.prog ops Q (o::rest) a w:=by
 refine wpList_plain hgd fun K hK=>?_;obtain⟨i0,hi,hz0,hz1,hz2⟩:=zq41 infoI;have ht:=Tryz.underlying24;have hr:(Builtin.append_ #[24,24] o.type #[.slice (some ⟨g,0,none⟩) n cap,.slice none 0 0]).run Tryz.prog w= .ok (.slice (some ⟨g,0,none⟩) n cap) w:=by
  simp[Builtin.append_,run_underlying ht,sizeOf,typeInfo,hi,hz1,Builtin.lenOf,Builtin.firstCells,hc,storeCells]
 unfold Oper.wp execOp;simp only[ho,resolve,invoke,builtin,Sem.run_bind,Sem.run_pure,zq122,zq132,zq81,zq129,hs,hx,hr];exact hK _ _ h
theorem R1.ofv {B n:Nat}{w:World}{v:Value}{xs:List Value}{l:List Int}(h:w.ownsRow B 2 1 v n xs)(hx:xs=vals l):R1 B w n v:=by
 subst hx;exact⟨l,by have:=h.1;simpa using this,h⟩
def ShR (m:Nat)(w:World)(e:Ending)(w':World):Prop:=∃g c,e= .returned (.slice (some ⟨g,0,none⟩) m c)∧R1 w.heap.size w' m (.slice (some ⟨g,0,none⟩) m c)∧Below w.heap.size w w'
theorem shift_any (b m:Nat)(hb:b≤100)(hm:m≤100)(v:Value)(l:List Int)(w:World)(hv:SlI Any w v l)(hl:l.length≤100):
  Calls Tryz.prog 192 #[.int .i64 (b:Int),v,.int .i64 (m:Int)] w (ShR (b+l.length+m) w):=by
 obtain⟨i0,hi,hz0,hz1,hz2⟩:=zq41 infoI;obtain⟨ao,c,rfl,hc,hcm,hn,hx⟩:=hv;have HM:=hid hcm;have hsl:SlI Any w (.slice ao l.length c) l:=⟨ao,c,rfl,hc,hcm,hn,hx⟩;clear hcm;have HS:=hid hsl;have hmk:=mkE b hb w;have h00:Own w.heap.size (w.alloc (.cells (madeCells #[.int .i64 0] b) 2)) (.slice (some ⟨w.heap.size,0,none⟩) b b) (List.replicate b 0):=Own.made (B:=w.heap.size) w b zqN (by unfold maxLen;omega);have h01:(w.alloc (.cells (madeCells #[.int .i64 0] b) 2)).ownsRow w.heap.size 2 1 (.slice (some ⟨w.heap.size,0,none⟩) b b) b (vals (List.replicate b 0)):=by
  have h:=h00;unfold Own at h;rw[zq29]at h;exact h
 have HB0:=hid (show Below w.heap.size w (w.alloc (.cells (madeCells #[.int .i64 0] b) 2)) from zqB.alloc zqN _);clear h00 hsl hx;cases ao with
 |none=>
  obtain rfl:c=0:=hn rfl;obtain rfl:l=[]:=zq21 (by omega);have H1:=hid h01;go_enter Tryz.func192,Tryz.ntmps192;go_wp2_with (first|(at_builtin;refine wpList_nilx rfl _ _ rfl w.heap.size b b rfl zqN rfl ?_)|(at_builtin;refine wpList_zeros rfl _ _ rfl w.heap.size w.heap.size b b _ m .i64 rfl H1.out rfl (by omega) (by simp) ?_));intro g' c' w' h2 h3;have HF:=hid (show ShR (b+([]:List Int).length+m) w (.returned (.slice (some ⟨g',0,none⟩) (b+m) c')) w' from⟨g',c',rfl,R1.ofv (l:=List.replicate (b+m) 0) h2 (by simp[vals]),HB0.out.grown h3 (by simp) (by intro k hk;injection hk with hk;omega)⟩);clear h2 h3;go_wp2_with fail;go_ret;exact HF.out
 |some ad=>
  have C1:=hid (SlI.src (w':=w.alloc (.cells (madeCells #[.int .i64 0] b) 2)) HS.out (zqK.alloc _));have C2:=hid (vals_one l);have C3:=hid (show b+l.length≤maxLen from by unfold maxLen;omega);have C4:=hid (show(b+l.length)*8≤140737488355328 from by omega);have C5:=hid (show(vals l).length=l.length*1 by simp[vals]);go_enter Tryz.func192,Tryz.ntmps192;go_wp2_with (at_builtin;refine zq55 _ rfl _ _ 24 rfl w.heap.size 2 i0 (.int .i64 0) 1 8 Tryz.underlying24 hi hz0 hz1 hz2 rfl (by decide) _ _ _ rfl h01 ad l.length c (vals l) rfl C5.out C1.out C2.out C3.out C4.out (by simp) ?_);intro v' w1 hown' hgrow hnil;have hne:v'≠.slice none 0 0:=hnil;obtain⟨g1,c1,rfl⟩:∃g1 c1,v'= .slice (some ⟨g1,0,none⟩) (b+l.length) c1:=by
   rcases hown'.2 with⟨h,_⟩|⟨g,cap,cur,h,_⟩
   ·exact absurd h hne
   ·exact⟨g,cap,h⟩
  have H1:=hid hown';have HB1:=hid (HB0.out.grown hgrow (by simp) (by intro k hk;simp[Value.ownBlock]at hk;omega));have hgb:=(zq8 hown' g1 rfl).1;have HS1:=hid HB1.out.size;clear hown' hgrow hnil hne h01;go_wp2_with (at_builtin;refine wpList_zeros rfl _ _ rfl w.heap.size g1 (b+l.length) c1 _ m .i64 rfl H1.out rfl (by omega) HS1.out ?_);intro g' c' w' h2 h3;have HF:=hid (show ShR (b+l.length+m) w (.returned (.slice (some ⟨g',0,none⟩) (b+l.length+m) c')) w' from⟨g',c',rfl,R1.ofv (l:=List.replicate b 0++l++List.replicate m 0) h2 (by simp[vals]),HB1.out.grown h3 HS1.out (by intro k hk;injection hk with hk;omega)⟩);clear h2 h3;go_wp2_with fail;go_ret;exact HF.out
end Go.Proofs.YtlmlamcoeegkbaaGreat.DwC
