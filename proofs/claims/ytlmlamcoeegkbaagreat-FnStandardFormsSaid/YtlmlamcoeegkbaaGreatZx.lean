import Derived.Test.YtlmlamcoeegkbaaGreatZ0
import Derived.Test.YtlmlamcoeegkbaaGreatZw
import Derived.Maps.OwnSet
import Derived.Deep.RegionHeld3
import Derived.Test.YtlmlamcoeegkbaaGreatZc
import Derived.Test.YtlmlamcoeegkbaaGreatZe
import Derived.Deep.AppendLies
/-
  Lemmas for the law FnStandardForms, in short spelling.
-/
open Go.Lib (hid)
set_option linter.unusedVariables false
set_option linter.unusedSimpArgs false
set_option maxRecDepth 100000
set_option maxHeartbeats 40000000
namespace Go.Proofs.YtlmlamcoeegkbaaGreat.jH
open Go Go.Maps Go.RowKit Go.Proofs.YtlmlamcoeegkbaaGreat AJ CV DL Gen Dq F9 IM JD Ox SfE VW Yy
theorem Wh (w:World):(zeroValue 24).run Tryz.prog w= .ok (.slice none 0 0) w:=by kernel_rfl
def E8 (T:Tw)(ts:List Nat)(q x:Nat)(e:List Nat)(es:List (List Nat)):Prop:=
 (¬∃z,Zq ts.length q z∧Be T ts z=x)∧Zq ts.length q e∧Be T ts e=it (fun z=>pr T z x) q 0∧es.length=ts.length∧
  ∀(i h:Nat),ts[i]?=some h→∃y,es[i]?=some y∧Zq ts.length q y∧pr T h x=pr T x (Be T ts y)
def Ru (T:Tw)(ts:List Nat)(q x n:Nat)(w:World)(e:Ending)(w':World):Prop:=
 Below w.heap.size w w'∧((∃g c f es,E8 T ts q x f es∧e= .returned (.tuple #[.slice (some ⟨g,0,none⟩) (n*(1+ts.length)) c,.bool true])∧Own w.heap.size w' (.slice (some ⟨g,0,none⟩) (n*(1+ts.length)) c) (ints ((f::es).flatMap (pad (n-ts.length)))))∨
  (∃a l c,(∀f es,¬E8 T ts q x f es)∧e= .returned (.tuple #[.slice a l c,.bool false])))
def Jb (T:Tw)(ts:List Nat)(q x:Nat)(f:List Nat)(i:Nat)(rows:List (List Nat)):Prop:=
 rows.length≤i+1∧(∀r∈rows,r.length=ts.length)∧(rows.length=i+1→∃es,rows=f::es∧∀(j h:Nat),j<i→ts[j]?=some h→∃y,es[j]?=some y∧Zq ts.length q y∧pr T h x=pr T x (Be T ts y))∧
  (rows.length<i+1→∃(j h:Nat),j<i∧ts[j]?=some h∧∀y,Zq ts.length q y→pr T h x≠pr T x (Be T ts y))
theorem Jb.start {T:Tw}{ts:List Nat}{q x:Nat}{f:List Nat}(hf:Zq ts.length q f):Jb T ts q x f 0 [f]:=
 ⟨Ap _,fun r hr=>by rw[Gi.1 hr];exact hf.1,fun _=>⟨[],rfl,fun j h hj=>by omega⟩,fun h=>by simp at h⟩
theorem Jb.skip {T:Tw}{ts:List Nat}{q x i h:Nat}{f:List Nat}{rows:List (List Nat)}(hR:Jb T ts q x f i rows)(hh:ts[i]?=some h)(hn:∀y,Zq ts.length q y→pr T h x≠pr T x (Be T ts y)):Jb T ts q x f (i+1) rows:=
 ⟨Nat.le_succ_of_le hR.1,hR.2.1,fun h=>by have:=hR.1;omega,fun _=>⟨i,h,Nat.lt_succ_self _,hh,hn⟩⟩
theorem Jb.push {T:Tw}{ts:List Nat}{q x i h:Nat}{f y:List Nat}{rows:List (List Nat)}(hR:Jb T ts q x f i rows)(hh:ts[i]?=some h)(hy:Zq ts.length q y)(he:pr T h x=pr T x (Be T ts y)):Jb T ts q x f (i+1) (rows++[y]):=by
 refine⟨by rw[Cm];have:=hR.1;simp;omega,fun r hr=>?_,fun hl=>?_,fun hl=>?_⟩
 ·rcases Hr.1 hr with hr|hr
  ·exact hR.2.1 r hr
  ·rw[Gi.1 hr];exact hy.1
 ·have hl':rows.length=i+1:=by simpa using hl
  obtain⟨es,rfl,h2⟩:=hR.2.2.1 hl';have hes:es.length=i:=by simpa using hl'
  refine⟨es++[y],rfl,fun j h' hj hj'=>?_⟩;by_cases e:j=i
  ·subst e;rw[hh]at hj';obtain rfl:h=h':=by simpa using hj'
   exact⟨y,by rw[Fb (by omega),hes];simp,hy,he⟩
  ·obtain⟨y',e1,e2⟩:=h2 j h' (by omega) hj';exact⟨y',by rw[GN (by omega)];exact e1,e2⟩
 ·have hl':rows.length<i+1:=by simpa using hl
  obtain⟨j,h',h1,h2⟩:=hR.2.2.2 hl';exact⟨j,h',by omega,h2⟩
theorem Jb.yes {T:Tw}{ts:List Nat}{q x:Nat}{f:List Nat}{rows:List (List Nat)}(hR:Jb T ts q x f ts.length rows)(hl:rows.length=ts.length+1)(h1:¬∃z,Zq ts.length q z∧Be T ts z=x)(h2:Zq ts.length q f)(h3:Be T ts f=it (fun z=>pr T z x) q 0):∃es,rows=f::es∧E8 T ts q x f es:=by
 obtain⟨es,rfl,h⟩:=hR.2.2.1 hl;exact⟨es,rfl,h1,h2,h3,by simpa using hl,fun i h' hi=>h i h' (Ak.1 hi).1 hi⟩
theorem Jb.no {T:Tw}{ts:List Nat}{q x:Nat}{f:List Nat}{rows:List (List Nat)}(hR:Jb T ts q x f ts.length rows)(hl:¬rows.length=ts.length+1):∀f es,¬E8 T ts q x f es:=fun f' es hs=>by
 obtain⟨j,h,h1,h2,h3⟩:=hR.2.2.2 (by have:=hR.1;omega);obtain⟨y,_,hy,e⟩:=hs.2.2.2.2 j h h2;exact h3 y hy e
theorem AAy {T:Tw}(hT:Wf T)(hg:AJ.Good T){x a b:Nat}(ha:a<sz T)(hb:b<sz T)(h:pr T x a=pr T x b):a=b:=by
 have G:=Ba hT hg;refine(Q6 ha hb).2 ?_;refine G.Od (Cu hT x) (Cu hT a) (Cu hT b) ?_;rw[←RQ hT,←RQ hT,h]
theorem AHG {D:DataW Value}{kl:Lit}{v u:Value}{ps:List MemPlace}{zd:DataW Value}(hv:Rv v=some (D.atKey kl zd,ps))(h:∀zd,D.atKey kl zd= .held u):v=u:=by
 have:=hv;simp[Rv,h]at this;exact this.1
theorem Wi {u u':World}{g o:Nat}{v:Value}(h:u.cell? ⟨g,o,none⟩=some v)(hb:Below u.heap.size u u'):u'.cell? ⟨g,o,none⟩=some v:=Rs h hb
theorem ne_iter {w:World}{b r n B:Nat}{D:DataW Value}{left:Lit→Bool}{cnt len:Nat}{v:Value}{xs:List Value}(h:w.ownsRow B 2 1 v len xs)(hr:w.ranges Tryz.prog 3 Rv b r n D left cnt):v.ownBlock≠some r:=fun e=>by
 obtain⟨es,clock,since,seen,c0,_,_,_,_,h1,_⟩:=hr;rcases h.2 with⟨rfl,_⟩|⟨g,cap,cur,rfl,_,h2,_⟩
 ·simp[Value.ownBlock]at e
 ·simp only[Value.ownBlock,EN]at e;subst e;rw[h1]at h2;simp at h2
def St (T:Tw)(ts:List Nat)(m q x h:Nat)(left:Lit→Bool)(rows rows':List (List Nat)):Prop:=
 (rows'=rows∧∀y,Zq m q y→left (.int .i64 (Be T ts y:Int))=false→pr T h x≠pr T x (Be T ts y))∨∃y,rows'=rows++[y]∧Zq m q y∧pr T h x=pr T x (Be T ts y)∧left (.int .i64 (Be T ts y:Int))=false
theorem AEB (T:Tw)(hT:Wf T)(hg:AJ.Good T)(hz:sz T≤729)(w:World)(bg:Nat)(hG:Cv Any w bg T)(ts:List Nat)(vt:Value)(JU:AL Any w vt (ints ts))(hts:∀x∈ts,x<sz T)(q:Nat)(hq:q≤7)(b:Nat)
  (hM:MapOf T ts (Zq ts.length q) 0 w b) (x n:Nat) (hx:x<sz T) (M5:n≤6) (hmn:ts.length<n):
  Calls Tryz.prog 71 #[.pointer (some ⟨bg,0,none⟩),vt,.map (some b),.int .i64 (x:Int),.int .i64 (q:Int),.int .i64 (n:Int)] w (Ru T ts q x n w):=by
 obtain⟨aT,cT,rfl,Yz⟩:=JU.open;obtain⟨m,hm⟩:∃m,ts.length=m:=⟨_,rfl⟩;obtain⟨D,m1,m2,m4,m5⟩:=hM;obtain⟨Y,hY⟩:∃Y,it (fun z=>pr T z x) q 0=Y:=⟨_,rfl⟩;have hYl:Y<sz T:=by rw[←hY];exact UM hT (fun z=>J2 hT _ _) _ _ (F8 hT)
 have HM:=hid hm;have HY:=hid hY;have p8:=hid (hG.open (F8 hT));have wH:=hid (fun(W:World) (hb:Below w.heap.size w W)=>JU.keep (AA.of_below (S:=Any) hb));have HOW:=hid (fun(W:World) (hb:Below w.heap.size w W)=>Zb m1 (hb.block b m1.lt));have HP:=hid (show Calls Tryz.prog 127 #[.pointer (some ⟨bg,0,none⟩),.int .i64 (x:Int),.int .i64 (q:Int)] w (fun e w'=>e= .returned (.int .i64 (Y:Int))∧Below w.heap.size w w') from by
  rw[←hY];exact Q0 T hT hz w bg hG x q hx (by omega))
 have H5:=hid (fun(kl:Lit) (h:Maps.has D kl=true)=>show∃z g c,Zq m q z∧kl= .int .i64 (Be T ts z:Int)∧(∀zd,D.atKey kl zd= .held (.slice (some ⟨g,0,none⟩) m c))∧∀W,Below w.heap.size w W→AL Any W (.slice (some ⟨g,0,none⟩) m c) (ints z) from by
  obtain⟨z,g,c,h1,h2,h3,h4⟩:=m5 kl h;rw[hm]at h1;rw[h1.1]at h3 h4;exact⟨z,g,c,h1,h2,h3,fun W hb=>(h4.mono (S':=Any) fun _ _=>trivial).keep (AA.of_below hb)⟩)
 have H4:=hid m4;have HT:=hid hT;have NP:=hid hg;have HZ:=hid hz;have TE:=hid hts;have Lt:=hid hx;have HYL:=hid hYl;have wJ:=hid (Zy x (by omega));have HKY:=hid (Zy Y (by omega));rw[hm]at Yz hmn ⊢;obtain⟨bf,hbf⟩:∃bf,n-m=bf:=⟨_,rfl⟩;have AMW:IntKind.i64.wrap ((n:Int)-(m:Int))=(bf:Int):=by rw[AY _ (by omega)];omega
 have AK4:(n:Int)-(m:Int)=(bf:Int):=by omega
 have AMX:bf≤6:=by omega
 have E9:=hid hbf;clear JU hG hT hg hz hts hq m1 m4 m5 m2 hY hYl hx hm hbf;cases h1:Maps.has D (.int .i64 (x:Int))with
 |true=>
  have HR:=hid (fun(a:Option Addr) (l c:Nat)=>show Ru T ts q x n w (.returned (.tuple #[.slice a l c,.bool false])) w from⟨Ag _ _,.inr ⟨a,l,c,fun f es hs=>by
   obtain⟨z,g,c,NR,e,_⟩:=H5.out _ h1;rw[←HM.out]at NR;exact hs.1 ⟨z,NR,by injection e with _ e;omega⟩,rfl⟩⟩)
  have hown:=HOW.out w AR;go_enter Tryz.func71,Tryz.ntmps71;go_wp2_with (first|(at_lookup;refine wpList_lookup_own_ok _ rfl _ _ 112 rfl 3 24 LY Tryz.underlying112 Rv (Wh _) (.held (.slice none 0 0)) [] rfl b (sz T) D rfl hown _ _ rfl wJ.out ?_;intro v ps hv));exact Am (v:=.tuple #[.slice none 0 0,.bool false]) (by simp[results,Tryz.results71,go_sem]) rfl (HR.out none 0 0)
 |false=>
  have Xh:=hid (show¬∃z,Zq ts.length q z∧Be T ts z=x from fun⟨z,NR,e⟩=>by
   have:=H4.out z NR;rw[e,h1]at this;exact Bool.noConfusion this)
  have hown:=HOW.out w AR;cases h2:Maps.has D (.int .i64 (Y:Int))with
  |false=>
   have HR:=hid (fun(W:World) (hb:Below w.heap.size w W) (a:Option Addr) (l c:Nat)=>show Ru T ts q x n w (.returned (.tuple #[.slice a l c,.bool false])) W from⟨hb,.inr ⟨a,l,c,fun f es hs=>by
    have:=H4.out f hs.2.1;rw[hs.2.2.1,HY.out,h2]at this;exact Bool.noConfusion this,rfl⟩⟩)
   go_enter Tryz.func71,Tryz.ntmps71;go_upto_region 4 with(first|(at_lookup;refine wpList_lookup_own_ok _ rfl _ _ 112 rfl 3 24 LY Tryz.underlying112 Rv (Wh _) (.held (.slice none 0 0)) [] rfl b (sz T) D rfl hown _ _ rfl wJ.out ?_;intro v ps hv));clear hv;go_wp2_with (first|(go_at_call 127;refine HP.out.mono ?_;rintro e w2 ⟨rfl,hb2⟩;have hown2:=HOW.out w2 hb2)|(at_lookup;refine wpList_lookup_own_ok _ rfl _ _ 112 rfl 3 24 LY Tryz.underlying112 Rv (Wh _) (.held (.slice none 0 0)) [] rfl b (sz T) D rfl hown2 _ _ rfl HKY.out ?_;intro v2 ps2 hv2));exact Am (v:=.tuple #[.slice none 0 0,.bool false]) (by simp[results,Tryz.results71,go_sem]) rfl (HR.out w2 hb2 none 0 0)
  |true=>
   obtain⟨f,gf,cf,vJ,ef,ADO,hfs⟩:=H5.out _ h2;have HFV:=hid (show Be T ts f=it (fun z=>pr T z x) q 0 by rw[HY.out];injection ef with _ ef;omega);have wK:=hid vJ;have HAT:=hid ADO;have HFS:=hid hfs;clear hfs vJ ef ADO;go_enter Tryz.func71,Tryz.ntmps71;go_upto_region 4 with(first|(at_lookup;refine wpList_lookup_own_ok _ rfl _ _ 112 rfl 3 24 LY Tryz.underlying112 Rv (Wh _) (.held (.slice none 0 0)) [] rfl b (sz T) D rfl hown _ _ rfl wJ.out ?_;intro v ps hv));clear hv;go_upto_region 7 with(first|(go_at_call 127;refine HP.out.mono ?_;rintro e w2 ⟨rfl,hb2⟩;have hown2:=HOW.out w2 hb2)|(at_lookup;refine wpList_lookup_own_ok _ rfl _ _ 112 rfl 3 24 LY Tryz.underlying112 Rv (Wh _) (.held (.slice none 0 0)) [] rfl b (sz T) D rfl hown2 _ _ rfl HKY.out ?_;intro v2 ps2 hv2;obtain rfl:=AHG hv2 HAT.out));have HB2:=hid hb2;have Uq:=hid (fun(W:World) (g:Nat) (c:Nat) (z:List Nat) (hzl:z.length=m) (hs:AL Any W (.slice (some ⟨g,0,none⟩) m c) (ints z))=>show Calls Tryz.prog 128 #[.slice (some ⟨g,0,none⟩) m c,.int .i64 (bf:Int),.int .i64 0] W (fun e w'=>∃g' c',e= .returned (.slice (some ⟨g',0,none⟩) n c')∧Own W.heap.size w' (.slice (some ⟨g',0,none⟩) n c') (ints (pad bf z))∧Below W.heap.size W w') from by
    refine(AEg W ⟨g,0,none⟩ m c bf z hs hzl (by omega) (by omega)).mono ?_;rintro e w' ⟨v,rfl,ho,hb⟩;have hlen:(ints (pad bf z)).length=n:=by rw[A7,BZ,hzl];have:=E9.out;omega
    have ho':Own W.heap.size w' v (ints (pad bf z)):=ho;obtain⟨n',rfl⟩:∃n',n=n'+1:=⟨n-1,by omega⟩;have h2:=ho';unfold Own at h2;rw[hlen]at h2;obtain⟨g',c',rfl⟩:=kP h2;exact⟨g',c',rfl,ho',hb⟩)
   clear hv2 hown hown2 hb2;go_upto_region 9 with(go_at_call 128;refine(Uq.out w2 gf cf f wK.out.1 (HFS.out w2 HB2.out)).mono ?_;rintro e w3 ⟨g3,c3,rfl,ho3,hb3⟩);have HB3:=hid (show Below w.heap.size w w3 from FC HB2.out hb3);have Kr:=hid (show Own w.heap.size w3 (.slice (some ⟨g3,0,none⟩) n c3) (ints ([f].flatMap (pad bf))) from by simpa[Own]using EX (B':=w.heap.size) ho3 HB2.out.size);have HR3:=hid (Jb.start (T:=T) (ts:=ts) (q:=q) (x:=x) (f:=f) (by rw[HM.out];exact wK.out));clear ho3 hb3;obtain⟨i0,hi,hz0,hz1,hz2⟩:=CO Fa;go_wp2_with fail;go_loopw [19,51] (fun ov iv wr=>∃(i:Nat) (rows:List (List Nat)) (l:Nat) (a:Option Addr) (c:Nat),ov= .slice a l c∧iv= .int .i64 (i:Int)∧i≤m∧l≤36∧Hid (l=n*rows.length)∧Hid (Own w.heap.size wr (.slice a l c) (ints (rows.flatMap (pad bf))))∧Hid (Jb T ts q x f i rows)∧Hid (Below w.heap.size w wr)) (fun _ iv _=>m-(intOf iv).toNat);case atStart=>exact⟨0,[f],n,_,_,rfl,rfl,AU _,by omega,hid (by simp),Kr,HR3,HB3⟩
   case round=>
    obtain⟨i,rows,l,a,c,rfl,rfl,hi',XY,hl,hO,hR,hB⟩:=hrel;clear Kr HR3 HB3;by_cases hlt:i<m
    ·have hd:decide ((i:Int)<(m:Int))=true:=by simp;omega
     have hd2:decide (i<m)=true:=by simp;omega
     obtain⟨h,hh⟩:∃h,ts[i]?=some h:=⟨_,AP (by rw[HM.out];exact hlt)⟩;obtain⟨bT,oT,rfl,-, hbT,hcx⟩:=(wH.out wr hB.out).at hh;have HH:=hid hh;have Lg:=hid hlt;have hhl:h<sz T:=TE.out h (Ar hh);have hmo:=HOW.out wr hB.out;obtain⟨r,hr⟩:∃r,wr.heap.size=r:=⟨_,rfl⟩;have uu:=hid hr;clear hh hlt;go_wp2_with (first|(at_range;refine wpList_range_own _ rfl _ 112 rfl 3 24 LY Tryz.underlying112 Rv b (sz T) D rfl hmo ?_;intro w0 hrg0 hg0 hs0)|go_in);go_frame;try rw[hr]
     rw[hr]at hrg0;have HB0:=hid (show Below w.heap.size w w0 from hB.out.grown hg0 hB.out.size (by simp));have PO:=hid (show Own w.heap.size w0 (.slice a l c) (ints (rows.flatMap (pad bf))) from BM hO.out (S:=Any) (AA.grown hg0 fun k _ e=>by simp at e) fun _ _=>trivial);have ADP:=hid (show St T ts m q x h (Maps.has D) rows rows from .inl ⟨rfl,fun y hy hf=>by
      have:=H4.out y (by rw[HM.out];exact hy);rw[hf]at this;exact Bool.noConfusion this⟩)
     have ADQ:l≤42:=by omega
     clear hmo hg0 hs0 hO XY;go_loopw [19] (fun ov W=>∃(left:Lit→Bool) (cnt:Nat) (rows':List (List Nat)) (l:Nat) (a:Option Addr) (c:Nat),ov= .slice a l c∧l≤42∧W.ranges Tryz.prog 3 Rv b r (sz T) D left cnt∧Hid (l=n*rows'.length)∧Hid (Own w.heap.size W (.slice a l c) (ints (rows'.flatMap (pad bf))))∧Hid (St T ts m q x h left rows rows')∧Hid (Below w.heap.size w W)) (fun _ W=>W.rangeLeft b r);case atStart=>exact⟨_,_,rows,l,a,c,rfl,ADQ,hrg0,hl,PO,ADP,HB0⟩
     case round=>
      obtain⟨left,cnt,rows',l',a',c',rfl,AIJ,hrg,hl',jI,hST,hBW⟩:=hrel;rename World=>wv;clear PO ADP HB0 hrg0 hl ADQ;go_wp2_with (first|(at_next;refine wpList_next_ranges _ rfl _ rfl 3 LY Rv (Value.int .i64) (fun v:Value=>v) (fun key kl hkey=>by obtain⟨x,rfl,_⟩:=Maps.keyOf_int_inv Tryz.underlying3 hkey;exact⟨x,rfl⟩) (fun v y _=>⟨v,rfl⟩) b r (sz T) D left cnt rfl hrg ?_ ?_)|go_in)
      ·intro hc0 hl0;have HR1:=hid (show Jb T ts q x f (i+1) rows' from by
        rcases hST.out with⟨rfl,hn⟩|⟨y,rfl,hy,e,_⟩
        ·exact hR.out.skip HH.out fun y hy=>hn y (by rw[←HM.out];exact hy) (hl0 _)
        ·exact hR.out.push HH.out (by rw[HM.out];exact hy) e)
       have XY:l'≤36:=by
        have h1:=HR1.out.1;have h2:rows'.length≤6:=by have:=Lg.out;omega
        rw[hl'.out];exact Ab (Nat.mul_le_mul M5 h2) (by decide)
       have hi1:i+1≤m:=Lg.out;clear hrg hc0 hl0 hST hR hcx;go_wp2_with fail;go_roundw;case rel=>exact⟨i+1,rows',l',a',c',rfl,by go_num,hi1,XY,hl',jI,HR1,hBW⟩
       case measure=>simp[intOf];omega
      ·intro y0 c kl ya yb w2 cnt2 hkey hlx Y0 hat hrg2 hlt2 hg2 hs2 hen;obtain⟨y',ey,rfl,_⟩:=Maps.keyOf_int_inv Tryz.underlying3 hkey;obtain rfl:y0=y':=by injection ey
       obtain rfl:ya= .held c:=by have:=Y0;simp[Rv]at this;exact this.1.symm
       obtain⟨z,g,cz,NR,TJ,XX,Uh⟩:=H5.out _ (has_true_of_atKey hat);obtain⟨X,hX⟩:∃X,Be T ts z=X:=⟨_,rfl⟩;rw[hX]at TJ;obtain rfl:y0=(X:Int):=by injection TJ
       obtain rfl:c= .slice (some ⟨g,0,none⟩) m cz:=by have:=(hat .nil).symm.trans (XX .nil);simpa using this
       have KD:=hid hX;have NS:=hid NR;have Bn:=hid Uh;have SK:X<sz T:=by rw[←hX];exact Oi HT.out _ _
       have hwr:w.heap.size≤r:=by rw[←uu.out];exact hB.out.size
       have HB2:=hid (show Below w.heap.size w w2 from Qu hBW.out hg2 (by intro k hk;cases hk;exact hwr));have Di:=hid (show Own w.heap.size w2 (.slice a' l' c') (ints (rows'.flatMap (pad bf))) from jI.out.kept hg2 (.inr (ne_iter jI.out hrg)));have Sa:=hid (show wv.rangeLeft b r=cnt from hrg.left_eq);have HLX:=hid hlx;obtain⟨gt,ot,ct,p9,hct,hc0,G5⟩:=p8.out;obtain⟨g1,o1,k1,hk1,hr1,HR1⟩:=G5 h hhl;obtain⟨g2,o2,k2,hk2,hr2,HR2⟩:=G5 x Lt.out;obtain⟨PH,wL⟩:∃PH,pr T h x=PH:=⟨_,rfl⟩;obtain⟨PX,VK⟩:∃PX,pr T x X=PX:=⟨_,rfl⟩;have hv1:=HR1 x Lt.out;have hv2:=HR2 X SK;rw[wL]at hv1;rw[VK]at hv2;have EW:=hid wL;have Dj:=hid VK;have hq0:=Wi hc0 HB2.out;have hq1:=Wi hr1 HB2.out;have hq2:=Wi hr2 HB2.out;have hq3:=Wi hv1 HB2.out;have hq4:=Wi hv2 HB2.out;have hxl:=Lt.out;clear hkey Y0 hat hs2 XX Uh NR hX hrg jI hBW hc0 hr1 hr2 hv1 hv2 wL VK G5 HR1 HR2 TJ ey hg2 p9 hlx;go_upto_region 15 with fail;clear hen;go_region_held3 (fun w'=>w'.cell? ⟨bg,0,none⟩=some (.slice (some ⟨gt,ot,none⟩) (sz T) ct)∧w'.cell? ⟨gt,ot+h,none⟩=some (.slice (some ⟨g1,o1,none⟩) (sz T) k1)∧w'.cell? ⟨gt,ot+x,none⟩=some (.slice (some ⟨g2,o2,none⟩) (sz T) k2)∧w'.cell? ⟨g1,o1+x,none⟩=some (.int .i64 (PH:Int))∧w'.cell? ⟨g2,o2+X,none⟩=some (.int .i64 (PX:Int)))
        (first|exact⟨hq0,hq1,hq2,hq3,hq4⟩)
        (fail)
       clear hq0 hq1 hq2 hq3 hq4;have ADR:w2.drew.ranges Tryz.prog 3 Rv b r (sz T) D (fun zz=>left zz&& !zz.sameKey (.int .i64 (X:Int))) cnt2:=hrg2;by_cases heq:PH=PX
       ·subst heq;have hrows:rows'=rows:=by
         rcases hST.out with⟨e,_⟩|⟨y1,_,hy1,e1,hf1⟩
         ·exact e
         ·exfalso;rw[EW.out,←Dj.out]at e1;have:=AAy HT.out NP.out SK (Oi HT.out _ _) e1;rw[←this,HLX.out]at hf1;exact Bool.noConfusion hf1
        subst hrows;have qA:=hid (show St T ts m q x h (fun zz=>left zz&& !zz.sameKey (.int .i64 (X:Int))) rows' (rows'++[z]) from .inr ⟨z,rfl,NS.out,by rw[EW.out,KD.out,Dj.out],by
         show(left _&& !_)=false;rw[KD.out,WideAt.sameKey_self (a:=.int .i64 (X:Int)) trivial];simp⟩)
        have hlo:(ints (rows'.flatMap (pad bf))).length=l':=by
         obtain⟨_,_,e,_⟩:=Di.out.sl;simp only[C8]at e;exact e.2.1.symm
        have R7:=hid hlo;have G6:=hid (show(ints (pad bf z)).length=n by rw[A7,BZ,NS.out.1];have:=E9.out;have:=Lg.out;omega);have XY:l'+n≤42:=by
         have h1:=hR.out.1;have h2:rows'.length+1≤6:=by have:=Lg.out;omega
         have h3:n*(rows'.length+1)≤36:=Ab (Nat.mul_le_mul M5 h2) (by decide);rw[Nat.mul_succ,←hl'.out]at h3;omega
        have Cj:=hid (show l'+n=n*(rows'++[z]).length by rw[Cm,List.length_singleton,Nat.mul_succ,←hl'.out]);have hown2:w2.ownsRow w.heap.size 2 1 (.slice a' l' c') l' (vals (ints (rows'.flatMap (pad bf)))):=by have h:=Di.out;unfold Own at h;rwa[hlo]at h
        have hbw:b<w.heap.size:=(HOW.out w AR).lt;clear hlo Di hST hl';go_wp2_with (first|(go_at_call 128;refine(Uq.out w2.drew g cz z NS.out.1 (Bn.out w2.drew HB2.out.drew)).mono ?_;rintro e w5 ⟨g5,c5,rfl,BF,hb5⟩;have hown5:=BM hown2 (S:=Any) ((AA.refl _ w2).drew.trans (AA.of_below hb5)) (fun _ _=>trivial);have AZ:=hid (HB2.out.drew.trans (hb5.mono HB2.out.size));have Dc:=hid (BF.sl.mono (S':=Any) fun _ _=>trivial);have qB:=ADR.kept (Vq hb5) (by simp) (by simp))|(at_builtin;refine GQ _ rfl _ _ 24 rfl w.heap.size 2 i0 (.int .i64 0) 1 8 Tryz.underlying24 hi hz0 hz1 hz2 rfl (by decide) _ _ _ rfl hown5 ⟨g5,0,none⟩ n c5 (vals (ints (pad bf z))) rfl (by rw[Ol];simpa[vals]using G6.out) (AL.src Dc.out AB) (NZ _) (by unfold maxLen;omega) (by omega) AZ.out.size ?_));intro v6 w6 hown6 Br _;have ADS:=qB.kept Br (fun e=>by have:=(BH hown5 b e.symm).1;omega) (fun e=>ne_iter hown5 qB e.symm);obtain⟨a6,c6,rfl⟩:=Bv.FI hown6;have Fy:=hid (show Own w.heap.size w6 (.slice a6 (l'+n) c6) (ints ((rows'++[z]).flatMap (pad bf))) from by
         have e1:ints ((rows'++[z]).flatMap (pad bf))=ints (rows'.flatMap (pad bf))++ints (pad bf z):=by simp[ints]
         unfold Own;rw[e1,Cm,R7.out,G6.out,show vals (ints (rows'.flatMap (pad bf))++ints (pad bf z))=vals (ints (rows'.flatMap (pad bf)))++vals (ints (pad bf z)) by simp[vals]];exact hown6)
        have Ao:=hid (show Below w.heap.size w w6 from AZ.out.grown Br AZ.out.size (fun k hk=>(BH hown5 k hk).1));clear hown2 hown5 hown6 Br BF hb5 qB;go_wp2_with fail;go_roundw;case rel=>exact⟨_,cnt2,rows'++[z],l'+n,a6,c6,rfl,XY,ADS,Cj,Fy,qA,Ao⟩
        case measure=>rw[Sa.out,ADS.left_eq];exact hlt2
       ·have hbq:((PH:Int)==(PX:Int))=false:=by rw[JG];omega
        have qA:=hid (show St T ts m q x h (fun zz=>left zz&& !zz.sameKey (.int .i64 (X:Int))) rows rows' from by
         rcases hST.out with⟨e,hn⟩|⟨y1,e,hy1,e1,hf1⟩
         ·refine .inl ⟨e,fun y hy hf=>?_⟩;by_cases ex:Be T ts y=X
          ·rw[EW.out,ex,Dj.out];exact heq
          ·have hf':(left (.int .i64 (Be T ts y:Int))&& !(Lit.int .i64 (Be T ts y:Int)).sameKey (.int .i64 (X:Int)))=false:=hf;rw[AAx ex]at hf';exact hn y hy (by simpa using hf')
         ·exact .inr ⟨y1,e,hy1,e1,by show(left _&&_)=false;rw[hf1];rfl⟩)
        clear hST;go_wp2_with fail;go_roundw;case rel=>exact⟨_,cnt2,rows',l',a',c',rfl,AIJ,ADR,hl',Di,qA,hid HB2.out.drew⟩
        case measure=>rw[Sa.out];show w2.rangeLeft b r<cnt;rw[hrg2.left_eq];exact hlt2
    ·obtain rfl:i=m:=by omega
     have hd:decide ((i:Int)<(i:Int))=false:=by simp
     have hlm:n*(1+i)≤36:=by
      have h1:1+i≤6:=by omega
      exact Ab (Nat.mul_le_mul M5 h1) (by decide)
     obtain⟨nm,hnm⟩:∃nm,n*(1+i)=nm:=⟨_,rfl⟩;obtain⟨j1,hj1⟩:∃j1,1+i=j1:=⟨_,rfl⟩;have hw1:IntKind.i64.wrap (1+(i:Int))=(j1:Int):=by rw[AY _ (by omega)];omega
     have hw2:IntKind.i64.wrap ((n:Int)*(j1:Int))=(nm:Int):=by
      rw[←Int.natCast_mul,←hj1,hnm,AY _ (by omega)]
     have HJ:=hid hj1;clear hj1;have hR':=hR.out;rw[←HM.out]at hR';by_cases hlen:rows.length=ts.length+1
     ·have AKc:l=nm:=by rw[hl.out,hlen,HM.out,←hnm,GU]
      subst AKc;obtain⟨es,hrows,hseg⟩:=hR'.yes hlen Xh.out (by rw[HM.out];exact wK.out) HFV.out;have hpos:0<l:=by rw[←hnm];exact Nat.mul_pos (by omega) (by omega)
      have ho:=hO.out;unfold Own at ho;have hlo:(ints (rows.flatMap (pad bf))).length=l:=by
       obtain⟨_,_,e,_⟩:=hO.out.sl;simp only[C8]at e;exact e.2.1.symm
      obtain⟨l',rfl⟩:∃l',l=l'+1:=⟨l-1,by omega⟩;rw[hlo]at ho;obtain⟨g',c',e'⟩:=kP ho;obtain⟨rfl,rfl⟩:a=some ⟨g',0,none⟩∧c=c':=by simpa using e'
      have HRR:=hid (show Ru T ts q x n w (.returned (.tuple #[.slice (some ⟨g',0,none⟩) (l'+1) c,.bool true])) wr from⟨hB.out,.inl ⟨g',c,f,es,hseg,by rw[HM.out,hnm],by rw[HM.out,hnm,E9.out,←hrows];exact hO.out⟩⟩);clear hO hR hR' hseg ho hrows hB hl e';go_wp2_with fail;exact Am (v:=.tuple #[.slice (some ⟨g',0,none⟩) (l'+1) c,.bool true]) (by simp[results,Tryz.results71,go_sem]) rfl HRR.out
     ·have hne:((l:Int)==(nm:Int))=false:=by
       rw[JG];intro e;apply hlen;have:n*rows.length=n*(1+i):=by rw[hnm,←hl.out];omega
       have:=Nat.eq_of_mul_eq_mul_left (by omega) this;rw[HM.out];omega
      have HRR:=hid (show Ru T ts q x n w (.returned (.tuple #[.slice a l c,.bool false])) wr from⟨hB.out,.inr ⟨a,l,c,hR'.no hlen,rfl⟩⟩);clear hO hR hR' hB hl;go_wp2_with fail;exact Am (v:=.tuple #[.slice a l c,.bool false]) (by simp[results,Tryz.results71,go_sem]) rfl HRR.out
theorem AGD {T:Tw}{ts:List Nat}{q x n:Nat}{w w':World}{e:Ending}(h:Ru T ts q x n w e w'):∃a l c ok,e= .returned (.tuple #[.slice a l c,.bool ok])∧Below w.heap.size w w'∧
  (ok=true→∃g f es,a=some ⟨g,0,none⟩∧E8 T ts q x f es∧Own w.heap.size w' (.slice a l c) (ints ((f::es).flatMap (pad (n-ts.length)))))∧(ok=false→∀f es,¬E8 T ts q x f es):=by
 obtain⟨hb,⟨g,c,f,es,h1,rfl,h2⟩|⟨a,l,c,h1,rfl⟩⟩:=h
 ·exact⟨_,_,_,true,rfl,hb,fun _=>⟨g,f,es,rfl,h1,h2⟩,fun h=>Bool.noConfusion h⟩
 ·exact⟨_,_,_,false,rfl,hb,fun h=>Bool.noConfusion h,fun _=>h1⟩
end Go.Proofs.YtlmlamcoeegkbaaGreat.jH
namespace Go.Proofs.YtlmlamcoeegkbaaGreat.SfJ
open Go.RowKit Go.Proofs.YtlmlamcoeegkbaaGreat AJ CV Bv VV
abbrev Ez (n b:Nat):Value:=.slice (some ⟨b,0,none⟩) n n
def TB (W:World)(g:Nat)(vO vP vC:Value)(p q:Nat):Prop:=
 W.heap[g]?=some (.cells #[vO,vP,vC] 28 (0,0))∧(∃us,W.ownsRow (g+1) 24 1 vP p us)∧∃us,W.ownsRow (g+1) 25 1 vC q us
theorem TB.lt {W:World}{g:Nat}{vO vP vC:Value}{p q:Nat}(h:TB W g vO vP vC p q):g<W.heap.size:=(BX.1 h.1).1
theorem TB.below {W W':World}{g:Nat}{vO vP vC:Value}{p q:Nat}(h:TB W g vO vP vC p q)(hb:Below W.heap.size W W'):TB W' g vO vP vC p q:=
 ⟨(hb.block g h.lt).trans h.1,h.2.1.imp fun us k=>BM k (AA.of_below (S:=Any) hb) fun _ _=>trivial,h.2.2.imp fun us k=>BM k (AA.of_below (S:=Any) hb) fun _ _=>trivial⟩
theorem own_ne {W:World}{g n:Nat}{e:TypeId}{v:Value}{xs:List Value}(h:W.ownsRow (g+1) e 1 v n xs):some g≠v.ownBlock:=fun e'=>by
 have:=(BH h g e'.symm).1;omega
theorem Zc {W:World}{g n:Nat}{e:TypeId}{j:Nat}{v u:Value}{xs:List Value}(h:W.ownsRow (g+1) e 1 v n xs):(W.setCell ⟨g,j,none⟩ u).ownsRow (g+1) e 1 v n xs:=
 ZC h ((AA.refl (fun k=>k≠g) W).setCell (p:=⟨g,j,none⟩) (fun hk=>hk rfl) _) fun k hk e=>own_ne h (by rw[hk,e])
theorem TB.row {W W1 W2:World}{g:Nat}{vO vP vC Y4:Value}{p q p':Nat}{us us':List Value}(h:TB W g vO vP vC p q)(hb:Below W.heap.size W W1)(hp:W1.ownsRow (g+1) 24 1 vP p us)(hg:W1.grownBy W2 vP.ownBlock)(ho:W2.ownsRow (g+1) 24 1 Y4 p' us'):
  TB (W2.setCell ⟨g,1,none⟩ Y4) g vO Y4 vC p' q:=by
 have h1:=h.below hb;have hbx:W2.heap[g]?=some (.cells #[vO,vP,vC] 28 (0,0)):=(hg.block g h1.lt (own_ne hp)).trans h1.1;obtain⟨uc,hc⟩:=h1.2.2;have hc2:=hc.kept hg (JY hc hp (by decide));exact⟨Ho W2 g 1 _ _ _ hbx,⟨_,Zc ho⟩,_,Zc hc2⟩
theorem TB.J8 {W W1 W2:World}{g:Nat}{vO vP vC Y5:Value}{p q q':Nat}{us us':List Value}(h:TB W g vO vP vC p q)(hb:Below W.heap.size W W1)(hp:W1.ownsRow (g+1) 25 1 vC q us)(hg:W1.grownBy W2 vC.ownBlock)(ho:W2.ownsRow (g+1) 25 1 Y5 q' us'):
  TB (W2.setCell ⟨g,2,none⟩ Y5) g vO vP Y5 p q':=by
 have h1:=h.below hb;have hbx:W2.heap[g]?=some (.cells #[vO,vP,vC] 28 (0,0)):=(hg.block g h1.lt (own_ne hp)).trans h1.1;obtain⟨uc,hc⟩:=h1.2.1;have hc2:=hc.kept hg (JY hc hp (by decide));exact⟨Ho W2 g 2 _ _ _ hbx,⟨_,Zc hc2⟩,_,Zc ho⟩
theorem AL.ADT {W W1 W2:World}{B g j:Nat}{v u v1:Value}{l:List Int}{e:TypeId}{n:Nat}{xs:List Value}(h:AL (fun k=>B≤k∧k<g) W v l)(hb:Below W.heap.size W W1)(hp:W1.ownsRow (g+1) e 1 v1 n xs)(hg:W1.grownBy W2 v1.ownBlock):AL (fun k=>B≤k∧k<g) (W2.setCell ⟨g,j,none⟩ u) v l:=
 ((h.keep (AA.of_below hb)).keep (AA.grown hg fun k hk e=>by have:=(BH hp k e.symm).1;omega)).keep (AB.setCell (p:=⟨g,j,none⟩) (fun hk=>by have:g<g:=hk.2;omega) _)
def ADU (os:List Nat)(w:World)(e:Ending)(w':World):Prop:=∃aO cO vP vC us us',e= .returned (.agg #[.slice aO os.length cO,vP,vC])∧AL (fun k=>w.heap.size≤k∧vP.ownBlock≠some k∧vC.ownBlock≠some k) w' (.slice aO os.length cO) (ints os)∧w'.ownsRow w.heap.size 24 1 vP os.length us∧w'.ownsRow w.heap.size 25 1 vC os.length us'∧Below w.heap.size w w'
theorem TZ (os:List Nat)(v:Value)(w:World)(hv:AL Any w v (ints os))(hn:os.length≤6):
  Calls Tryz.prog 69 #[v] w (ADU os w):=by
 obtain⟨i0,hi,hz0,hz1,hz2⟩:=CO JC;obtain⟨j0,ji,YQ,jz1,YR⟩:=CO V4;obtain⟨a,c,rfl,hcl⟩:=hv.open;obtain⟨n,hnn⟩:∃n,os.length=n:=⟨_,rfl⟩;have H8:=hid hnn;have HC:=hid (fun W hv=>(P9.jm Any (.slice a os.length c) (ints os) W hv (by rw[A7];omega)).mono (R':=fun e w'=>∃a2 c2,e= .returned (.slice a2 os.length c2)∧AL (fun k=>W.heap.size≤k) w' (.slice a2 os.length c2) (ints os)∧Below W.heap.size W w') (by
  rintro e w2 ⟨v2,rfl,ho2,hb2⟩;have hs:=ho2.sl;obtain⟨a2,c2,e2,_⟩:=id hs;rw[A7]at e2;subst e2;exact⟨a2,c2,rfl,hs,hb2⟩))
 have HU:=hid (fun k hk W=>mI.jQ n k (by omega) hk W);rw[hnn]at hn HC hcl hv ⊢;have HV:=hid hv;have hmk:∀W:World,(Instr.makeSlice 24 (.int .i64 (n:Int)) (.int .i64 (n:Int))).run Tryz.prog W= .ok (.slice (some ⟨W.heap.size,0,none⟩) n n) (W.alloc (.cells (madeCells #[.int .i64 0] n) 2)):=fun W=>NF n (by omega) W;clear hv hnn;go_enter Tryz.func69,Tryz.ntmps69;go_upto_region 1 with fail;obtain⟨w1,hw1⟩:∃w1,w1=w.alloc (.cells #[.slice none 0 0,.slice none 0 0,.slice none 0 0] 28):=⟨_,rfl⟩;rw[←hw1];have hb1:Below w.heap.size w w1:=by rw[hw1];exact AR.alloc AQ _
 have hs1:w1.heap.size=w.heap.size+1:=by rw[hw1];simp
 have G1:=hid (show w1.heap[w.heap.size]?=some (.cells #[.slice none 0 0,.slice none 0 0,.slice none 0 0] 28 (0,0)) by rw[hw1];exact Av _ _);have Qf:=hid (HV.out.keep (AA.of_below hb1));have HB1:=hid hb1;have BA:=hid hs1;clear hw1 hb1 hs1;go_wp2_with (first|(go_at_call 125;refine(HC.out _ Qf.out).mono ?_;rintro e w2 ⟨a2,c2,rfl,ho2,hb2⟩)|fail);obtain⟨g,hg⟩:∃g,w2.heap.size=g:=⟨_,rfl⟩;obtain⟨w3,hw3⟩:∃w3,w3=w2.alloc (.cells #[.slice a2 n c2,.slice none 0 0,.slice none 0 0] 28):=⟨_,rfl⟩;have HT0:=hid (show TB w3 g (.slice a2 n c2) (.slice none 0 0) (.slice none 0 0) 0 0 from⟨by rw[hw3,←hg];exact Av _ _,⟨[],Jc _ _ _ _⟩,[],Jc _ _ _ _⟩);have Kr:=hid (show AL (fun k=>w1.heap.size≤k∧k<g) w3 (.slice a2 n c2) (ints os) from by
  rw[hw3,←hg];have h1:AL (fun k=>w1.heap.size≤k∧k<w2.heap.size) w2 (.slice a2 n c2) (ints os):=by
   obtain⟨ao,c',q1,q2,q3,q0,q4⟩:=ho2;exact⟨ao,c',q1,q2,q3,q0,fun i x hx=>by obtain⟨b,o,p1,p2,p3,p4⟩:=q4 i x hx;exact⟨b,o,p1,⟨p2,p3⟩,p3,p4⟩⟩
  exact h1.keep ((AA.refl _ w2).alloc _))
 have HB3:=hid (show Below w1.heap.size w1 w3 from by rw[hw3];exact hb2.alloc hb2.size _);have JW:=hid (show w1.heap.size≤g by have:=hb2.size;omega);rw[←hw3,hg];clear hw3 hg ho2 hb2;have hn63:(n:Int)≤6:=by omega
 go_loopw [14] (fun iv wr=>∃(i:Nat) (vP vC:Value),i≤n∧iv= .int .i64 (i:Int)∧Hid (TB wr g (.slice a2 n c2) vP vC i i)∧Hid (AL (fun k=>w1.heap.size≤k∧k<g) wr (.slice a2 n c2) (ints os))∧Hid (Below w1.heap.size w1 wr)) (fun iv _=>n-(intOf iv).toNat);case atStart=>exact⟨0,_,_,AU _,rfl,HT0,Kr,HB3⟩
 case round=>
  obtain⟨i,vP,vC,hi',rfl,hS,jJ,hB⟩:=hrel;by_cases hlt:i<n
  ·obtain⟨us0,QO⟩:=hS.out.2.1;obtain⟨aP,cP,rfl⟩:=FI QO;have HP:=hid QO;obtain⟨⟨e0,e1,e2⟩,f0,f1,f2⟩:=AO hS.out.1;have hgl:g<wr.heap.size:=hS.out.lt;have Cb:=hid hS.out.1;have hne:some g≠(Value.slice aP i cP).ownBlock:=own_ne QO;have BA:=hid (show g+1≤wr.heap.size from hgl);have hki:(i:Int)<(n:Int):=by omega
   have KH:i≤6:=by omega
   clear QO;go_upto_region 6 with fail;go_cut [22] (fun sv W=>∃c5 gg,sv= .slice (some ⟨gg,0,none⟩) (i+1) c5∧Hid (TB W g (.slice a2 n c2) (.slice (some ⟨gg,0,none⟩) (i+1) c5) vC (i+1) i)∧Hid (AL (fun k=>w1.heap.size≤k∧k<g) W (.slice a2 n c2) (ints os))∧Hid (Below w1.heap.size w1 W));case rest=>
    obtain⟨c5,gg,rfl,hS',ADV,hB'⟩:=hcut;clear hS hB HP Cb hne BA e0 e1 e2 f0 f1 f2 hgl jJ;obtain⟨wo,hwo⟩:∃wo,wo=wc:=⟨_,rfl⟩;rw[←hwo]at hS' hB' ADV ⊢;have hgo:g<wo.heap.size:=hS'.out.lt;clear hwo;have hw1:IntKind.i64.wrap ((i:Int)+1)=(i:Int)+1:=AY _ (by omega);go_wp2_with fail;go_loopw [6,7] (fun lv jv wr=>∃k:Nat,i+1+k≤n∧jv= .int .i64 ((i:Int)+1+(k:Int))∧Hid (∃us,wr.ownsRow wo.heap.size 24 1 lv k us)∧Hid (Below wo.heap.size wo wr)) (fun _ jv _=>n-(intOf jv).toNat);case atStart=>exact⟨0,by omega,by simp,hid ⟨[],Jc _ _ _ _⟩,hid AR⟩
    case round=>
     obtain⟨k,hk,rfl,hO,hBI⟩:=hrel;obtain⟨us1,ho1⟩:=hO.out;obtain⟨aL,cL,rfl⟩:=FI ho1;have Db:=hid ho1;have hw2:IntKind.i64.wrap ((i:Int)+1+(k:Int))=(i:Int)+1+(k:Int):=AY _ (by omega);clear ho1 hO;by_cases hlt2:i+1+k<n
     ·have ACU:(i:Int)+1+(k:Int)<(n:Int):=by omega
      have PZ:=hid (show Calls Tryz.prog 126 #[.int .i64 (n:Int),.int .i64 ((i:Int)+1+(k:Int))] wr (Ec (ints ((List.replicate n 0).set (i+1+k) 1)) wr) from by
       have h:=HU.out (i+1+k) hlt2 wr;rw[show(((i+1+k:Nat)):Int)=(i:Int)+1+(k:Int) by omega]at h;exact h)
      have Bn:=hid hBI.out.size;have Da:k≤6:=by omega
      go_wp2_with fail;refine PZ.out.mono ?_;rintro e w5 ⟨g5,NG,rfl,BF,hb5⟩;have hl5:(ints ((List.replicate n 0).set (i+1+k) 1)).length=n:=by rw[A7];simp
      rw[hl5];have a1:=BM Db.out (S:=Any) ((AA.of_below hb5).trans ((AA.refl Any w5).alloc (.cells #[.slice (some ⟨g5,0,none⟩) n NG] 24))) (fun _ _=>trivial);have AZ:=hid ((hBI.out.trans (hb5.mono hBI.out.size)).alloc (by have:=Bn.out;have:=hb5.size;omega) (.cells #[.slice (some ⟨g5,0,none⟩) n NG] 24));have Bi:=hid (show wo.heap.size≤w5.heap.size by have:=Bn.out;have:=hb5.size;omega);clear BF hb5 hl5;go_wp2_with (at_builtin;(refine Hg _ rfl _ _ 25 rfl wo.heap.size 24 i0 (.slice none 0 0) 1 24 Tryz.underlying25 hi hz0 hz1 hz2 rfl (by decide) _ _ _ rfl a1 ⟨w5.heap.size,0,none⟩ 1 1 [.slice (some ⟨g5,0,none⟩) n NG] rfl rfl (Ea (cs:= #[.slice (some ⟨g5,0,none⟩) n NG]) (t:=24) (fr:=(0,0)) (Av w5 _)) (by simp[Value.oneCell']) (by decide) (by unfold maxLen;omega) (by omega) (by have:=Bi.out;simp;omega) _ rfl ?_));intro g6 c6 w6 Al Br QH QI;have HN:=hid (show∃us,w6.ownsRow wo.heap.size 24 1 (.slice (some ⟨g6,0,none⟩) (k+1) c6) (k+1) us from⟨_,Al⟩);have Hz:=hid (AZ.out.grown Br (by have:=Bi.out;simp;omega) (by intro b hb;exact(BH a1 b hb).1));clear Al Br QH QI a1 hBI AZ;go_wp2_with fail;go_roundw;case rel=>exact⟨k+1,by omega,by go_num,HN,Hz⟩
      case measure=>simp[intOf];omega
     ·have ACV:k≤6:=by omega
      have hjn:(i:Int)+1+(k:Int)=(n:Int):=by omega
      have HT:=hid (hS'.out.below hBI.out);have Ju:=hid (ADV.out.keep (AA.of_below hBI.out));have EC:=hid (hB'.out.trans (hBI.out.mono hB'.out.size));have Ac:=hid (show w1.heap.size≤wr.heap.size from EC.out.size);obtain⟨usC,c1⟩:=HT.out.2.2;obtain⟨aC,cC,rfl⟩:=FI c1;obtain⟨⟨e0,e1,e2⟩,f0,f1,f2⟩:=AO HT.out.1;have hgl:g<wr.heap.size:=HT.out.lt;have Cb:=hid HT.out.1;have hne:some g≠(Value.slice aC i cC).ownBlock:=own_ne c1;have a1:=BM c1 (S:=Any) ((AA.refl Any wr).alloc (.cells #[.slice aL k cL] 25)) (fun _ _=>trivial);have HA1:=hid a1;have Au:=hid (show Below wr.heap.size wr (wr.alloc (.cells #[.slice aL k cL] 25)) from AR.alloc AQ _);clear hBI hlt2;have hfin:¬((i:Int)+1+(k:Int)<(n:Int)):=by omega
      have AJa:i≤6:=by omega
      go_wp2_with (at_builtin;(refine Hg _ rfl _ _ 26 rfl (g+1) 25 j0 (.slice none 0 0) 1 24 Tryz.underlying26 ji YQ jz1 YR rfl (by decide) _ _ _ rfl a1 ⟨wr.heap.size,0,none⟩ 1 1 [.slice aL k cL] rfl rfl (Ea (cs:= #[.slice aL k cL]) (t:=25) (fr:=(0,0)) (Av wr _)) (by simp[Value.oneCell']) (by decide) (by unfold maxLen;omega) (by omega) (by simp;omega) _ rfl ?_));intro g7 c7 w7 Bz Dk oD XL;have g10:=(Dk.block g (by simp;omega) hne).trans ((EO wr _ g hgl).trans Cb.out);obtain⟨⟨m0,m1,m2⟩,n0,n1,n2⟩:=AO g10;have HN:=hid (TB.J8 HT.out Au.out HA1.out Dk Bz);have Xq:=hid (AL.ADT (j:=2) (u:=.slice (some ⟨g7,0,none⟩) (i+1) c7) Ju.out Au.out HA1.out Dk);have Hz:=hid ((EC.out.alloc Ac.out (.cells #[.slice aL k cL] 25)).grown Dk (by have:=Ac.out;simp;omega) (by intro b hb;have:=(BH HA1.out b hb).1;have:=JW.out;omega));have oG:=hid (Hz.out.setCell (p:=⟨g,2,none⟩) JW.out (.slice (some ⟨g7,0,none⟩) (i+1) c7));clear Bz Dk oD XL a1 g10 c1 e0 e1 e2 HT Au Hz HA1;go_wp2_with fail;go_roundw;case rel=>exact⟨i+1,_,_,by omega,by go_num,HN,Xq,oG⟩
      case measure=>simp[intOf];omega
   go_region_law
    (first|(refine Ot _ (by rfl) _ _ _ (by rfl) (g+1) 24 i0 (.slice none 0 0) 1 24 Tryz.underlying25 hi hz0 hz1 hz2 rfl (by omega) (.slice aP i cP) i us0 (by rfl) (BM HP.out (S:=Any) (by repeat(first|exact AB.drew|exact AA.refl _ _|refine AA.drew ?_|refine AA.alloc ?_ _)) (fun _ _=>trivial)) ⟨wr.heap.size+1,0,none⟩ 1 1 [Ez n wr.heap.size] (by rfl) (by rfl) (Ea (cs:= #[Ez n wr.heap.size]) (t:=24) (fr:=(0,0)) (by first|exact new2 wr.drew _ _|exact new2 wr _ _)) (by simp[Value.oneCell']) (by omega) (by unfold maxLen;omega) (by omega) (by have:=BA.out;simp;omega) _ rfl ?_;intro gg cap Co IJ EF MR Nk;have g10:=(EF.block g (by simp;omega) hne).trans (by first|exact dM (W:=wr.drew) Cb.out|exact dM (W:=wr) Cb.out);obtain⟨⟨m0,m1,m2⟩,n0,n1,n2⟩:=AO g10))
   all_goals
    have HW:Below wr.heap.size wr ((wr.alloc (Obj.cells (madeCells #[Value.int IntKind.i64 0] n) 2)).alloc (Obj.cells #[Ez n wr.heap.size] 24)).drew:=((AR.alloc AQ _).alloc (by simp) _).drew;have Cy:=hid (BM HP.out (S:=Any) (AA.of_below HW) fun _ _=>trivial);have HR:=hid (TB.row hS.out HW Cy.out EF IJ);have Xq:=hid (AL.ADT (j:=1) (u:=.slice (some ⟨gg,0,none⟩) (i+1) cap) jJ.out HW Cy.out EF);go_wp2_with fail;go_meet;refine⟨cap,gg,rfl,HR,Xq,hid (((hB.out.trans (HW.mono hB.out.size)).grown EF (Ab hB.out.size HW.size) (by intro k hk;have:=(BH Cy.out k hk).1;have:=JW.out;omega)).setCell (p:=⟨g,1,none⟩) JW.out _)⟩
  ·obtain rfl:i=n:=by omega
   have hwz:w.heap.size<w1.heap.size:=by have:=BA.out;omega
   have G5:=hid (show wr.heap[w.heap.size]?=some (.cells #[.slice none 0 0,.slice none 0 0,.slice none 0 0] 28 (0,0)) from(hB.out.block w.heap.size hwz).trans G1.out);obtain⟨⟨r0,r1,r2⟩,s0,s1,s2⟩:=AO G5.out;obtain⟨⟨e0,e1,e2⟩,f0,f1,f2⟩:=AO hS.out.1;obtain⟨us1,k1⟩:=hS.out.2.1;obtain⟨OC,k2⟩:=hS.out.2.2;obtain⟨aP,cP,rfl⟩:=FI k1;obtain⟨aC,cC,rfl⟩:=FI k2;have hgw:w.heap.size<g:=by have:=JW.out;omega
   have DZ:=hid (show ADU os w (.returned (.agg #[.slice a2 i c2,.slice aP i cP,.slice aC i cC])) (((wr.setCell ⟨w.heap.size,0,none⟩ (.slice a2 i c2)).setCell ⟨w.heap.size,1,none⟩ (.slice aP i cP)).setCell ⟨w.heap.size,2,none⟩ (.slice aC i cC)) from by
    have hk:AA (fun k=>w.heap.size<k) wr (((wr.setCell ⟨w.heap.size,0,none⟩ (.slice a2 i c2)).setCell ⟨w.heap.size,1,none⟩ (.slice aP i cP)).setCell ⟨w.heap.size,2,none⟩ (.slice aC i cC)):=(((AA.refl _ wr).setCell (by simp) _).setCell (by simp) _).setCell (by simp) _;refine⟨a2,c2,_,_,us1,OC,by rw[H8.out],?_,?_,?_,?_⟩
    ·rw[H8.out];exact(jJ.out.keep (hk.mono fun k hk=>by have:w1.heap.size≤k:=hk.1;omega)).mono fun k hk=>by
      have h1:w1.heap.size≤k:=hk.1;have h2:k<g:=hk.2;exact⟨by omega,fun e=>by have:=(BH k1 k e).1;omega,fun e=>by have:=(BH k2 k e).1;omega⟩
    ·rw[H8.out];exact EX (BM k1 hk fun k hk=>by omega) (by omega)
    ·rw[H8.out];exact EX (BM k2 hk fun k hk=>by omega) (by omega)
    ·exact(((HB1.out.trans (hB.out.mono (by have:=BA.out;omega))).setCell (p:=⟨w.heap.size,0,none⟩) AQ _).setCell (p:=⟨w.heap.size,1,none⟩) AQ _).setCell (p:=⟨w.heap.size,2,none⟩) AQ _)
   clear hS k1 k2 jJ;go_wp2_with fail;obtain⟨⟨z0,z1,z2⟩,-⟩:=AO (BL (x:=.slice a2 i c2) (y:=.slice aP i cP) (z:=.slice aC i cC) G5.out);exact Am (v:=.agg #[.slice a2 i c2,.slice aP i cP,.slice aC i cC]) (by simp[results,Tryz.results69,go_sem,z0,z1,z2]) rfl DZ.out
end Go.Proofs.YtlmlamcoeegkbaaGreat.SfJ
namespace Go.Proofs.YtlmlamcoeegkbaaGreat.jK
open Go.Proofs.YtlmlamcoeegkbaaGreat AJ Gen Dq CV F9 PU Yu IM JD fO OL VW Yy jH
theorem QC {q:Nat}:∀{S:Tw} {z:List Nat},(∀L∈S,L.o=q)→(Zq S.length q z↔El S z)
 |[],[],_=>⟨fun _=>trivial,fun _=>⟨rfl,by simp⟩⟩
 |[],_::_,_=>⟨fun h=>by have:=h.1;simp at this,fun h=>h.elim⟩
 |_::_,[],_=>⟨fun h=>by have:=h.1;simp at this,fun h=>h.elim⟩
 |L::S,a::z,h=>by
  have ih:=QC (S:=S) (z:=z) (fun K hK=>h K (Ca _ hK));have ho:=h L CE;constructor
  ·intro hz;exact⟨by rw[ho];exact hz.2 a CE,ih.1 ⟨by have:=hz.1;simpa using this,fun c hc=>hz.2 c (Ca _ hc)⟩⟩
  ·rintro⟨h1,h2⟩;obtain⟨h3,h4⟩:=ih.2 h2;refine⟨by simp[h3],fun c hc=>?_⟩;rcases GR.1 hc with rfl|hc
   ·rw[←ho];exact h1
   ·exact h4 c hc
theorem Zz {T:Tw}(hT:Wf T)(hg:AJ.Good T)(ts z:List Nat):at_ T (Be T ts z)=ev (mul T) (AJ.one T) (ts.map (at_ T)) z:=by
 have G:=Ba hT hg;unfold Be;rw[zO hT,RA hT,G.Na (fun c hc=>by obtain⟨i,_,rfl⟩:=CX.1 hc;exact Cu hT i)]
section
variable {T S:Tw} {q:Nat} (hT:Wf T) (hg:AJ.Good T) (hS:Wf S) (Ef:AJ.Good S) (hq:q=2∨q=3∨q=5∨q=7) (ho:∀L∈S,L.o=q)
include hT hg hS Ef hq ho
theorem Zd {t:List Nat}(hE:DK T S (t.map (at_ T))){x:Nat}(hx:x<sz T)(f:List Nat)(es:List (List Nat)):
  E8 T t q x f es↔Wf ((⟨q,f,es⟩:Lv)::S)∧DK T ((⟨q,f,es⟩:Lv)::S) ((x::t).map (at_ T)):=by
 have hq2:2≤q:=by omega
 have G:=Ba hT hg;have htl:t.length=S.length:=by have:=hE.len;rwa[Ce]at this
 have dG:(∃z,Zq t.length q z∧Be T t z=x)↔Gen (mul T) (AJ.one T) (t.map (at_ T)) (at_ T x):=by
  rw[WC hT hg hS hE.el hE.rel];constructor
  ·rintro⟨z,h1,h2⟩;rw[htl,QC ho]at h1;exact⟨z,h1,by rw[←Zz hT hg,h2]⟩
  ·rintro⟨z,h1,h2⟩;refine⟨z,by rw[htl,QC ho];exact h1,?_⟩;rw[Q6 (Oi hT t z) hx,Zz hT hg,h2]
 have hfit:IL T (⟨q,f,es⟩:Lv) (t.map (at_ T)) (at_ T x)↔Be T t f=it (fun z=>pr T z x) q 0∧∀(k:Nat) y,es[k]?=some y→pr T (t.getD k 0) x=pr T x (Be T t y):=by
  rw[←zS hT hg];exact and_congr_left' ⟨fun h=>h.symm,fun h=>h.symm⟩
 have hget:∀(i h:Nat),t[i]?=some h→t.getD i 0=h:=fun i h hi=>by rw[Bg,hi];rfl
 constructor
 ·rintro⟨h1,h2,h3,h4,h5⟩;have hes:∀(k:Nat) y,es[k]?=some y→El S y∧pr T (t.getD k 0) x=pr T x (Be T t y):=fun k y hk=>by
   have hkl:k<t.length:=by rw[←h4];exact(Ak.1 hk).1
   obtain⟨y',e1,e2,e3⟩:=h5 k _ (AP hkl);rw[hk]at e1;obtain rfl:y=y':=by simpa using e1
   rw[htl,QC ho]at e2;exact⟨e2,by rw[hget k _ (AP hkl)];exact e3⟩
  rw[htl,QC ho]at h2;have hwf:Wf ((⟨q,f,es⟩:Lv)::S):=⟨hq2,h2,h4.trans htl,fun y hy=>by
   obtain⟨k,hk⟩:=IP hy;exact(hes k y hk).1,hS⟩
  refine⟨hwf,?_⟩;rw[FN,Oc hT hg hwf Ef hq];exact⟨hE,Cu hT x,hfit.2 ⟨h3,fun k y hk=>(hes k y hk).2⟩,fun h=>h1 (dG.2 h)⟩
 ·rintro⟨hwf,hEm⟩;rw[FN,Oc hT hg hwf Ef hq]at hEm;obtain⟨_,_,hF,hn⟩:=hEm;obtain⟨a1,a2⟩:=hfit.1 hF;have hel:es.length=t.length:=hwf.2.2.1.trans htl.symm;refine⟨fun h=>hn (dG.1 h),by rw[htl,QC ho];exact hwf.2.1,a1,hel,fun i h hi=>?_⟩;have hil:i<es.length:=by rw[hel];exact(Ak.1 hi).1
  refine⟨es[i],AP hil,by rw[htl,QC ho];exact hwf.2.2.2.1 _ (Je hil),?_⟩;have:=a2 i _ (AP hil);rwa[hget i h hi]at this
end
theorem AHH {T S:Tw}{q:Nat}(hT:Wf T)(hg:AJ.Good T)(ho:∀L∈S,L.o=q){t:List Nat}(hE:DK T S (t.map (at_ T))){x:Nat}(hx:x<sz T){f f':List Nat}{es es':List (List Nat)}(h:E8 T t q x f es)(h':E8 T t q x f' es'):f=f'∧es=es':=by
 have htl:t.length=S.length:=by have:=hE.len;rwa[Ce]at this
 have hin:∀a b,Zq t.length q a→Zq t.length q b→Be T t a=Be T t b→a=b:=fun a b ha hb e=>by
  rw[htl,QC ho]at ha hb;exact hE.inj a b ha hb (by rw[←Zz hT hg,←Zz hT hg,e])
 refine⟨hin f f' h.2.1 h'.2.1 (h.2.2.1.trans h'.2.2.1.symm),?_⟩;refine RJ (h.2.2.2.1.trans h'.2.2.2.1.symm) fun i h1 h2=>?_;have hil:i<t.length:=by rw[←h.2.2.2.1];exact h1
 obtain⟨y,e1,e2,e3⟩:=h.2.2.2.2 i _ (AP hil);obtain⟨y',d1,d2,d3⟩:=h'.2.2.2.2 i _ (AP hil);rw[AP h1]at e1;rw[AP h2]at d1;have e1:es[i]=y:=by simpa using e1
 have d1:es'[i]=y':=by simpa using d1
 rw[e1,d1];exact hin y y' e2 d2 (AAy hT hg (Oi hT _ _) (Oi hT _ _) (e3.symm.trans d3))
def kk (n k:Nat)(f:List Nat)(es:List (List Nat)):List Nat:=(f::es).flatMap (pad (n-k))
def Ia (T:Tw)(q n k:Nat)(D:List Nat→Nat→Prop):Option (List Nat)→List (List Nat)→Prop
 |none,next=>next=[]∧∀t x f es,D t x→¬E8 T t q x f es
 |some K,next=>(∃t x f es,D t x∧E8 T t q x f es∧kk n k f es=K)∧(∀t x f es,D t x→E8 T t q x f es→¬Bb (kk n k f es) K<0)∧∀t',t'∈next↔∃t x f es,D t x∧E8 T t q x f es∧kk n k f es=K∧t'=x::t
theorem Ia.same {T:Tw}{q n k:Nat}{D D':List Nat→Nat→Prop}{best:Option (List Nat)}{next:List (List Nat)}(h:Ia T q n k D best next)(h1:∀t x f es,E8 T t q x f es→(D t x↔D' t x)):Ia T q n k D' best next:=by
 cases best with
 |none=>exact⟨h.1,fun t x f es hd hs=>h.2 t x f es ((h1 t x f es hs).2 hd) hs⟩
 |some K=>
  obtain⟨⟨t,x,f,es,a1,a2,a3⟩,b,c⟩:=h;exact⟨⟨t,x,f,es,(h1 t x f es a2).1 a1,a2,a3⟩,fun t x f es hd hs=>b t x f es ((h1 t x f es hs).2 hd) hs,fun t'=>(c t').trans
   ⟨fun⟨t,x,f,es,h2,h3,h4⟩=>⟨t,x,f,es,(h1 t x f es h3).1 h2,h3,h4⟩,fun⟨t,x,f,es,h2,h3,h4⟩=>⟨t,x,f,es,(h1 t x f es h3).2 h2,h3,h4⟩⟩⟩
section
variable {T:Tw} {q n k:Nat} {D:List Nat→Nat→Prop} {t0:List Nat} {x0:Nat} {f0:List Nat} {es0:List (List Nat)}
abbrev More (D:List Nat→Nat→Prop)(t0:List Nat)(x0:Nat)(t:List Nat)(x:Nat):Prop:=D t x∨(t=t0∧x=x0)
theorem Ia.skip {best:Option (List Nat)}{next:List (List Nat)}(h:Ia T q n k D best next)(hn:∀f es,¬E8 T t0 q x0 f es):Ia T q n k (More D t0 x0) best next:=
 h.same fun t x f es hs=>⟨.inl,fun hd=>hd.elim id fun e=>by obtain⟨rfl,rfl⟩:=e;exact absurd hs (hn f es)⟩
theorem Ia.fresh {best:Option (List Nat)}{next:List (List Nat)}(h:Ia T q n k D best next)(hs:E8 T t0 q x0 f0 es0)(hu:∀f es,E8 T t0 q x0 f es→kk n k f es=kk n k f0 es0)(hc:∀K,best=some K→Bb (kk n k f0 es0) K<0):Ia T q n k (More D t0 x0) (some (kk n k f0 es0)) [x0::t0]:=by
 have hno:∀t x f es,D t x→E8 T t q x f es→¬Bb (kk n k f es) (kk n k f0 es0)<0∧kk n k f es≠kk n k f0 es0:=fun t x f es hd hs'=>by
  cases best with
  |none=>exact absurd hs' (h.2 t x f es hd)
  |some K=>
   have h1:=hc K rfl;have h2:=h.2.1 t x f es hd hs';exact⟨fun h3=>h2 (xm _ _ _ h3 h1),fun e=>h2 (by rw[e];exact h1)⟩
 refine⟨⟨t0,x0,f0,es0,.inr ⟨rfl,rfl⟩,hs,rfl⟩,fun t x f es hd hs'=>?_,fun t'=>⟨fun ht=>?_,fun⟨t,x,f,es,hd,hs',he,e⟩=>?_⟩⟩
 ·rcases hd with hd|⟨rfl,rfl⟩
  ·exact(hno t x f es hd hs').1
  ·rw[hu f es hs',ZK];decide
 ·rw[Gi.1 ht];exact⟨t0,x0,f0,es0,.inr ⟨rfl,rfl⟩,hs,rfl,rfl⟩
 ·rcases hd with hd|⟨rfl,rfl⟩
  ·exact absurd he (hno t x f es hd hs').2
  ·rw[e];exact List.mem_singleton_self _
theorem Ia.again {K:List Nat}{next:List (List Nat)}(h:Ia T q n k D (some K) next)(hs:E8 T t0 q x0 f0 es0)(hu:∀f es,E8 T t0 q x0 f es→kk n k f es=kk n k f0 es0)(hc:kk n k f0 es0=K):Ia T q n k (More D t0 x0) (some K) (next++[x0::t0]):=by
 obtain⟨⟨t,x,f,es,a1,a2,a3⟩,b,c⟩:=h;refine⟨⟨t,x,f,es,.inl a1,a2,a3⟩,fun t x f es hd hs'=>?_,fun t'=>?_⟩
 ·rcases hd with hd|⟨rfl,rfl⟩
  ·exact b t x f es hd hs'
  ·rw[hu f es hs',hc,ZK];decide
 ·rw[Hr,Gi,c t'];constructor
  ·rintro(⟨t,x,f,es,h1,h2⟩|rfl)
   ·exact⟨t,x,f,es,.inl h1,h2⟩
   ·exact⟨t0,x0,f0,es0,.inr ⟨rfl,rfl⟩,hs,hc,rfl⟩
  ·rintro⟨t,x,f,es,h1|⟨rfl,rfl⟩,h2,h3,h4⟩
   ·exact .inl ⟨t,x,f,es,h1,h2,h3,h4⟩
   ·exact .inr h4
theorem Ia.AIK {K:List Nat}{next:List (List Nat)}(h:Ia T q n k D (some K) next)(hs:E8 T t0 q x0 f0 es0)(hu:∀f es,E8 T t0 q x0 f es→kk n k f es=kk n k f0 es0)(hc:0<Bb (kk n k f0 es0) K):Ia T q n k (More D t0 x0) (some K) next:=by
 obtain⟨⟨t,x,f,es,a1,a2,a3⟩,b,c⟩:=h;refine⟨⟨t,x,f,es,.inl a1,a2,a3⟩,fun t x f es hd hs'=>?_,fun t'=>(c t').trans ?_⟩
 ·rcases hd with hd|⟨rfl,rfl⟩
  ·exact b t x f es hd hs'
  ·rw[hu f es hs'];omega
 ·constructor
  ·rintro⟨t,x,f,es,h1,h2⟩;exact⟨t,x,f,es,.inl h1,h2⟩
  ·rintro⟨t,x,f,es,h1|⟨rfl,rfl⟩,h2,h3,h4⟩
   ·exact⟨t,x,f,es,h1,h2,h3,h4⟩
   ·rw[hu f es h2]at h3;rw[h3,ZK]at hc;omega
end
def az (T S:Tw)(tl:List (List Nat)):Prop:=∀t,t∈tl↔(∀x∈t,x<sz T)∧DK T S (t.map (at_ T))
theorem AFK {T:Tw}:az T [] [[]]:=fun t=>by
 rw[Gi];constructor
 ·rintro rfl;exact⟨by simp,lD⟩
 ·rintro⟨_,h⟩;have:=h.len;rw[Ce]at this;exact EY this
theorem Ze {T:Tw}(hT:Wf T):∀{cs:List (List Nat)},(∀c∈cs,El T c)→(cs.map (num T)).map (at_ T)=cs
 |[],_=>rfl
 |c::cs,h=>by rw[FN,FN,Jz hT (h c CE),Ze hT fun d hd=>h d (Ca _ hd)]
theorem kS {T:Tw}(hT:Wf T){cs:List (List Nat)}(h:∀c∈cs,El T c):∀x∈cs.map (num T),x<sz T:=fun x hx=>by
 obtain⟨c,hc,rfl⟩:=CX.1 hx;exact He (h c hc) hT
theorem stage {T S:Tw}{q n:Nat}(hT:Wf T)(hg:AJ.Good T)(hq:q=2∨q=3∨q=5∨q=7)(hoT:∀L∈T,L.o=q)(hn:T.length=n)(hS:Std T q S)(hlt:S.length<n){tl:List (List Nat)}(jL:az T S tl)
  {best:Option (List Nat)} {next:List (List Nat)} (hB:Ia T q n S.length (fun t x=>t∈tl∧x<sz T) best next):∃L,best=some (kk n S.length L.w L.c)∧Std T q (L::S)∧az T (L::S) next:=by
 obtain⟨wS,gS,oS,_⟩:=hS.good;have hseg:∀(L':Lv) (cs:List (List Nat)),L'.o=q→Wf (L'::S)→DK T (L'::S) cs→∃t x,t∈tl∧x<sz T∧E8 T t q x L'.w L'.c:=fun L' cs ho hw hE=>by
  cases cs with
  |nil=>have:=hE.len;simp at this
  |cons c cs=>
   have hEl:=hE.el;have hE2:=(Oc hT hg hw gS (by rw[ho];exact hq)).1 hE;have hcs:∀d∈cs,El T d:=hE2.1.el;have hc:El T c:=hE2.2.1;have h1:cs.map (num T)∈tl:=(jL _).2 ⟨kS hT hcs,by rw[Ze hT hcs];exact hE2.1⟩;refine⟨cs.map (num T),num T c,h1,He hc hT,?_⟩;rw[Zd hT hg wS gS hq oS (by rw[Ze hT hcs];exact hE2.1) (He hc hT)];have e:(⟨q,L'.w,L'.c⟩:Lv)=L':=by cases L';simp only at ho;rw[ho]
   rw[e,FN,Ze hT hcs,Jz hT hc];exact⟨hw,hE⟩
 cases best with
 |none=>
  obtain⟨L,x,t,h1,h2,h3,h4,h5⟩:=AF4 hT hg hq hoT hS (by omega);obtain⟨t',x',a1,a2,a3⟩:=hseg L (x::t) h1 h2 h5;exact absurd a3 (hB.2 t' x' _ _ ⟨a1,a2⟩)
 |some K=>
  obtain⟨⟨t,x,f,es,⟨ht,hx⟩,hs,hk⟩,hmin,hmem⟩:=hB;have hEt:=((jL t).1 ht).2;obtain⟨hw,hE⟩:=(Zd hT hg wS gS hq oS hEt hx f es).1 hs;have hE2:=hE;rw[FN,Oc hT hg hw gS hq]at hE2;have hgd:=yN hT hg wS gS hEt hE2.2.1 hw hE2.2.2.1;have hkey:∀L':Lv,key T.length S L'=kk n S.length L'.w L'.c:=fun L'=>by unfold key kk;rw[hn]
  refine⟨⟨q,f,es⟩,by rw[←hk],⟨hS,rfl,hw,hgd,⟨_,hE⟩,fun L' ho' hw' ⟨cs,hE'⟩=>?_⟩,fun t'=>?_⟩
  ·obtain⟨t1,x1,b1,b2,b3⟩:=hseg L' cs ho' hw' hE';rw[hkey,hkey];rw[hk];exact hmin t1 x1 _ _ ⟨b1,b2⟩ b3
  ·rw[hmem];constructor
   ·rintro⟨t1,x1,f1,es1,⟨b1,b2⟩,b3,b4,rfl⟩;have hE1:=((jL t1).1 b1);obtain⟨c1,c2⟩:=(Zd hT hg wS gS hq oS hE1.2 b2 f1 es1).1 b3;have hL:(⟨q,f1,es1⟩:Lv)=⟨q,f,es⟩:=key_inj (n:=T.length) c1 hw rfl (by rw[hkey,hkey];exact b4.trans hk.symm);rw[hL]at c2;refine⟨fun y hy=>?_,c2⟩;rcases GR.1 hy with rfl|hy
    ·exact b2
    ·exact hE1.1 y hy
   ·rintro⟨c1,c2⟩;cases t' with
    |nil=>have:=c2.len;simp at this
    |cons x1 t1=>
     have c3:=c2;rw[FN,Oc hT hg hw gS hq]at c3;have hx1:=c1 x1 CE;refine⟨t1,x1,f,es,⟨(jL t1).2 ⟨fun y hy=>c1 y (Ca _ hy),c3.1⟩,hx1⟩,(Zd hT hg wS gS hq oS c3.1 hx1 f es).2 ⟨hw,c2⟩,hk,rfl⟩
end Go.Proofs.YtlmlamcoeegkbaaGreat.jK
namespace Go.Proofs.YtlmlamcoeegkbaaGreat.sW
open Go Go.Maps Go.RowKit Go.Proofs.YtlmlamcoeegkbaaGreat AJ CV Gen Dq F9 PU IM JD OL VV vk VW Yy jH jK
open Go.Proofs.YtlmlamcoeegkbaaGreat.DL (Any)
open Go.Proofs.YtlmlamcoeegkbaaGreat.Bv (AO BL FI ZC)
def qD (T:Tw)(q:Nat)(w:World)(e:Ending)(w':World):Prop:=∃S vO vP vC,Std T q S∧S.length=T.length∧e= .returned (.agg #[vO,vP,vC])∧Aw (fun k=>w.heap.size≤k) w' vO vP vC (AX S)∧Below w.heap.size w w'
def LZ (E:Nat→Prop)(W:World)(cur:Array Value)(n:Nat)(S:Tw):Prop:=∀(j:Nat) (L:Lv),S[j]?=some L→∃u,cur[n-S.length+j]?=some u∧AL E W u (ints (pad (n-(S.length-(j+1))) L.w))
def La (E:Nat→Prop)(W:World)(cur:Array Value)(n:Nat)(S:Tw):Prop:=∀(j:Nat) (L:Lv),S[j]?=some L→∃u,cur[n-S.length+j]?=some u∧AV E W u ((L.c.map (pad (n-(S.length-(j+1))))).map ints)
theorem LZ.keep {E:Nat→Prop}{W W':World}{cur:Array Value}{n:Nat}{S:Tw}(h:LZ E W cur n S)(hk:AA E W W'):LZ E W' cur n S:=fun j L hj=>(h j L hj).imp fun u hu=>⟨hu.1,hu.2.keep hk⟩
theorem La.keep {E:Nat→Prop}{W W':World}{cur:Array Value}{n:Nat}{S:Tw}(h:La E W cur n S)(hk:AA E W W'):La E W' cur n S:=fun j L hj=>(h j L hj).imp fun u hu=>⟨hu.1,AV.keep hu.2 hk⟩
theorem LZ.put {E:Nat→Prop}{W:World}{cur:Array Value}{n r:Nat}{S:Tw}{L:Lv}{u:Value}(h:LZ E W cur n S)(hr:r+S.length+1=n)(hc:r<cur.size)(hu:AL E W u (ints (pad (n-S.length) L.w))):LZ E W (cur.setIfInBounds r u) n (L::S):=fun j K hj=>by
 cases j with
 |zero=>
  obtain rfl:L=K:=by simpa using hj
  refine⟨u,?_,by simpa using hu⟩;rw[Eb,show n-(S.length+1)+0=r by omega];simp[hc]
 |succ j=>
  obtain⟨v,h1,h2⟩:=h j K (by simpa using hj);refine⟨v,?_,?_⟩
  ·rw[Eb,show n-(S.length+1)+(j+1)=n-S.length+j by omega,Array.getElem?_setIfInBounds_ne (by omega)];exact h1
  ·rw[Eb,show S.length+1-(j+1+1)=S.length-(j+1) by omega];exact h2
theorem La.put {E:Nat→Prop}{W:World}{cur:Array Value}{n r:Nat}{S:Tw}{L:Lv}{u:Value}(h:La E W cur n S)(hr:r+S.length+1=n)(hc:r<cur.size)(hu:AV E W u ((L.c.map (pad (n-S.length))).map ints)):La E W (cur.setIfInBounds r u) n (L::S):=fun j K hj=>by
 cases j with
 |zero=>
  obtain rfl:L=K:=by simpa using hj
  refine⟨u,?_,by simpa using hu⟩;rw[Eb,show n-(S.length+1)+0=r by omega];simp[hc]
 |succ j=>
  obtain⟨v,h1,h2⟩:=h j K (by simpa using hj);refine⟨v,?_,?_⟩
  ·rw[Eb,show n-(S.length+1)+(j+1)=n-S.length+j by omega,Array.getElem?_setIfInBounds_ne (by omega)];exact h1
  ·rw[Eb,show S.length+1-(j+1+1)=S.length-(j+1) by omega];exact h2
theorem AHI {E Z:Nat→Prop}{W:World}{gP gC n cP cC:Nat}{vO:Value}{Fh Fj:Array Value}{S:Tw}(hn:S.length=n)(hE:∀k,E k→Z k)(zP:Z gP)(zC:Z gC)(hO:AL Z W vO (ints (S.map (·.o))))(hP:W.heap[gP]?=some (.cells Fh 24 (0,0)))(hC:W.heap[gC]?=some (.cells Fj 25 (0,0)))
  (c1:n≤cP) (c2:n≤cC) (m1:cP≤maxLen) (m2:cC≤maxLen) (rP:LZ E W Fh n S) (rC:La E W Fj n S):Aw Z W vO (.slice (some ⟨gP,0,none⟩) n cP) (.slice (some ⟨gC,0,none⟩) n cC) (AX S):=by
 have I1:=(BX.1 hP).1;have wM:=(BX.1 hC).1;have e:(AX S).os=ints (S.map (·.o)):=by simp[AX,ints]
 refine⟨by rw[e];exact hO,⟨_,_,by show _=Value.slice _ (Hu 0 S).length _;rw[VZ,hn],by show(Hu 0 S).length≤_;rw[VZ,hn];exact c1,m1,by simp,fun i x hx=>?_⟩,⟨_,_,by show _=Value.slice _ (Hw 0 S).length _;rw[Va,hn],by show(Hw 0 S).length≤_;rw[Va,hn];exact c2,m2,by simp,fun i x hx=>?_⟩⟩
 ·have hi:i<S.length:=by have:=(Ak.1 hx).1;have e:(AX S).ps.length=S.length:=VZ 0 S;omega
  obtain⟨u,h1,h2⟩:=rP i _ (AP hi);have h4:(Hu 0 S)[i]?=some x:=hx;rw[yl,AP hi]at h4;simp only[Option.map_some,EN]at h4;refine⟨gP,0,rfl,zP,I1,u,?_,?_⟩
  ·rw[hn]at h1;rw[Aq _ _ _ _ _ (0,0) hP];simpa using h1
  ·rw[hn]at h2;rw[show n-(n-(i+1))=0+i+1 by omega,h4]at h2;exact h2.mono hE
 ·have hi:i<S.length:=by have:=(Ak.1 hx).1;have e:(AX S).cs.length=S.length:=Va 0 S;omega
  obtain⟨u,h1,h2⟩:=rC i _ (AP hi);have h4:(Hw 0 S)[i]?=some x:=hx;rw[ym,AP hi]at h4;simp only[Option.map_some,EN]at h4;refine⟨gC,0,rfl,zC,wM,u,?_,?_⟩
  ·rw[hn]at h1;rw[Aq _ _ _ _ _ (0,0) hC];simpa using h1
  ·rw[hn]at h2;rw[show n-(n-(i+1))=0+i+1 by omega,List.map_map]at h2;rw[←h4];exact AV.mono h2 hE
end Go.Proofs.YtlmlamcoeegkbaaGreat.sW
