import Derived.Test.YtlmlamcoeegkbaaGreatZ0
import Derived.Test.YtlmlamcoeegkbaaGreatZk
import Derived.Test.YtlmlamcoeegkbaaGreatZh
import Derived.Deep.CutBlock
/-
  Lemmas for the law FnOrbits, in short spelling.
-/
open Go.Lib (hid)
set_option linter.unusedVariables false
set_option linter.unusedSimpArgs false
set_option maxRecDepth 100000
set_option maxHeartbeats 40000000
namespace Go.Proofs.YtlmlamcoeegkbaaGreat.DwY
open Go.RowKit Go.Proofs.YtlmlamcoeegkbaaGreat Tow CyA CyB CyC DwT DwB DwD DwF DwI DwJ DwK DwS DwU DwW
open Go.Proofs.YtlmlamcoeegkbaaGreat.DwR (Ty.box Ty.box3)
def FaS (b g:Nat)(a:Option Addr)(len cap:Nat)(w:World)(e:Ending)(w':World):Prop:=∃(N:Nat) (x1 x2 x3:Option Addr) (y1 y2 y3:Nat),N≤b∧e= .returned (.agg #[.slice x1 N y1,.slice x2 N y2,.slice x3 N y3])∧PT w.heap.size w' N (.slice x1 N y1) (.slice x2 N y2) (.slice x3 N y3)∧Sr g a len cap w w'
theorem UnR.fas {b g len cap:Nat}{a:Option Addr}{w W W':World}{e:Ending}(h:Sr g a len cap w W)(hu:UnR b W e W'):∃(N:Nat) (x1 x2 x3:Option Addr) (y1 y2 y3:Nat),N≤b∧e= .returned (.agg #[.slice x1 N y1,.slice x2 N y2,.slice x3 N y3])∧PT w.heap.size W' N (.slice x1 N y1) (.slice x2 N y2) (.slice x3 N y3)∧Sr g a len cap w W':=by
 obtain⟨N,x1,x2,x3,y1,y2,y3,hN,rfl,hp,hb⟩:=hu;exact⟨N,_,_,_,_,_,_,hN,rfl,hp.mono h.2.2.size,h.below hb⟩
theorem nat_of {x:Int}(h:0≤x):∃n:Nat,x=(n:Int):=⟨x.toNat,by omega⟩
theorem meta_i (n m r s:Int)(hn:1≤n∧n≤40)(hm:1≤m∧m≤40)(w:World):Calls Tryz.prog 188 #[.int .i64 n,.int .i64 m,.int .i64 r,.int .i64 s] w (UnR 12 w):=by
 obtain⟨n,rfl⟩:=nat_of (x:=n) (by omega);obtain⟨m,rfl⟩:=nat_of (x:=m) (by omega);exact(meta_any n m (by omega) (by omega) r s w).mono fun e w' h=>DrwR.un h
theorem aff_i (p n:Int)(m:Nat)(hp:1≤p∧p≤7)(hn:1≤n∧n≤40)(hm:m≤4)(ab:Option Addr)(cb:Nat)(w:World)(hA:R2 0 w (List.replicate m m) (.slice ab m cb)):Calls Tryz.prog 190 #[.int .i64 p,.slice ab m cb,.int .i64 n] w (UnR 12 w):=by
 obtain⟨n,rfl⟩:=nat_of (x:=n) (by omega);obtain⟨p,rfl⟩:=nat_of (x:=p) (by omega);exact(affine_any p n m (by omega) (by omega) hm ab cb w hA).mono fun e w' h=>DrwR.un h
theorem cyc_i (n:Int)(hn:1≤n∧n≤40)(w:World):Calls Tryz.prog 187 #[.int .i64 n] w (PreR 12 w):=by
 obtain⟨n,rfl⟩:=nat_of (x:=n) (by omega);exact cyc_any n (by omega) w
theorem heis_i (q:Int)(hq:2≤q∧q≤7)(g:Nat)(a:Option Addr)(len cap:Nat)(w W:World)(h:Sr g a len cap w W):Calls Tryz.prog 189 #[.pointer (some ⟨g,0,none⟩),.int .i64 q] W (FaS 12 g a len cap W):=by
 obtain⟨q,rfl⟩:=nat_of (x:=q) (by omega);refine(heis_any q (by omega) W g a len cap h.1 h.2.1).mono ?_;rintro e w' ⟨N,x1,x2,x3,y1,y2,y3,hN,rfl,hp,hs,hg⟩;exact⟨N,_,_,_,_,_,_,hN,rfl,hp,hs,h.2.1.grown hg,hg⟩
theorem r1_al {w:World}{n:Nat}{v:Value}(o:Obj)(h:R1 0 w n v):R1 0 (w.alloc o) n v:=(Ty.keep (S:=Any) ((Keep.refl _ w).alloc o) fun _ _=>trivial).one _ _ h
theorem lit1 (w:World)(l:List Int)(m:Nat)(hm:l.length=m)(h:m≤100):R1 0 (w.alloc (.cells (l.map (Value.int .i64)).toArray 2)) m (.slice (some ⟨w.heap.size,0,none⟩) m m):=by
 subst hm;exact⟨l,rfl,Own_lit w _ l (zq4 _) (by unfold maxLen;omega) (by simp[vals])⟩
theorem litR (w:World)(us:List Value)(m k:Nat)(hk:us.length=k)(h4:k≤100)(h:∀u∈us,R1 0 w m u):R2 0 (w.alloc (.cells us.toArray 24)) (List.replicate k m) (.slice (some ⟨w.heap.size,0,none⟩) k k):=by
 subst hk;refine⟨us,?_,fun i n hi=>?_⟩
 ·have:=zq98 (base:=0) (e:=24) (size:=1) w us.toArray us.length (zq4 _) (by unfold maxLen;omega) (by simp);rw[zq29];simpa using this
 ·obtain⟨hj,e⟩:=zq2.1 hi;simp only[zq29,List.getElem_replicate]at hj e;subst e;exact⟨_,zq0 hj,r1_al _ (h _ (zq76 _))⟩
abbrev o1 (l:List Int):Obj:=.cells (l.map (Value.int .i64)).toArray 2
abbrev rv (g m:Nat):Value:=.slice (some ⟨g,0,none⟩) m m
theorem aff2 (w:World)(k l:List Int)(hk:k.length=2)(hl:l.length=2):R2 0 (((w.alloc (o1 k)).alloc (o1 l)).alloc (.cells #[rv w.heap.size 2,rv (w.heap.size+1) 2] 24)) (List.replicate 2 2) (rv (w.heap.size+1+1) 2):=by
 have h2:=lit1 (w.alloc (o1 k)) l 2 hl (by decide);rw[World.size_alloc]at h2;have h:=litR ((w.alloc (o1 k)).alloc (o1 l)) [rv w.heap.size 2,rv (w.heap.size+1) 2] 2 2 rfl (by decide) (fun u hu=>by
  rcases zq70.1 hu with rfl|hu
  ·exact r1_al _ (lit1 w k 2 hk (by decide))
  ·rw[zq54.1 hu];exact h2)
 simpa using h
theorem aff3 (w:World)(k l m:List Int)(hk:k.length=3)(hl:l.length=3)(hm:m.length=3):R2 0 ((((w.alloc (o1 k)).alloc (o1 l)).alloc (o1 m)).alloc (.cells #[rv w.heap.size 3,rv (w.heap.size+1) 3,rv (w.heap.size+1+1) 3] 24)) (List.replicate 3 3) (rv (w.heap.size+1+1+1) 3):=by
 have h2:=lit1 (w.alloc (o1 k)) l 3 hl (by decide);have h3:=lit1 ((w.alloc (o1 k)).alloc (o1 l)) m 3 hm (by decide);simp only[World.size_alloc]at h2 h3;have h:=litR (((w.alloc (o1 k)).alloc (o1 l)).alloc (o1 m)) [rv w.heap.size 3,rv (w.heap.size+1) 3,rv (w.heap.size+1+1) 3] 3 3 rfl (by decide) (fun u hu=>by
  rcases zq70.1 hu with rfl|hu
  ·exact r1_al _ (r1_al _ (lit1 w k 3 hk (by decide)))
  ·rcases zq70.1 hu with rfl|hu
   ·exact r1_al _ h2
   ·rw[zq54.1 hu];exact h3)
 simpa using h
theorem aff4 (w:World)(k l m n:List Int)(hk:k.length=4)(hl:l.length=4)(hm:m.length=4)(hn:n.length=4):R2 0 (((((w.alloc (o1 k)).alloc (o1 l)).alloc (o1 m)).alloc (o1 n)).alloc (.cells #[rv w.heap.size 4,rv (w.heap.size+1) 4,rv (w.heap.size+1+1) 4,rv (w.heap.size+1+1+1) 4] 24)) (List.replicate 4 4) (rv (w.heap.size+1+1+1+1) 4):=by
 have h2:=lit1 (w.alloc (o1 k)) l 4 hl (by decide);have h3:=lit1 ((w.alloc (o1 k)).alloc (o1 l)) m 4 hm (by decide);have h4:=lit1 (((w.alloc (o1 k)).alloc (o1 l)).alloc (o1 m)) n 4 hn (by decide);simp only[World.size_alloc]at h2 h3 h4;have h:=litR ((((w.alloc (o1 k)).alloc (o1 l)).alloc (o1 m)).alloc (o1 n)) [rv w.heap.size 4,rv (w.heap.size+1) 4,rv (w.heap.size+1+1) 4,rv (w.heap.size+1+1+1) 4] 4 4 rfl (by decide) (fun u hu=>by
  rcases zq70.1 hu with rfl|hu
  ·exact r1_al _ (r1_al _ (r1_al _ (lit1 w k 4 hk (by decide))))
  ·rcases zq70.1 hu with rfl|hu
   ·exact r1_al _ (r1_al _ h2)
   ·rcases zq70.1 hu with rfl|hu
    ·exact r1_al _ h3
    ·rw[zq54.1 hu];exact h4)
 simpa using h
theorem fam_any (g:Nat)(a:Option Addr)(len cap:Nat)(w:World)(h:Sr g a len cap w w):Calls Tryz.prog 146 #[.pointer (some ⟨g,0,none⟩)] w (FaS 12 g a len cap w):=by
 obtain⟨w1,hw1⟩:∃w1,w1=w.alloc zbox:=⟨_,rfl⟩;obtain⟨g0,hg0⟩:∃g0,w.heap.size=g0:=⟨_,rfl⟩;have HH:=hid h;have HS1:=hid (show w1.heap.size=g0+1 by rw[hw1,←hg0];simp);have HK1:=hid (show w1.heap[g0]?=some zbox by rw[hw1,←hg0];exact zq17 _ _);have HS:=hid (show Sr g a len cap w1 w1 by rw[hw1];exact⟨(h.alloc _).1,(h.alloc _).2.1,gr_refl _ _⟩);have HW1:=hid (show Sr g a len cap w w1 by rw[hw1];exact h.alloc _);have HK:=hid (fun(W:World) (hS:Sr g a len cap w1 W)=>show W.heap[g0]?=some zbox∧g0<W.heap.size from
  ⟨(hS.2.2.block g0 (by rw[HS1.out];omega) (fun e=>by injection e with e;have:=HH.out.lt;omega)).trans HK1.out,by have:=hS.2.2.size;rw[HS1.out]at this;omega⟩)
 have HF:=hid (fun(W:World) (hS:Sr g a len cap w1 W) (N:Nat) (hN:N≤12) (x1 x2 x3:Option Addr) (y1 y2 y3:Nat) (hP:PT w1.heap.size W N (.slice x1 N y1) (.slice x2 N y2) (.slice x3 N y3))=>show FaS 12 g a len cap w (.returned (.agg #[.slice x1 N y1,.slice x2 N y2,.slice x3 N y3])) (((W.setCell ⟨g0,0,none⟩ (.slice x1 N y1)).setCell ⟨g0,1,none⟩ (.slice x2 N y2)).setCell ⟨g0,2,none⟩ (.slice x3 N y3)) from
  ⟨N,_,_,_,_,_,_,hN,rfl,(hP.ty (Ty.box3 (HK.out W hS).1)).mono (by rw[HS1.out];omega),(HW1.out.tr hS).set3 HH.out (by omega) _ _ _⟩)
 have HNX:=hid (fun(x:Int) (W:World) (hS:Sr g a len cap w1 W)=>nx_any x g a len cap w1 W hS);clear h;go_enter Tryz.func146,Tryz.ntmps146;go_upto_region 1 with fail;rw[←hw1];clear hw1 hg0;go_upto_region 2 with(go_at_call 52;refine(HNX.out _ _ HS.out).mono ?_;rintro e w2 ⟨r,rfl,hr,hS2⟩;have HS2:=hid hS2;clear hS2);have hr9:r=0∨r=1∨r=2∨r=3∨r=4∨r=5∨r=6∨r=7∨r=8:=by omega
 clear hr;rcases hr9 with rfl|rfl|rfl|rfl|rfl|rfl|rfl|rfl|rfl
 ·go_wp2_with (go_at_call 52;refine(HNX.out _ _ (HS2.out.alloc _)).mono ?_;rintro e w3 ⟨r,rfl,hr,hS3⟩;have HS3:=hid ((HS2.out.alloc _).tr hS3);have hr5:r≤4:=(by omega);have HR3:=hid (show R1 w1.heap.size w3 0 (.slice (some ⟨w2.heap.size,0,none⟩) 0 0) from(Ty.gr hS3.2.2 (by have:=HS.out.lt;omega)).one _ _ ⟨[],rfl,zq47 (e:=2) (size:=1) w2 #[] 0 HS2.out.2.2.size (zq4 _) rfl⟩);clear hS3 hr);go_loopw [3,4] (fun ov kv wr=>∃(j k:Nat) (b:Option Addr) (c:Nat),j+k≤4∧kv= .int .i64 (k:Int)∧ov= .slice b j c∧Hid (R1 w1.heap.size wr j (.slice b j c))∧Hid (Sr g a len cap w1 wr)) (fun _ kv _=>(intOf kv).toNat);case atStart=>exact⟨0,r,_,_,by omega,rfl,rfl,HR3,HS3⟩
  case round=>
   clear HR3 HS3 hr5;obtain⟨j,k,b,c,hjk,rfl,rfl,hR,hS⟩:=hrel;cases k with
   |succ k=>
    have hk0:(0:Int)<((k+1:Nat):Int):=by omega
    have hk1:0<k+1:=by omega
    go_wp2_with (first|(go_at_call 74;refine(pk_any [2,2,3] 3 rfl (by decide) (by decide) g a len cap w1 _ hS.out).mono ?_;rintro e w3 ⟨x,hx,rfl,hS3⟩;have HS3:=hid ((hS.out.alloc _).tr hS3);obtain⟨l,hl,ho3⟩:=((Ty.keep (S:=Any) ((Keep.refl _ w3).alloc (.cells #[.int .i64 x] 2)) fun _ _=>trivial).one _ _ ((Ty.gr hS3.2.2 (by have:=HS.out.lt;omega)).one _ _ ((Ty.keep (S:=Any) ((Keep.refl _ wr).alloc (.cells #[.int .i64 2,.int .i64 2,.int .i64 3] 2)) fun _ _=>trivial).one _ _ hR.out)):R1 w1.heap.size (w3.alloc (.cells #[.int .i64 x] 2)) j (.slice b j c));clear hx hS3)|(at_builtin;refine wpList_app1 rfl _ _ rfl w1.heap.size j w3.heap.size 1 (.slice b j c) (vals l) x rfl ho3 rfl (by simp) (by omega) (zq11 HS3.out.2.2.size (by simp)) ?_;intro v' w4 ho4 hg4 _));obtain⟨b4,c4,rfl⟩:=owns_form ho4;have HR4:=hid (show R1 w1.heap.size w4 (j+1) (.slice b4 (j+1) c4) from⟨l++[x],by simp[hl],by simpa[vals]using ho4⟩);have HS4:=hid (show Sr g a len cap w1 w4 from(HS3.out.alloc _).own HS.out hg4 (fun q e=>(zq8 ho3 q e).1));clear ho3 ho4 hg4 hl hR hS;go_wp2_with fail;go_roundw;case rel=>exact⟨j+1,k,b4,c4,by omega,by go_num,rfl,HR4,HS4⟩
    case measure=>simp[intOf]<;>omega
   |zero=>
    have hk0:¬(0:Int)<((0:Nat):Int):=by omega
    obtain⟨l,hl,hsl⟩:=hR.out.sl;have HT:=hid ((triv_any l _ wr (hsl.mono fun _ _=>trivial) (by omega)).mono fun e w' h=>TrivR.un (b:=12) h (by omega));clear hsl hR;go_wp2_with (go_at_call 96;refine(HT.out).mono ?_;intro e w6 hu;obtain⟨N,x1,x2,x3,y1,y2,y3,hN,rfl,hp,hs⟩:=UnR.fas hS.out hu;have HN:=hid hN;have HS6:=hid hs;have HP6:=hid hp;obtain⟨⟨e0,e1,e2⟩,f0,f1,f2⟩:=row3f (HK.out _ HS6.out).1;have hgl:=(HK.out _ HS6.out).2;clear hu hN hp hs);obtain⟨⟨z0,z1,z2⟩,-⟩:=row3f (put3 (x:=.slice x1 N y1) (y:=.slice x2 N y2) (z:=.slice x3 N y3) (HK.out _ HS6.out).1);exact zq12 (v:=.agg #[.slice x1 N y1,.slice x2 N y2,.slice x3 N y3]) (by simp[results,Tryz.results146,go_sem,z0,z1,z2]) rfl (HF.out _ HS6.out N HN.out _ _ _ _ _ _ HP6.out)
 ·go_wp2_with (first|(go_at_call 74;refine(pk_any [1,4,6,8,9,12,5,7,27,25,36] 11 rfl (by decide) (by decide) g a len cap w1 _ HS2.out).mono ?_;rintro e w3 ⟨x,hx,rfl,hS3⟩;have HS3:=hid ((HS2.out.alloc _).tr hS3);have hx1:1≤x∧x≤40:=(by simp at hx;omega);have hx7:(x=2∨x=3∨x=5)∨True:=.inr trivial;clear hx hS3)|(go_at_call 187;refine(cyc_i _ hx1 _).mono ?_;rintro e w6 ⟨N,x1,x2,x3,y1,y2,y3,c,hN,rfl,hp,hb⟩;have HN:=hid hN;have HS6:=hid ((HS3.out.below hb).alloc (.cells #[.slice x1 N y1,.slice x2 N y2,.slice x3 N y3] 28));have HP6:=hid ((hp.mono HS3.out.2.2.size).ty (Ty.keep (S:=Any) ((Keep.refl _ w6).alloc (.cells #[.slice x1 N y1,.slice x2 N y2,.slice x3 N y3] 28)) fun _ _=>trivial));obtain⟨⟨e0,e1,e2⟩,f0,f1,f2⟩:=row3f (HK.out _ HS6.out).1;have hgl:=(HK.out _ HS6.out).2;clear hN hp hb));obtain⟨⟨z0,z1,z2⟩,-⟩:=row3f (put3 (x:=.slice x1 N y1) (y:=.slice x2 N y2) (z:=.slice x3 N y3) (HK.out _ HS6.out).1);exact zq12 (v:=.agg #[.slice x1 N y1,.slice x2 N y2,.slice x3 N y3]) (by simp[results,Tryz.results146,go_sem,z0,z1,z2]) rfl (HF.out _ HS6.out N HN.out _ _ _ _ _ _ HP6.out)
 ·go_wp2_with (first|(go_at_call 74;refine(pk_any [3,4,5,6,7,8,9,12] 8 rfl (by decide) (by decide) g a len cap w1 _ HS2.out).mono ?_;rintro e w3 ⟨x,hx,rfl,hS3⟩;have HS3:=hid ((HS2.out.alloc _).tr hS3);have hx1:1≤x∧x≤40:=(by simp at hx;omega);have hx7:(x=2∨x=3∨x=5)∨True:=.inr trivial;clear hx hS3)|(go_at_call 188;refine(meta_i _ _ _ _ (by decide) hx1 _).mono ?_;intro e w6 hu;obtain⟨N,x1,x2,x3,y1,y2,y3,hN,rfl,hp,hs⟩:=UnR.fas HS3.out hu;have HN:=hid hN;have HS6:=hid hs;have HP6:=hid hp;obtain⟨⟨e0,e1,e2⟩,f0,f1,f2⟩:=row3f (HK.out _ HS6.out).1;have hgl:=(HK.out _ HS6.out).2;clear hu hN hp hs));obtain⟨⟨z0,z1,z2⟩,-⟩:=row3f (put3 (x:=.slice x1 N y1) (y:=.slice x2 N y2) (z:=.slice x3 N y3) (HK.out _ HS6.out).1);exact zq12 (v:=.agg #[.slice x1 N y1,.slice x2 N y2,.slice x3 N y3]) (by simp[results,Tryz.results146,go_sem,z0,z1,z2]) rfl (HF.out _ HS6.out N HN.out _ _ _ _ _ _ HP6.out)
 ·go_wp2_with (first|(go_at_call 74;refine(pk_any [4,6,8,12] 4 rfl (by decide) (by decide) g a len cap w1 _ HS2.out).mono ?_;rintro e w3 ⟨x,hx,rfl,hS3⟩;have HS3:=hid ((HS2.out.alloc _).tr hS3);have hx1:1≤x∧x≤40:=(by simp at hx;omega);have hx7:(x=2∨x=3∨x=5)∨True:=.inr trivial;clear hx hS3)|(go_at_call 188;refine(meta_i _ _ _ _ (by decide) hx1 _).mono ?_;intro e w6 hu;obtain⟨N,x1,x2,x3,y1,y2,y3,hN,rfl,hp,hs⟩:=UnR.fas HS3.out hu;have HN:=hid hN;have HS6:=hid hs;have HP6:=hid hp;obtain⟨⟨e0,e1,e2⟩,f0,f1,f2⟩:=row3f (HK.out _ HS6.out).1;have hgl:=(HK.out _ HS6.out).2;clear hu hN hp hs));obtain⟨⟨z0,z1,z2⟩,-⟩:=row3f (put3 (x:=.slice x1 N y1) (y:=.slice x2 N y2) (z:=.slice x3 N y3) (HK.out _ HS6.out).1);exact zq12 (v:=.agg #[.slice x1 N y1,.slice x2 N y2,.slice x3 N y3]) (by simp[results,Tryz.results146,go_sem,z0,z1,z2]) rfl (HF.out _ HS6.out N HN.out _ _ _ _ _ _ HP6.out)
 ·go_upto_region 20 with(go_at_call 52;refine(HNX.out _ _ HS2.out).mono ?_;rintro e w3 ⟨r,rfl,hr,hS3⟩;have HS3:=hid (HS2.out.tr hS3);clear hS3);have hr6:r=0∨r=1∨r=2∨r=3∨r=4∨r=5:=by omega
  clear hr;rcases hr6 with rfl|rfl|rfl|rfl|rfl|rfl;all_goals
   go_wp2_with (go_at_call 188;refine(meta_i _ _ _ _ (by decide) (by decide) _).mono ?_;intro e w6 hu;obtain⟨N,x1,x2,x3,y1,y2,y3,hN,rfl,hp,hs⟩:=UnR.fas HS3.out hu;have HN:=hid hN;have HS6:=hid hs;have HP6:=hid hp;obtain⟨⟨e0,e1,e2⟩,f0,f1,f2⟩:=row3f (HK.out _ HS6.out).1;have hgl:=(HK.out _ HS6.out).2;clear hu hN hp hs);obtain⟨⟨z0,z1,z2⟩,-⟩:=row3f (put3 (x:=.slice x1 N y1) (y:=.slice x2 N y2) (z:=.slice x3 N y3) (HK.out _ HS6.out).1);exact zq12 (v:=.agg #[.slice x1 N y1,.slice x2 N y2,.slice x3 N y3]) (by simp[results,Tryz.results146,go_sem,z0,z1,z2]) rfl (HF.out _ HS6.out N HN.out _ _ _ _ _ _ HP6.out)
 ·go_wp2_with (first|(go_at_call 74;refine(pk_any [2,3,2,3,5] 5 rfl (by decide) (by decide) g a len cap w1 _ HS2.out).mono ?_;rintro e w3 ⟨x,hx,rfl,hS3⟩;have HS3:=hid ((HS2.out.alloc _).tr hS3);have hx1:2≤x∧x≤7:=(by simp at hx;omega);clear hx hS3)|(go_at_call 189;refine(heis_i _ hx1 g a len cap w1 _ HS3.out).mono ?_;rintro e w6 ⟨N,x1,x2,x3,y1,y2,y3,hN,rfl,hp,hs⟩;have HN:=hid hN;have HS6:=hid (HS3.out.tr hs);have HP6:=hid (hp.mono HS3.out.2.2.size);obtain⟨⟨e0,e1,e2⟩,f0,f1,f2⟩:=row3f (HK.out _ HS6.out).1;have hgl:=(HK.out _ HS6.out).2;clear hN hp hs));obtain⟨⟨z0,z1,z2⟩,-⟩:=row3f (put3 (x:=.slice x1 N y1) (y:=.slice x2 N y2) (z:=.slice x3 N y3) (HK.out _ HS6.out).1);exact zq12 (v:=.agg #[.slice x1 N y1,.slice x2 N y2,.slice x3 N y3]) (by simp[results,Tryz.results146,go_sem,z0,z1,z2]) rfl (HF.out _ HS6.out N HN.out _ _ _ _ _ _ HP6.out)
 ·go_upto_region 35 with(go_at_call 52;refine(HNX.out _ _ HS2.out).mono ?_;rintro e w3 ⟨r,rfl,hr,hS3⟩;have HS3:=hid (HS2.out.tr hS3);clear hS3);have hr6:r=0∨r=1∨r=2∨r=3∨r=4∨r=5:=by omega
  clear hr;rcases hr6 with rfl|rfl|rfl|rfl|rfl|rfl
  ·go_wp2_with (go_at_call 190;refine(aff_i 3 2 2 (by decide) (by decide) (by decide) _ _ _ (aff2 _ [2,0] [0,2] rfl rfl)).mono ?_;intro e w6 hu;obtain⟨N,x1,x2,x3,y1,y2,y3,hN,rfl,hp,hs⟩:=UnR.fas (((HS3.out.alloc _).alloc _).alloc _) hu;have HN:=hid hN;have HS6:=hid hs;have HP6:=hid hp;obtain⟨⟨e0,e1,e2⟩,f0,f1,f2⟩:=row3f (HK.out _ HS6.out).1;have hgl:=(HK.out _ HS6.out).2;clear hu hN hp hs);obtain⟨⟨z0,z1,z2⟩,-⟩:=row3f (put3 (x:=.slice x1 N y1) (y:=.slice x2 N y2) (z:=.slice x3 N y3) (HK.out _ HS6.out).1);exact zq12 (v:=.agg #[.slice x1 N y1,.slice x2 N y2,.slice x3 N y3]) (by simp[results,Tryz.results146,go_sem,z0,z1,z2]) rfl (HF.out _ HS6.out N HN.out _ _ _ _ _ _ HP6.out)
  ·go_wp2_with (go_at_call 190;refine(aff_i 3 4 2 (by decide) (by decide) (by decide) _ _ _ (aff2 _ [0,1] [2,0] rfl rfl)).mono ?_;intro e w6 hu;obtain⟨N,x1,x2,x3,y1,y2,y3,hN,rfl,hp,hs⟩:=UnR.fas (((HS3.out.alloc _).alloc _).alloc _) hu;have HN:=hid hN;have HS6:=hid hs;have HP6:=hid hp;obtain⟨⟨e0,e1,e2⟩,f0,f1,f2⟩:=row3f (HK.out _ HS6.out).1;have hgl:=(HK.out _ HS6.out).2;clear hu hN hp hs);obtain⟨⟨z0,z1,z2⟩,-⟩:=row3f (put3 (x:=.slice x1 N y1) (y:=.slice x2 N y2) (z:=.slice x3 N y3) (HK.out _ HS6.out).1);exact zq12 (v:=.agg #[.slice x1 N y1,.slice x2 N y2,.slice x3 N y3]) (by simp[results,Tryz.results146,go_sem,z0,z1,z2]) rfl (HF.out _ HS6.out N HN.out _ _ _ _ _ _ HP6.out)
  ·go_wp2_with (go_at_call 190;refine(aff_i 2 7 3 (by decide) (by decide) (by decide) _ _ _ (aff3 _ [0,1,0] [0,0,1] [1,1,0] rfl rfl rfl)).mono ?_;intro e w6 hu;obtain⟨N,x1,x2,x3,y1,y2,y3,hN,rfl,hp,hs⟩:=UnR.fas ((((HS3.out.alloc _).alloc _).alloc _).alloc _) hu;have HN:=hid hN;have HS6:=hid hs;have HP6:=hid hp;obtain⟨⟨e0,e1,e2⟩,f0,f1,f2⟩:=row3f (HK.out _ HS6.out).1;have hgl:=(HK.out _ HS6.out).2;clear hu hN hp hs);obtain⟨⟨z0,z1,z2⟩,-⟩:=row3f (put3 (x:=.slice x1 N y1) (y:=.slice x2 N y2) (z:=.slice x3 N y3) (HK.out _ HS6.out).1);exact zq12 (v:=.agg #[.slice x1 N y1,.slice x2 N y2,.slice x3 N y3]) (by simp[results,Tryz.results146,go_sem,z0,z1,z2]) rfl (HF.out _ HS6.out N HN.out _ _ _ _ _ _ HP6.out)
  ·go_wp2_with (go_at_call 190;refine(aff_i 2 4 3 (by decide) (by decide) (by decide) _ _ _ (aff3 _ [1,1,0] [0,1,1] [0,0,1] rfl rfl rfl)).mono ?_;intro e w6 hu;obtain⟨N,x1,x2,x3,y1,y2,y3,hN,rfl,hp,hs⟩:=UnR.fas ((((HS3.out.alloc _).alloc _).alloc _).alloc _) hu;have HN:=hid hN;have HS6:=hid hs;have HP6:=hid hp;obtain⟨⟨e0,e1,e2⟩,f0,f1,f2⟩:=row3f (HK.out _ HS6.out).1;have hgl:=(HK.out _ HS6.out).2;clear hu hN hp hs);obtain⟨⟨z0,z1,z2⟩,-⟩:=row3f (put3 (x:=.slice x1 N y1) (y:=.slice x2 N y2) (z:=.slice x3 N y3) (HK.out _ HS6.out).1);exact zq12 (v:=.agg #[.slice x1 N y1,.slice x2 N y2,.slice x3 N y3]) (by simp[results,Tryz.results146,go_sem,z0,z1,z2]) rfl (HF.out _ HS6.out N HN.out _ _ _ _ _ _ HP6.out)
  ·go_wp2_with (go_at_call 190;refine(aff_i 2 2 4 (by decide) (by decide) (by decide) _ _ _ (aff4 _ [0,1,0,0] [1,0,0,0] [0,0,0,1] [0,0,1,0] rfl rfl rfl rfl)).mono ?_;intro e w6 hu;obtain⟨N,x1,x2,x3,y1,y2,y3,hN,rfl,hp,hs⟩:=UnR.fas (((((HS3.out.alloc _).alloc _).alloc _).alloc _).alloc _) hu;have HN:=hid hN;have HS6:=hid hs;have HP6:=hid hp;obtain⟨⟨e0,e1,e2⟩,f0,f1,f2⟩:=row3f (HK.out _ HS6.out).1;have hgl:=(HK.out _ HS6.out).2;clear hu hN hp hs);obtain⟨⟨z0,z1,z2⟩,-⟩:=row3f (put3 (x:=.slice x1 N y1) (y:=.slice x2 N y2) (z:=.slice x3 N y3) (HK.out _ HS6.out).1);exact zq12 (v:=.agg #[.slice x1 N y1,.slice x2 N y2,.slice x3 N y3]) (by simp[results,Tryz.results146,go_sem,z0,z1,z2]) rfl (HF.out _ HS6.out N HN.out _ _ _ _ _ _ HP6.out)
  ·go_wp2_with (go_at_call 190;refine(aff_i 5 3 2 (by decide) (by decide) (by decide) _ _ _ (aff2 _ [0,1] [4,4] rfl rfl)).mono ?_;intro e w6 hu;obtain⟨N,x1,x2,x3,y1,y2,y3,hN,rfl,hp,hs⟩:=UnR.fas (((HS3.out.alloc _).alloc _).alloc _) hu;have HN:=hid hN;have HS6:=hid hs;have HP6:=hid hp;obtain⟨⟨e0,e1,e2⟩,f0,f1,f2⟩:=row3f (HK.out _ HS6.out).1;have hgl:=(HK.out _ HS6.out).2;clear hu hN hp hs);obtain⟨⟨z0,z1,z2⟩,-⟩:=row3f (put3 (x:=.slice x1 N y1) (y:=.slice x2 N y2) (z:=.slice x3 N y3) (HK.out _ HS6.out).1);exact zq12 (v:=.agg #[.slice x1 N y1,.slice x2 N y2,.slice x3 N y3]) (by simp[results,Tryz.results146,go_sem,z0,z1,z2]) rfl (HF.out _ HS6.out N HN.out _ _ _ _ _ _ HP6.out)
 ·go_wp2_with (first|(go_at_call 52;refine(HNX.out _ _ HS2.out).mono ?_;rintro e w3 ⟨r,rfl,hr,hS3⟩;have HS3:=hid (HS2.out.tr hS3);have hr1:r<10:=(by omega);clear hr hS3)|(go_at_call 191;refine(tab_any r hr1 _).mono ?_;intro e w6 hu;obtain⟨N,x1,x2,x3,y1,y2,y3,hN,rfl,hp,hs⟩:=UnR.fas HS3.out hu;have HN:=hid hN;have HS6:=hid hs;have HP6:=hid hp;obtain⟨⟨e0,e1,e2⟩,f0,f1,f2⟩:=row3f (HK.out _ HS6.out).1;have hgl:=(HK.out _ HS6.out).2;clear hu hN hp hs));obtain⟨⟨z0,z1,z2⟩,-⟩:=row3f (put3 (x:=.slice x1 N y1) (y:=.slice x2 N y2) (z:=.slice x3 N y3) (HK.out _ HS6.out).1);exact zq12 (v:=.agg #[.slice x1 N y1,.slice x2 N y2,.slice x3 N y3]) (by simp[results,Tryz.results146,go_sem,z0,z1,z2]) rfl (HF.out _ HS6.out N HN.out _ _ _ _ _ _ HP6.out)
 ·go_wp2_with (first|(go_at_call 52;refine(HNX.out _ _ HS2.out).mono ?_;rintro e w3 ⟨r,rfl,hr,hS3⟩;have HS3:=hid (HS2.out.tr hS3);have hr1:r<10:=(by omega);clear hr hS3)|(go_at_call 191;refine(tab_any r hr1 _).mono ?_;intro e w6 hu;obtain⟨N,x1,x2,x3,y1,y2,y3,hN,rfl,hp,hs⟩:=UnR.fas HS3.out hu;have HN:=hid hN;have HS6:=hid hs;have HP6:=hid hp;obtain⟨⟨e0,e1,e2⟩,f0,f1,f2⟩:=row3f (HK.out _ HS6.out).1;have hgl:=(HK.out _ HS6.out).2;clear hu hN hp hs));obtain⟨⟨z0,z1,z2⟩,-⟩:=row3f (put3 (x:=.slice x1 N y1) (y:=.slice x2 N y2) (z:=.slice x3 N y3) (HK.out _ HS6.out).1);exact zq12 (v:=.agg #[.slice x1 N y1,.slice x2 N y2,.slice x3 N y3]) (by simp[results,Tryz.results146,go_sem,z0,z1,z2]) rfl (HF.out _ HS6.out N HN.out _ _ _ _ _ _ HP6.out)
end Go.Proofs.YtlmlamcoeegkbaaGreat.DwY
namespace Go.Proofs.YtlmlamcoeegkbaaGreat.DwG
open Go.RowKit Go.Proofs.YtlmlamcoeegkbaaGreat Tow CyA CyB CyC DwT DwB DwC DwD
theorem both_any (m n:Nat)(hmn:m+n≤100)(aO aP aC bO bP bC:Value)(w:World)(hA:PT 0 w m aO aP aC)(hB:PT 0 w n bO bP bC):
  Calls Tryz.prog 147 #[.agg #[aO,aP,aC],.agg #[bO,bP,bC]] w (TrivR (m+n) w):=by
 obtain⟨i0,hi,hz0,hz1,hz2⟩:=zq41 infoI;obtain⟨a1,c1,a2,c2,a3,c3,rfl,rfl,rfl⟩:=hA.form;obtain⟨b1,d1,b2,d2,b3,d3,rfl,rfl,rfl⟩:=hB.form;have HA:=hid hA;have HB:=hid hB;clear hA hB;go_enter Tryz.func147,Tryz.ntmps147;go_upto_region 1 with fail;obtain⟨w1,hw1⟩:∃w1,w1=(((w.alloc (.cells #[.slice a1 m c1,.slice a2 m c2,.slice a3 m c3] 28)).alloc (.cells #[.slice b1 n d1,.slice b2 n d2,.slice b3 n d3] 28)).alloc (.cells #[.slice none 0 0,.slice none 0 0,.slice none 0 0] 28)):=⟨_,rfl⟩;rw[←hw1];have G1:=hid (show w1.heap[w.heap.size]?=some (.cells #[.slice a1 m c1,.slice a2 m c2,.slice a3 m c3] 28 (0,0)) by rw[hw1,zq48 _ _ _ (by simp;omega),zq48 _ _ _ (by simp)];exact zq17 _ _);have G2:=hid (show w1.heap[w.heap.size+1]?=some (.cells #[.slice b1 n d1,.slice b2 n d2,.slice b3 n d3] 28 (0,0)) by rw[hw1,zq48 _ _ _ (by simp)];exact(by have:=zq17 (w.alloc (.cells #[.slice a1 m c1,.slice a2 m c2,.slice a3 m c3] 28)) (.cells #[.slice b1 n d1,.slice b2 n d2,.slice b3 n d3] 28);simpa using this));have G3:=hid (show w1.heap[w.heap.size+1+1]?=some (.cells #[.slice none 0 0,.slice none 0 0,.slice none 0 0] 28 (0,0)) by rw[hw1];exact(by have:=zq17 ((w.alloc (.cells #[.slice a1 m c1,.slice a2 m c2,.slice a3 m c3] 28)).alloc (.cells #[.slice b1 n d1,.slice b2 n d2,.slice b3 n d3] 28)) (.cells #[.slice none 0 0,.slice none 0 0,.slice none 0 0] 28);simpa using this));have HS1:=hid (show w1.heap.size=w.heap.size+3 by rw[hw1];simp);have HB1:=hid (show Below w.heap.size w w1 by rw[hw1];exact(((zqB.alloc zqN _).alloc (by simp) _).alloc (by simp;omega) _));clear hw1;obtain⟨⟨e0,e1,e2⟩,-⟩:=row3f G1.out;obtain⟨⟨f0,f1,f2⟩,-⟩:=row3f G2.out;go_cut [5,6] (fun u v W=>u= .int .i64 (m:Int)∧v= .int .i64 (n:Int)∧Below w1.heap.size w1 W∧W.heap.size=w1.heap.size);case first=>
  go_region_law (fail);all_goals
   go_wp2_with fail;go_meet;exact⟨rfl,rfl,zqB.drew,rfl⟩
 case rest=>
  obtain⟨rfl,rfl,hbw,hsw⟩:=hcut;have K1:=hid (blk' hbw (by have:=HS1.out;omega) G1.out);have K2:=hid (blk' hbw (by have:=HS1.out;omega) G2.out);have K3:=hid (blk' hbw (by have:=HS1.out;omega) G3.out);have HSc:=hid (show wc.heap.size=w.heap.size+3 from hsw.trans HS1.out);have HBc:=hid (HB1.out.trans (hbw.mono (by have:=HS1.out;omega)));clear G1 G2 G3 HS1 HB1 hbw hsw e0 e1 e2 f0 f1 f2;have HA1:=hid (HA.out.ty (Ty.below HBc.out));have HB1':=hid (HB.out.ty (Ty.below HBc.out));obtain⟨⟨e0,e1,e2⟩,-⟩:=row3f K1.out;obtain⟨⟨f0,f1,f2⟩,-⟩:=row3f K2.out;go_upto_region 2 with fail;obtain⟨wb,rfl⟩:∃wb,wb=wc:=⟨_,rfl⟩;obtain⟨lA,hla,hsA⟩:=HA1.out.1.sl;obtain⟨lB,hlb,hsB⟩:=HB1'.out.1.sl;have HLB:=hid (hsB.mono (S':=Any) fun _ _=>trivial);have HOWN:=hid (fun(W:World) (hk:Keep Any wb W)=>(own_any Any (.slice a1 m c1) lA W ((hsA.mono fun _ _=>trivial).keep hk) (by omega)).mono (R':=fun e w'=>∃g c,e= .returned (.slice (some ⟨g,0,none⟩) m c)∧w'.ownsRow W.heap.size 2 1 (.slice (some ⟨g,0,none⟩) m c) m (vals lA)∧Below W.heap.size W w') (by
   rintro e w2 ⟨g,c,rfl,ho,hb⟩;unfold Own at ho;rw[hla]at ho ⊢;exact⟨g,c,rfl,ho,hb⟩))
  have HTRV:=hid (fun(W:World) (v:Value) (h:SlI Any W v (lA++lB))=>(triv_any (lA++lB) v W h (by rw[zq31];omega)).mono (R':=fun e w'=>∃x1 y1 x2 y2 x3 y3,e= .returned (.agg #[.slice x1 (m+n) y1,.slice x2 (m+n) y2,.slice x3 (m+n) y3])∧PT W.heap.size w' (m+n) (.slice x1 (m+n) y1) (.slice x2 (m+n) y2) (.slice x3 (m+n) y3)∧Below W.heap.size W w') (by
   rintro e w2 ⟨vO,vP,vC,rfl,hp,hb⟩;rw[zq31,hla,hlb]at hp;obtain⟨x1,y1,x2,y2,x3,y3,rfl,rfl,rfl⟩:=hp.form;exact⟨_,_,_,_,_,_,rfl,hp,hb⟩))
  have hw0:w.heap.size<wb.heap.size:=by have:=HSc.out;omega
  have hw01:w.heap.size+1<wb.heap.size:=by have:=HSc.out;omega
  have HLL:=hid (show lA.length=m∧lB.length=n from⟨hla,hlb⟩);clear hla hlb hsA hsB;go_cut [7] (fun tv W=>∃g x1 y1 x2 y2 x3 y3,tv= .pointer (some ⟨g,0,none⟩)∧Hid (PX wb.heap.size (m+n) W g (.slice x1 (m+n) y1) (.slice x2 (m+n) y2) (.slice x3 (m+n) y3))∧Hid (Below wb.heap.size wb W));case rest=>
   obtain⟨g,x1,y1,x2,y2,x3,y3,rfl,hX,hBX⟩:=hcut;obtain⟨N,hN⟩:∃N,m+n=N:=⟨_,rfl⟩;rw[hN]at hX;have HN:=hid hN;have hN6:N≤100:=by omega
   have K3':=K3;have HSc':=HSc;clear hN HOWN HTRV HLB HA HB HLL K3 HSc e0 e1 e2 f0 f1 f2;go_wp2_with fail;go_loopw [8] (fun iv wr=>∃i:Nat,i≤m∧iv= .int .i64 (i:Int)∧Hid (PX wb.heap.size N wr g (.slice x1 N y1) (.slice x2 N y2) (.slice x3 N y3))∧Hid (Below wb.heap.size wb wr)) (fun iv _=>m-(intOf iv).toNat);case atStart=>exact⟨0,zq4 _,rfl,hX,hBX⟩
   case round=>
    clear hX hBX;obtain⟨i,hi,rfl,hX1,hB1⟩:=hrel;by_cases hlt:i<m
    ·have hki:(i:Int)<(m:Int):=by omega
     have hki0:(0:Int)≤(i:Int):=by omega
     have hkN:(i:Int)<(N:Int):=by have:=HN.out;omega
     have hiN:i<N:=by have:=HN.out;omega
     have L1:=hid (blk' hB1.out hw0 K1.out);obtain⟨⟨e0,e1,e2⟩,-⟩:=row3f L1.out;obtain⟨⟨p0,p1,p2⟩,-⟩:=row3f hX1.out.1;have hgl:=hX1.out.lt;have hsz:=hB1.out.size;have hbxl:w.heap.size<wr.heap.size:=zq7 hw0 hsz;obtain⟨gp,rfl,hsl⟩:=hX1.out.pslot hiN;have HSL:=hid hsl;have hbxp:¬w.heap.size=gp:=by have h:=hw0;have h2:=hsl.2.1;omega
     have hgp:¬g=gp:=fun h=>by
      obtain⟨_,_,_,cur,u0,h4,_⟩:=hsl;have h5:=hX1.out.1;rw[h,h4]at h5;simp at h5
     clear hsl;obtain⟨ga,aa,ca,rfl,ha1,ha2,ha3⟩:=prow HA1.out hlt;have ha1:=((Keep.of_below (S:=Any) hB1.out).cell trivial ha2).trans ha1;have hgap:¬ga=gp:=by have:=HSL.out.2.1;omega
     have ha2:=zq7 ha2 hsz;have HSH:=hid (fun(W:World) (hk:Keep Any wr W)=>show Calls Tryz.prog 192 #[.int .i64 0,.slice aa m ca,.int .i64 (n:Int)] W (ShR N W) from by
      have h:=shift_r 0 n m (by omega) (by omega) (by omega) (.slice aa m ca) 0 W ((Ty.keep hk (fun _ _=>trivial)).one _ _ ((Ty.below hB1.out).one _ _ ha3));rw[show 0+m+n=N from by have:=HN.out;omega]at h;exact h)
     clear ha3;go_upto_region 6 with fail;go_region_held3 (fun w'=>(∀b o,b<wr.heap.size→¬b=gp→w'.cell? ⟨b,o,none⟩=wr.cell? ⟨b,o,none⟩)∧Keep (fun k=>k≠gp) wr w')
      (first|exact kn_mk (by repeat(first|exact zqK.drew|exact Keep.refl _ _|refine Keep.setCell ?_ (by simp) _|refine Keep.trans ?_ (Keep.of_below (by assumption)))))
      (first|(go_at_call 192;refine(HSH.out _ (by repeat(first|exact zqK.drew|exact Keep.refl _ _|refine Keep.drew ?_|refine Keep.trans ?_ (Keep.of_below (by assumption))))).mono ?_;rintro e w6 ⟨g6,c6,rfl,hr6,hb6⟩;have B6:Below wr.heap.size wr w6:=(by first|exact hb6|exact(zqB.drew).trans hb6);have f6:=(HSL.out.below B6).1;obtain⟨u6,s6⟩:=(HSL.out.below B6).cell)|fail)
     rename_i hHd;clear hHd;obtain⟨w7,hw7⟩:∃w7,w6.setCell ⟨gp,i,none⟩ (.slice (some ⟨g6,0,none⟩) N c6)=w7:=⟨_,rfl⟩;have HX7:=hid (show PX wb.heap.size N w7 g (.slice x1 N y1) (.slice (some ⟨gp,0,none⟩) N y2) (.slice x3 N y3) from by
      rw[←hw7];exact(HSL.out.below B6).put (hX1.out.below B6) (hr6.mono (by first|exact hsz|simpa using hsz)))
     have HB7:=hid (show Below wb.heap.size wb w7 from by
      rw[←hw7];exact(hB1.out.trans (B6.mono hsz)).setCell (p:=⟨gp,i,none⟩) HSL.out.2.1 _)
     rw[hw7];clear hw7 hr6 hb6 B6 f6 s6 HSH ha1 hgap ha2 hgp hbxp HSL hgl p0 p1 p2 e0 e1 e2 L1 hX1 hB1 hsz hbxl hkN;obtain⟨mi,hmi⟩:∃mi,m-(i+1)=mi:=⟨_,rfl⟩;go_wp2_with fail;go_loopw [9] (fun jv wr=>∃j:Nat,j≤mi∧jv= .int .i64 (j:Int)∧Hid (PX wb.heap.size N wr g (.slice x1 N y1) (.slice (some ⟨gp,0,none⟩) N y2) (.slice x3 N y3))∧Hid (Below wb.heap.size wb wr)) (fun jv _=>mi-(intOf jv).toNat);case atStart=>exact⟨0,zq4 _,rfl,HX7,HB7⟩
     case round=>
      clear HX7 HB7;obtain⟨j,hj,rfl,hX1,hB1⟩:=hrel;have L1:=hid (blk' hB1.out hw0 K1.out);obtain⟨⟨e0,e1,e2⟩,-⟩:=row3f L1.out;have hsz:=hB1.out.size;have hbxl:w.heap.size<wr.heap.size:=zq7 hw0 hsz;obtain⟨gq,aq,cq,rfl,hq1,hq2,hq3⟩:=crow HA1.out hlt;have hqw:=((Keep.of_below (S:=Any) hB1.out).cell trivial hq2).trans hq1;rw[hmi]at hqw hq3;have hq2':=zq7 hq2 hsz;by_cases hlj:j<mi
      ·have hkj:(j:Int)<(mi:Int):=by omega
       have hkj0:(0:Int)≤(j:Int):=by omega
       have hkN:(i:Int)<(N:Int):=by have:=HN.out;omega
       obtain⟨⟨p0,p1,p2⟩,-⟩:=row3f hX1.out.1;have hgl:=hX1.out.lt;obtain⟨ni,hni⟩:∃ni,N-(i+1)=ni:=⟨_,rfl⟩;obtain⟨gc,gr,yr,rfl,hc1,hc2,hsl⟩:=hX1.out.cslot (i:=i) (j:=j) hiN (by have:=HN.out;omega);rw[hni]at hc1;have hjn:(j:Int)<(ni:Int):=by have:=HN.out;omega
       have HSL:=hid hsl;have hbxp:¬w.heap.size=gr:=by have h:=hw0;have h2:=hsl.2.1;omega
       have hgp:¬g=gr:=fun h=>by
        obtain⟨_,_,_,cur,u0,h4,_⟩:=hsl;have h5:=hX1.out.1;rw[h,h4]at h5;simp at h5
       have hgcr:¬gc=gr:=fun h=>by
        obtain⟨gc',u,e,h1,h2,h3,h4⟩:=hX1.out.2.2.2.2.at (cshape_get hiN);obtain⟨us,q1,_⟩:=hX1.out.2.2.2.2;obtain⟨_,_,_,cur,u0,h5,_⟩:=hsl;exact owns_ne q1 h5 (by decide) (by rw[h];rfl)
       clear hsl;obtain⟨ga,aa,ca,rfl,ha1,ha2,ha3⟩:=r2row hq3 hlj;have ha1:=((Keep.of_below (S:=Any) hB1.out).cell trivial ha2).trans ha1;have hgap:¬ga=gr:=by have:=HSL.out.2.1;omega
       have hgqp:¬gq=gr:=by have:=HSL.out.2.1;omega
       have ha2:=zq7 ha2 hsz;have HSH:=hid (fun(W:World) (hk:Keep Any wr W)=>show Calls Tryz.prog 192 #[.int .i64 0,.slice aa m ca,.int .i64 (n:Int)] W (ShR N W) from by
        have h:=shift_r 0 n m (by omega) (by omega) (by omega) (.slice aa m ca) 0 W ((Ty.keep hk (fun _ _=>trivial)).one _ _ ((Ty.below hB1.out).one _ _ ha3));rw[show 0+m+n=N from by have:=HN.out;omega]at h;exact h)
       have hj6:j≤100:=by omega
       clear ha3 hq3 hq1 hq2;go_upto_region 10 with fail;go_region_held3 (fun w'=>(∀b o,b<wr.heap.size→¬b=gr→w'.cell? ⟨b,o,none⟩=wr.cell? ⟨b,o,none⟩)∧Keep (fun k=>k≠gr) wr w')
        (first|exact kn_mk (by repeat(first|exact zqK.drew|exact Keep.refl _ _|refine Keep.setCell ?_ (by simp) _|refine Keep.trans ?_ (Keep.of_below (by assumption)))))
        (first|(go_at_call 192;refine(HSH.out _ (by repeat(first|exact zqK.drew|exact Keep.refl _ _|refine Keep.drew ?_|refine Keep.trans ?_ (Keep.of_below (by assumption))))).mono ?_;rintro e w6 ⟨g6,c6,rfl,hr6,hb6⟩;have B6:Below wr.heap.size wr w6:=(by first|exact hb6|exact(zqB.drew).trans hb6);have f6:=(HSL.out.below B6).1;obtain⟨u6,s6⟩:=(HSL.out.below B6).cell)|fail)
       rename_i hHd;clear hHd;have HX7:=hid (show PX wb.heap.size N (w6.setCell ⟨gr,j,none⟩ (.slice (some ⟨g6,0,none⟩) N c6)) g (.slice x1 N y1) (.slice (some ⟨gp,0,none⟩) N y2) (.slice (some ⟨gc,0,none⟩) N y3) from
        (HSL.out.below B6).put (hX1.out.below B6) (hr6.mono (by first|exact hsz|simpa using hsz)))
       have HB7:=hid (show Below wb.heap.size wb (w6.setCell ⟨gr,j,none⟩ (.slice (some ⟨g6,0,none⟩) N c6)) from
        (hB1.out.trans (B6.mono hsz)).setCell (p:=⟨gr,j,none⟩) HSL.out.2.1 _)
       clear hr6 hb6 B6 f6 s6 HSH ha1 hgap ha2 hgp hbxp HSL hgl p0 p1 p2 e0 e1 e2 L1 hX1 hB1;go_wp2_with fail;go_roundw;case rel=>exact⟨j+1,by omega,by go_num,HX7,HB7⟩
       case measure=>simp[intOf];omega
      ·obtain rfl:mi=j:=by omega
       have hnj:¬(mi:Int)<(mi:Int):=by omega
       have hi6:i≤100:=by omega
       clear hq3;go_wp2_with fail;go_roundw;case rel=>exact⟨i+1,by omega,by go_num,hX1,hB1⟩
       case measure=>simp[intOf];omega
    ·obtain rfl:m=i:=by omega
     have hnl:¬(m:Int)<(m:Int):=by omega
     clear hlt;go_wp2_with fail;go_loopw [10] (fun iv wr=>∃i:Nat,i≤n∧iv= .int .i64 (i:Int)∧Hid (PX wb.heap.size N wr g (.slice x1 N y1) (.slice x2 N y2) (.slice x3 N y3))∧Hid (Below wb.heap.size wb wr)) (fun iv _=>n-(intOf iv).toNat);case atStart=>exact⟨0,zq4 _,rfl,hX1,hB1⟩
     case round=>
      clear hX1 hB1;obtain⟨i,hi,rfl,hX1,hB1⟩:=hrel;by_cases hlt:i<n
      ·have hki:(i:Int)<(n:Int):=by omega
       have hki0:(0:Int)≤(i:Int):=by omega
       have hkN:(m:Int)+(i:Int)<(N:Int):=by have:=HN.out;omega
       have hwm:IntKind.i64.wrap ((m:Int)+(i:Int))=(m:Int)+(i:Int):=zq6 _ (by omega);have hkN0:(0:Int)≤(m:Int)+(i:Int):=by omega
       have htn:((m:Int)+(i:Int)).toNat=m+i:=by omega
       have hiN:(m+i)<N:=by have:=HN.out;omega
       have L1:=hid (blk' hB1.out hw01 K2.out);obtain⟨⟨e0,e1,e2⟩,-⟩:=row3f L1.out;obtain⟨⟨p0,p1,p2⟩,-⟩:=row3f hX1.out.1;have hgl:=hX1.out.lt;have hsz:=hB1.out.size;have hbxl:(w.heap.size+1)<wr.heap.size:=zq7 hw01 hsz;obtain⟨gp,rfl,hsl⟩:=hX1.out.pslot hiN;have HSL:=hid hsl;have hbxp:¬(w.heap.size+1)=gp:=by have h:=hw01;have h2:=hsl.2.1;omega
       have hgp:¬g=gp:=fun h=>by
        obtain⟨_,_,_,cur,u0,h4,_⟩:=hsl;have h5:=hX1.out.1;rw[h,h4]at h5;simp at h5
       clear hsl;obtain⟨ga,aa,ca,rfl,ha1,ha2,ha3⟩:=prow HB1'.out hlt;have ha1:=((Keep.of_below (S:=Any) hB1.out).cell trivial ha2).trans ha1;have hgap:¬ga=gp:=by have:=HSL.out.2.1;omega
       have ha2:=zq7 ha2 hsz;have HSH:=hid (fun(W:World) (hk:Keep Any wr W)=>show Calls Tryz.prog 192 #[.int .i64 (m:Int),.slice aa n ca,.int .i64 0] W (ShR N W) from by
        have h:=shift_r m 0 n (by omega) (by omega) (by omega) (.slice aa n ca) 0 W ((Ty.keep hk (fun _ _=>trivial)).one _ _ ((Ty.below hB1.out).one _ _ ha3));rw[show m+n+0=N from by have:=HN.out;omega]at h;exact h)
       clear ha3;go_upto_region 14 with fail;go_region_held3 (fun w'=>(∀b o,b<wr.heap.size→¬b=gp→w'.cell? ⟨b,o,none⟩=wr.cell? ⟨b,o,none⟩)∧Keep (fun k=>k≠gp) wr w')
        (first|exact kn_mk (by repeat(first|exact zqK.drew|exact Keep.refl _ _|refine Keep.setCell ?_ (by simp) _|refine Keep.trans ?_ (Keep.of_below (by assumption)))))
        (first|(go_at_call 192;refine(HSH.out _ (by repeat(first|exact zqK.drew|exact Keep.refl _ _|refine Keep.drew ?_|refine Keep.trans ?_ (Keep.of_below (by assumption))))).mono ?_;rintro e w6 ⟨g6,c6,rfl,hr6,hb6⟩;have B6:Below wr.heap.size wr w6:=(by first|exact hb6|exact(zqB.drew).trans hb6);have f6:=(HSL.out.below B6).1;obtain⟨u6,s6⟩:=(HSL.out.below B6).cell)|fail)
       rename_i hHd;clear hHd;obtain⟨w7,hw7⟩:∃w7,w6.setCell ⟨gp,(m+i),none⟩ (.slice (some ⟨g6,0,none⟩) N c6)=w7:=⟨_,rfl⟩;have HX7:=hid (show PX wb.heap.size N w7 g (.slice x1 N y1) (.slice (some ⟨gp,0,none⟩) N y2) (.slice x3 N y3) from by
        rw[←hw7];exact(HSL.out.below B6).put (hX1.out.below B6) (hr6.mono (by first|exact hsz|simpa using hsz)))
       have HB7:=hid (show Below wb.heap.size wb w7 from by
        rw[←hw7];exact(hB1.out.trans (B6.mono hsz)).setCell (p:=⟨gp,(m+i),none⟩) HSL.out.2.1 _)
       rw[hw7];clear hw7 hr6 hb6 B6 f6 s6 HSH ha1 hgap ha2 hgp hbxp HSL hgl p0 p1 p2 e0 e1 e2 L1 hX1 hB1 hsz hbxl hkN;obtain⟨mi,hmi⟩:∃mi,n-(i+1)=mi:=⟨_,rfl⟩;go_wp2_with fail;go_loopw [11] (fun jv wr=>∃j:Nat,j≤mi∧jv= .int .i64 (j:Int)∧Hid (PX wb.heap.size N wr g (.slice x1 N y1) (.slice (some ⟨gp,0,none⟩) N y2) (.slice x3 N y3))∧Hid (Below wb.heap.size wb wr)) (fun jv _=>mi-(intOf jv).toNat);case atStart=>exact⟨0,zq4 _,rfl,HX7,HB7⟩
       case round=>
        clear HX7 HB7;obtain⟨j,hj,rfl,hX1,hB1⟩:=hrel;have L1:=hid (blk' hB1.out hw01 K2.out);obtain⟨⟨e0,e1,e2⟩,-⟩:=row3f L1.out;have hsz:=hB1.out.size;have hbxl:(w.heap.size+1)<wr.heap.size:=zq7 hw01 hsz;obtain⟨gq,aq,cq,rfl,hq1,hq2,hq3⟩:=crow HB1'.out hlt;have hqw:=((Keep.of_below (S:=Any) hB1.out).cell trivial hq2).trans hq1;rw[hmi]at hqw hq3;have hq2':=zq7 hq2 hsz;by_cases hlj:j<mi
        ·have hkj:(j:Int)<(mi:Int):=by omega
         have hkj0:(0:Int)≤(j:Int):=by omega
         have hkN:(m:Int)+(i:Int)<(N:Int):=by have:=HN.out;omega
         have hwm:IntKind.i64.wrap ((m:Int)+(i:Int))=(m:Int)+(i:Int):=zq6 _ (by omega);have hkN0:(0:Int)≤(m:Int)+(i:Int):=by omega
         have htn:((m:Int)+(i:Int)).toNat=m+i:=by omega
         obtain⟨⟨p0,p1,p2⟩,-⟩:=row3f hX1.out.1;have hgl:=hX1.out.lt;obtain⟨ni,hni⟩:∃ni,N-((m+i)+1)=ni:=⟨_,rfl⟩;obtain⟨gc,gr,yr,rfl,hc1,hc2,hsl⟩:=hX1.out.cslot (i:=(m+i)) (j:=j) hiN (by have:=HN.out;omega);rw[hni]at hc1;have hjn:(j:Int)<(ni:Int):=by have:=HN.out;omega
         have HSL:=hid hsl;have hbxp:¬(w.heap.size+1)=gr:=by have h:=hw01;have h2:=hsl.2.1;omega
         have hgp:¬g=gr:=fun h=>by
          obtain⟨_,_,_,cur,u0,h4,_⟩:=hsl;have h5:=hX1.out.1;rw[h,h4]at h5;simp at h5
         have hgcr:¬gc=gr:=fun h=>by
          obtain⟨gc',u,e,h1,h2,h3,h4⟩:=hX1.out.2.2.2.2.at (cshape_get hiN);obtain⟨us,q1,_⟩:=hX1.out.2.2.2.2;obtain⟨_,_,_,cur,u0,h5,_⟩:=hsl;exact owns_ne q1 h5 (by decide) (by rw[h];rfl)
         clear hsl;obtain⟨ga,aa,ca,rfl,ha1,ha2,ha3⟩:=r2row hq3 hlj;have ha1:=((Keep.of_below (S:=Any) hB1.out).cell trivial ha2).trans ha1;have hgap:¬ga=gr:=by have:=HSL.out.2.1;omega
         have hgqp:¬gq=gr:=by have:=HSL.out.2.1;omega
         have ha2:=zq7 ha2 hsz;have HSH:=hid (fun(W:World) (hk:Keep Any wr W)=>show Calls Tryz.prog 192 #[.int .i64 (m:Int),.slice aa n ca,.int .i64 0] W (ShR N W) from by
          have h:=shift_r m 0 n (by omega) (by omega) (by omega) (.slice aa n ca) 0 W ((Ty.keep hk (fun _ _=>trivial)).one _ _ ((Ty.below hB1.out).one _ _ ha3));rw[show m+n+0=N from by have:=HN.out;omega]at h;exact h)
         have hj6:j≤100:=by omega
         clear ha3 hq3 hq1 hq2;go_upto_region 18 with fail;go_region_held3 (fun w'=>(∀b o,b<wr.heap.size→¬b=gr→w'.cell? ⟨b,o,none⟩=wr.cell? ⟨b,o,none⟩)∧Keep (fun k=>k≠gr) wr w')
          (first|exact kn_mk (by repeat(first|exact zqK.drew|exact Keep.refl _ _|refine Keep.setCell ?_ (by simp) _|refine Keep.trans ?_ (Keep.of_below (by assumption)))))
          (first|(go_at_call 192;refine(HSH.out _ (by repeat(first|exact zqK.drew|exact Keep.refl _ _|refine Keep.drew ?_|refine Keep.trans ?_ (Keep.of_below (by assumption))))).mono ?_;rintro e w6 ⟨g6,c6,rfl,hr6,hb6⟩;have B6:Below wr.heap.size wr w6:=(by first|exact hb6|exact(zqB.drew).trans hb6);have f6:=(HSL.out.below B6).1;obtain⟨u6,s6⟩:=(HSL.out.below B6).cell)|fail)
         rename_i hHd;clear hHd;have HX7:=hid (show PX wb.heap.size N (w6.setCell ⟨gr,j,none⟩ (.slice (some ⟨g6,0,none⟩) N c6)) g (.slice x1 N y1) (.slice (some ⟨gp,0,none⟩) N y2) (.slice (some ⟨gc,0,none⟩) N y3) from
          (HSL.out.below B6).put (hX1.out.below B6) (hr6.mono (by first|exact hsz|simpa using hsz)))
         have HB7:=hid (show Below wb.heap.size wb (w6.setCell ⟨gr,j,none⟩ (.slice (some ⟨g6,0,none⟩) N c6)) from
          (hB1.out.trans (B6.mono hsz)).setCell (p:=⟨gr,j,none⟩) HSL.out.2.1 _)
         clear hr6 hb6 B6 f6 s6 HSH ha1 hgap ha2 hgp hbxp HSL hgl p0 p1 p2 e0 e1 e2 L1 hX1 hB1;go_wp2_with fail;go_roundw;case rel=>exact⟨j+1,by omega,by go_num,HX7,HB7⟩
         case measure=>simp[intOf];omega
        ·obtain rfl:mi=j:=by omega
         have hnj:¬(mi:Int)<(mi:Int):=by omega
         have hi6:i≤100:=by omega
         clear hq3;go_wp2_with fail;go_roundw;case rel=>exact⟨i+1,by omega,by go_num,hX1,hB1⟩
         case measure=>simp[intOf];omega
      ·obtain rfl:n=i:=by omega
       have hnl:¬(n:Int)<(n:Int):=by omega
       clear hlt;have hgs:w.heap.size+1+1<wb.heap.size:=by have:=HSc'.out;omega
       have LG:=hid (blk' hB1.out hgs K3'.out);obtain⟨⟨e0,e1,e2⟩,-⟩:=row3f hX1.out.1;obtain⟨⟨f0,f1,f2⟩,q0,q1,q2⟩:=row3f LG.out;have HFIN:=hid (show TrivR (m+n) w (.returned (.agg #[.slice x1 N y1,.slice x2 N y2,.slice x3 N y3])) (((wr.setCell ⟨w.heap.size+1+1,0,none⟩ (.slice x1 N y1)).setCell ⟨w.heap.size+1+1,1,none⟩ (.slice x2 N y2)).setCell ⟨w.heap.size+1+1,2,none⟩ (.slice x3 N y3)) from by
        rw[HN.out];refine⟨_,_,_,rfl,?_,?_⟩
        ·exact(hX1.out.2.2.ty (Ty.keep (S:=fun k=>wb.heap.size≤k) ((((Keep.refl _ wr).setCell (by simp;omega) _).setCell (by simp;omega) _).setCell (by simp;omega) _) fun _ h=>h)).mono (by omega)
        ·exact(((HBc.out.trans (hB1.out.mono (by omega))).setCell (p:=⟨w.heap.size+1+1,0,none⟩) (by simp;omega) _).setCell (p:=⟨w.heap.size+1+1,1,none⟩) (by simp;omega) _).setCell (p:=⟨w.heap.size+1+1,2,none⟩) (by simp;omega) _)
       clear hX1 hB1;go_wp2_with fail;obtain⟨⟨z0,z1,z2⟩,-⟩:=row3f (put3 (x:=.slice x1 N y1) (y:=.slice x2 N y2) (z:=.slice x3 N y3) LG.out);exact zq12 (v:=.agg #[.slice x1 N y1,.slice x2 N y2,.slice x3 N y3]) (by simp[results,Tryz.results147,go_sem,z0,z1,z2]) rfl HFIN.out
  have HLN:=hid (show(lA++lB).length=m+n by rw[zq31,HLL.out.1,HLL.out.2]);go_region_law
   (first|(go_simp;go_at_call 97;refine(HOWN.out _ (by repeat(first|exact zqK.drew|exact Keep.refl _ _|refine Keep.drew ?_|refine Keep.alloc ?_ _|refine Keep.trans ?_ (Keep.of_below (by assumption))))).mono ?_;rintro e w2 ⟨gO,cO,rfl,ho2,hb2⟩;have k2:=(show Keep Any wb w2 from(by repeat(first|exact zqK.drew|exact Keep.refl _ _|refine Keep.drew ?_|refine Keep.alloc ?_ _|refine Keep.trans ?_ (Keep.of_below (by assumption)))));have x0:=(k2.cell (b:=w.heap.size+1) (o:=0) trivial hw01).trans f0;have s2:=k2.size;have hw2:w.heap.size+1<w2.heap.size:=zq7 hw01 s2;have gl2:=(zq8 ho2 gO rfl);have B2:Below wb.heap.size wb w2:=(by first|exact hb2|exact(zqB.drew).trans hb2|exact((zqB.drew).alloc zqN _).trans (hb2.mono (by simp))|exact(zqB.alloc zqN _).trans (hb2.mono (by simp)));first|(have A2:w2.heap[wb.heap.size]?=some zbox:=blk' hb2 (by simp) (zq17 _ _);have gA2:wb.heap.size≠gO:=(by have:=gl2.1;simp at this;omega))|(have N2:True:=trivial))|(refine step_app (by rfl) _ _ (by rfl) wb.heap.size gO m cO n d1 lA lB b1 (by rfl) (ownsRow_mono (B':=wb.heap.size) (ownsRow_keep ho2 (S:=Any) (by repeat(first|exact zqK.drew|exact Keep.refl _ _|refine Keep.drew ?_|refine Keep.alloc ?_ _|refine Keep.trans ?_ (Keep.of_below (by assumption)))) (fun _ _=>trivial)) (by first|exact zq1 _|(simp;done)|(simp;omega))) (by rfl) (HLB.out.keep (by repeat(first|exact zqK.drew|exact Keep.refl _ _|refine Keep.drew ?_|refine Keep.alloc ?_ _|refine Keep.trans ?_ (Keep.of_below (by assumption))))) (by omega) (by first|exact s2|(simp;omega)) ?_;intro gN cN w5 ho5 hg5;have B5:Below wb.heap.size wb w5:=(by first|exact B2.grown hg5 s2 (by intro b hb;injection hb with hb;have:=gl2.1;simp at this;omega)|exact(B2.alloc s2 _).grown hg5 (by simp;omega) (by intro b hb;injection hb with hb;have:=gl2.1;simp at this;omega));have s5:=B5.size;first|(have A5:w5.heap[wb.heap.size]?=some zbox:=(hg5.block _ (zq10.1 A2).1 (fun h=>gA2 (by injection h))).trans A2;have l5:=(zq10.1 A5).1)|(have C5:w5.heap[w2.heap.size]?=some zbox:=(hg5.block _ (by simp) (fun h=>by injection h with h;have:=gl2.2;omega)).trans (zq17 _ _);have l5:=(zq10.1 C5).1)|(have N5:True:=trivial))|(go_simp;go_at_call 96;refine(HTRV.out _ _ ((sl_own ho5 HLN.out).keep (by repeat(first|exact zqK.drew|exact Keep.refl _ _|refine Keep.drew ?_|refine Keep.alloc ?_ _|refine Keep.trans ?_ (Keep.of_below (by assumption)))))).mono ?_;rintro e w6 ⟨x1,y1,x2,y2,x3,y3,rfl,hp6,hb6⟩;have B6:Below wb.heap.size wb w6:=(by first|exact B5.trans (hb6.mono s5)|exact(B5.alloc s5 _).trans (hb6.mono (by simp;omega)));first|(have A6:w6.heap[wb.heap.size]?=some zbox:=blk' hb6 l5 A5;obtain⟨⟨z0,z1,z2⟩,q0,q1,q2⟩:=row3f A6;have F6:=(show FinP wb w6 _ _ _ _ _ from⟨A6,zq1 _,⟨_,hp6,l5⟩,B6⟩))|(have C6:w6.heap[w2.heap.size]?=some zbox:=blk' hb6 l5 C5;obtain⟨⟨z0,z1,z2⟩,q0,q1,q2⟩:=row3f C6;have F6:=(show FinP wb w6 _ _ _ _ _ from⟨C6,s2,⟨_,hp6,l5⟩,B6⟩))|(have D6:w6.heap[w5.heap.size]?=some zbox:=blk' hb6 (by simp) (zq17 _ _);obtain⟨⟨z0,z1,z2⟩,q0,q1,q2⟩:=row3f D6;have F6:=(show FinP wb w6 _ _ _ _ _ from⟨D6,s5,⟨_,hp6,by simp⟩,B6⟩))|(have N6:=(show FinN wb w6 _ _ _ _ from⟨⟨_,hp6,s5⟩,B6⟩))))
  all_goals
   clear HOWN HTRV HLB;go_wp2_with fail;go_meet;first|exact fin_put F6|exact fin_new N6
end Go.Proofs.YtlmlamcoeegkbaaGreat.DwG
namespace Go.Proofs.YtlmlamcoeegkbaaGreat.DwX
open Go.RowKit Go.Proofs.YtlmlamcoeegkbaaGreat Tow Val CyA CyB CyC DwT DwB DwD DwK DwS DwU DwW DwY
open Go.Proofs.YtlmlamcoeegkbaaGreat.DwR (Ty.box Ty.box3)
structure Bx (g:Nat)(a:Option Addr)(len cap:Nat)(w w1:World)(g0:Nat):Prop where
 hh:Sr g a len cap w w
 s1:w1.heap.size=g0+1
 z:w.heap.size=g0
 k1:w1.heap[g0]?=some zbox
 s:Sr g a len cap w1 w1
 sw:Sr g a len cap w w1
theorem Sr.here {g len cap:Nat}{a:Option Addr}{w W:World}(h:Sr g a len cap w W):Sr g a len cap W W:=⟨h.1,h.2.1,gr_refl _ _⟩
theorem Bx.new {g len cap:Nat}{a:Option Addr}{w:World}(h:Sr g a len cap w w):Bx g a len cap w (w.alloc zbox) w.heap.size:=
 ⟨h,by simp,rfl,zq17 _ _,Sr.here (h.alloc _),h.alloc _⟩
theorem Bx.k {g len cap g0:Nat}{a:Option Addr}{w w1 W:World}(h:Bx g a len cap w w1 g0)(hS:Sr g a len cap w1 W):W.heap[g0]?=some zbox∧g0<W.heap.size:=
 ⟨(hS.2.2.block g0 (by rw[h.s1];omega) (fun e=>by injection e with e;have:=h.hh.lt;have:=h.z;omega)).trans h.k1,by have:=hS.2.2.size;rw[h.s1]at this;omega⟩
theorem Bx.sr {g len cap g0:Nat}{a:Option Addr}{w w1 W:World}(h:Bx g a len cap w w1 g0)(hS:Sr g a len cap w1 W)(x y z:Value):Sr g a len cap w (((W.setCell ⟨g0,0,none⟩ x).setCell ⟨g0,1,none⟩ y).setCell ⟨g0,2,none⟩ z):=
 (h.sw.tr hS).set3 h.hh (Nat.le_of_eq h.z) _ _ _
theorem Bx.fin {b g len cap g0 N y1 y2 y3:Nat}{a x1 x2 x3:Option Addr}{w w1 W:World}(h:Bx g a len cap w w1 g0)(hS:Sr g a len cap w1 W)(hN:N≤b)(hP:PT w1.heap.size W N (.slice x1 N y1) (.slice x2 N y2) (.slice x3 N y3)):
  FaS b g a len cap w (.returned (.agg #[.slice x1 N y1,.slice x2 N y2,.slice x3 N y3])) (((W.setCell ⟨g0,0,none⟩ (.slice x1 N y1)).setCell ⟨g0,1,none⟩ (.slice x2 N y2)).setCell ⟨g0,2,none⟩ (.slice x3 N y3)):=
 ⟨N,_,_,_,_,_,_,hN,rfl,(hP.ty (Ty.box3 (h.k hS).1)).mono (by rw[h.s1,h.z];omega),h.sr hS _ _ _⟩
theorem ty_al {B:Nat}(w:World)(o:Obj):Ty B w (w.alloc o):=Ty.keep (S:=Any) ((Keep.refl _ w).alloc o) fun _ _=>trivial
theorem grp_any (lim:Int)(g:Nat)(a:Option Addr)(len cap:Nat)(w:World)(h:Sr g a len cap w w):Calls Tryz.prog 99 #[.pointer (some ⟨g,0,none⟩),.int .i64 lim] w (FaS 24 g a len cap w):=by
 obtain⟨w1,hw1⟩:∃w1,w1=w.alloc zbox:=⟨_,rfl⟩;obtain⟨g0,hg0⟩:∃g0,w.heap.size=g0:=⟨_,rfl⟩;have HX:=hid (show Bx g a len cap w w1 g0 by rw[hw1,←hg0];exact Bx.new h);have HFM:=hid (fun(W:World) (hS:Sr g a len cap w1 W)=>fam_any g a len cap W (Sr.here hS));have HG1:=hid (show g<w1.heap.size from HX.out.s.lt);clear h;go_enter Tryz.func99,Tryz.ntmps99;go_upto_region 1 with fail;rw[←hw1];clear hw1 hg0;go_wp2_with fail;go_loopw [5] (fun iv wr=>∃i:Nat,i≤12∧iv= .int .i64 (i:Int)∧Hid (Sr g a len cap w1 wr)) (fun iv _=>12-(intOf iv).toNat);case atStart=>exact⟨0,by omega,rfl,hid HX.out.s⟩
 case round=>
  obtain⟨i,hi,rfl,hS⟩:=hrel;by_cases hlt:i<12
  ·have hki:(i:Int)<12:=by omega
   go_upto_region 5 with(go_at_call 146;refine(HFM.out _ hS.out).mono ?_;rintro e w2 ⟨N,x1,x2,x3,y1,y2,y3,hN,rfl,hp,hs⟩);obtain⟨gp,hgp⟩:∃gp,w2.heap.size=gp:=⟨_,rfl⟩;obtain⟨w3,hw3⟩:∃w3,w3=w2.alloc (.cells #[.slice x1 N y1,.slice x2 N y2,.slice x3 N y3] 28):=⟨_,rfl⟩;rw[←hw3,hgp];have HS3:=hid (show Sr g a len cap w1 w3 by rw[hw3];exact(hS.out.tr hs).alloc _);have HP3:=hid (show PX w1.heap.size N w3 gp (.slice x1 N y1) (.slice x2 N y2) (.slice x3 N y3) by rw[hw3,←hgp];exact box_new hp hS.out.2.2.size (hS.out.tr hs).2.2.size);have HGP:=hid (show w1.heap.size≤gp from HP3.out.2.1);have HN:=hid hN;clear hN hp hs hgp hw3 hS;go_upto_if 15 with(go_at_call 52;refine(nx_any 3 g a len cap w1 _ HS3.out).mono ?_;rintro e w4 ⟨r,rfl,hr,hS4⟩;have HS4:=hid (HS3.out.tr hS4);have HP4:=hid (pxgrown HP3.out hS4.2.2 HG1.out);clear hS4);go_cut [6] (fun v W=>v= .pointer (some ⟨gp,0,none⟩)∧Hid (∃N x1 y1 x2 y2 x3 y3,N≤24∧PX w1.heap.size N W gp (.slice x1 N y1) (.slice x2 N y2) (.slice x3 N y3))∧Hid (Sr g a len cap w1 W));case first=>
    by_cases hr0:r=0
    ·subst hr0;obtain⟨⟨d0,d1,d2⟩,f0,f1,f2⟩:=row3f HP4.out.1;have hgl:=HP4.out.lt;clear hr;go_wp2_with fail;go_region_law
      (first|(go_simp;go_at_call 146;refine(HFM.out _ (by first|exact HS4.out|exact HS4.out.drew)).mono ?_;rintro e w5 ⟨M,X1,X2,X3,Y1,Y2,Y3,hM,rfl,hp,hs⟩;have HS5:=hid (show Sr g a len cap w1 w5 from(by first|exact HS4.out.tr hs|exact HS4.out.drew.tr hs));have HP5:=hid (show PX w1.heap.size N w5 gp (.slice x1 N y1) (.slice x2 N y2) (.slice x3 N y3) from(by first|exact pxgrown HP4.out hs.2.2 HG1.out|exact pxgrown HP4.out (gr_drewl hs.2.2) HG1.out));have HQ5:=hid (hp.mono (zq4 _));have HM:=hid hM;obtain⟨⟨c0,c1,c2⟩,k0,k1,k2⟩:=row3f HP5.out.1;have hgl5:=HP5.out.lt;clear hp hs hM)|(go_simp;go_at_call 147;refine((DwG.both_any N M (by have:=HN.out;have:=HM.out;omega) _ _ _ _ _ _ w5 (HP5.out.2.2.mono (zq4 _)) HQ5.out).mono fun e w' h=>TrivR.un (b:=24) h (by have:=HN.out;have:=HM.out;omega)).mono ?_;rintro e w6 ⟨K,z1,z2,z3,u1,u2,u3,hK,rfl,hp,hb⟩;have HS6:=hid (HS5.out.below hb);have HP6:=hid (HP5.out.below hb);have HQ6:=hid (hp.mono HS5.out.2.2.size);have HKK:=hid hK;obtain⟨⟨b0,b1,b2⟩,l0,l1,l2⟩:=row3f HP6.out.1;have hgl6:=HP6.out.lt;clear hp hb hK)|(fail))
     all_goals
      go_wp2_with fail;go_meet;exact⟨rfl,hid ⟨K,_,_,_,_,_,_,HKK.out,PX.put3 HP6.out.1 HGP.out HQ6.out⟩,hid (HS6.out.set3 HX.out.s HGP.out _ _ _)⟩
    ·have hri:((r:Int)==0)=false:=zq79.2 (by omega);clear hr;go_wp2_with fail;go_meet;exact⟨rfl,hid ⟨N,_,_,_,_,_,_,by have:=HN.out;omega,HP4.out⟩,HS4⟩
   case rest=>
    obtain⟨rfl,hQ,HS7⟩:=hcut;rename World=>w7;clear HS3 HS4 HP3 HP4 HN hr;obtain⟨M,X1,Y1,X2,Y2,X3,Y3,hM,hPX⟩:=hQ.out;have HM:=hid hM;have HP7:=hid hPX;clear hQ hM hPX;obtain⟨P,hP,-⟩:=DwP.pt_val HP7.out.2.2;have HV:=hid (hP.mono (S':=Any) fun _ _=>trivial);have HIP:=hid (SpecW.isPres_any w7 _ _ _ P HV.out);have HPR:=hid (fun(hv:Valid P) (W:World) (hb:Below w7.heap.size w7 W)=>SpecV.product_any W _ P.os (HV.out.keep (Keep.of_below hb)).os hv.pr);clear hP;obtain⟨⟨d0,d1,d2⟩,-⟩:=row3f HP7.out.1;have hgl:=HP7.out.lt;go_upto_region 7 with fail;go_cut [28] (fun v W=>(∃b,v= .bool b)∧Hid (Below w7.heap.size w7 W));case first=>
     by_cases hv:Valid P
     ·have HVV:=hid hv;clear hv;go_wp2_with (first|(go_at_call 101;refine HIP.out.mono ?_;rintro e w8 ⟨r,rfl,hr,hb8⟩;obtain rfl:r=true:=hr.2 HVV.out;have HB8:=hid hb8;clear hr hb8;have hX8:=HP7.out.below HB8.out;have hg8:=hX8.lt;obtain⟨⟨c0,c1,c2⟩,-⟩:=row3f hX8.1;clear hX8)|(go_at_call 148;refine(HPR.out HVV.out _ HB8.out).mono ?_;rintro e w9 ⟨q,rfl,-, -, rfl⟩));go_meet;exact⟨⟨_,rfl⟩,HB8⟩
     ·have HVV:=hid hv;clear hv;go_wp2_with (go_at_call 101;refine HIP.out.mono ?_;rintro e w8 ⟨r,rfl,hr,hb8⟩;obtain rfl:r=false:=(by cases r with|false=>rfl|true=>exact absurd (hr.1 rfl) HVV.out);have HB8:=hid hb8;clear hr hb8);go_meet;exact⟨⟨_,rfl⟩,HB8⟩
    case rest=>
     obtain⟨⟨b,rfl⟩,HB8⟩:=hcut;rename World=>w8;have HS8:=hid (HS7.out.below HB8.out);clear d0 d1 d2 hgl;cases b with
     |true=>
      have HP8:=hid (HP7.out.below HB8.out);obtain⟨⟨d0,d1,d2⟩,-⟩:=row3f HP8.out.1;have hgl:=HP8.out.lt;obtain⟨⟨e0,e1,e2⟩,f0,f1,f2⟩:=row3f (HX.out.k HS8.out).1;have hgr:=(HX.out.k HS8.out).2;have hne:¬gp=g0:=by have h1:=HX.out.s1;have h2:=HGP.out;omega
      go_wp2_with fail;obtain⟨⟨z0,z1,z2⟩,-⟩:=row3f (put3 (x:=.slice X1 M Y1) (y:=.slice X2 M Y2) (z:=.slice X3 M Y3) (HX.out.k HS8.out).1);exact zq12 (v:=.agg #[.slice X1 M Y1,.slice X2 M Y2,.slice X3 M Y3]) (by simp[results,Tryz.results99,go_sem,z0,z1,z2]) rfl (HX.out.fin HS8.out HM.out HP8.out.2.2)
     |false=>
      go_wp2_with fail;go_roundw;case rel=>exact⟨i+1,by omega,by go_num,HS8⟩
      case measure=>simp[intOf];omega
  ·obtain rfl:i=12:=by omega
   have hki:¬((12:Nat):Int)<12:=by omega
   go_wp2_with (go_at_call 96;refine(triv_l [2] 1 rfl (by decide) _).mono ?_;rintro e w6 ⟨N,x1,x2,x3,y1,y2,y3,hN,rfl,hp,hb⟩;have HN:=hid (show N≤24 from zq11 hN (by decide));have HS6:=hid ((hS.out.alloc _).below hb);have HP6:=hid (hp.mono (zq11 hS.out.2.2.size (by simp)));obtain⟨⟨e0,e1,e2⟩,f0,f1,f2⟩:=row3f (HX.out.k HS6.out).1;have hgl:=(HX.out.k HS6.out).2;clear hN hp hb);obtain⟨⟨z0,z1,z2⟩,-⟩:=row3f (put3 (x:=.slice x1 N y1) (y:=.slice x2 N y2) (z:=.slice x3 N y3) (HX.out.k HS6.out).1);exact zq12 (v:=.agg #[.slice x1 N y1,.slice x2 N y2,.slice x3 N y3]) (by simp[results,Tryz.results99,go_sem,z0,z1,z2]) rfl (HX.out.fin HS6.out HN.out HP6.out)
end Go.Proofs.YtlmlamcoeegkbaaGreat.DwX
