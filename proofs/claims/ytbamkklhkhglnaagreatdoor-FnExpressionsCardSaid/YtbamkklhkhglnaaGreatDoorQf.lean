import Derived.Test.YtbamkklhkhglnaaGreatDoorQe
import Derived.Test.YtbamkklhkhglnaaGreatDoorQa
import Derived.Deep.RegionLaw
import Derived.Test.YtbamkklhkhglnaaGreatDoorDwA
import Derived.Deep.RegionHeld3
import Derived.ChangeSlices
import Derived.Deep.Slices
import Derived.Lib.SmallJoins
/-
  Texts of a proof, bundled: PeO PeP PeQ PeR PeS PpA PeT PeU PeV PpB PfA PfB PfC PeW PeX PfD.
-/
set_option linter.unusedVariables false
set_option linter.unusedSimpArgs false
set_option maxRecDepth 100000
set_option maxHeartbeats 16000000
namespace Go.Proofs.YtbamkklhkhglnaaGreatDoor.PeO
open Go.Proofs.YtbamkklhkhglnaaGreatDoor.ImplB (grown_below)
open Go.RowKit Go.Lib Go.Proofs.YtbamkklhkhglnaaGreatDoor Tow CyA CyB LbC LbD LbN PeA PeD PeE

def RdS (w : World) (g : Nat) (s : ByteArray) (i : Nat) (b : Bool) : Prop := w.heap[g]? = some (.cells #[.string s, .int .i64 (i : Int), .bool b] 57 (0, 0))
theorem RdS.cells {w : World} {g i : Nat} {s : ByteArray} {b : Bool} (h : RdS w g s i b) : (w.cell? ⟨g, 0, none⟩ = some (.string s) ∧ w.cell? ⟨g, 1, none⟩ = some (.int .i64 (i : Int)) ∧ w.cell? ⟨g, 2, none⟩ = some (.bool b)) ∧ (w.frozen? ⟨g, 1, none⟩ = false ∧ w.frozen? ⟨g, 2, none⟩ = false) ∧ g < w.heap.size :=
 ⟨row3' h, ⟨by simp [World.frozen?, show w.heap[g]? = _ from h], by simp [World.frozen?, show w.heap[g]? = _ from h]⟩, (Array.getElem?_eq_some_iff.1 h).1⟩
theorem RdS.go {w : World} {g i : Nat} {s : ByteArray} {b : Bool} (h : RdS w g s i b) (j : Nat) : RdS (w.setCell ⟨g, 1, none⟩ (.int .i64 (j : Int))) g s j b := heap_setCell_same w g 1 _ _ _ h
theorem RdS.fail {w : World} {g i : Nat} {s : ByteArray} {b : Bool} (h : RdS w g s i b) : RdS (w.setCell ⟨g, 2, none⟩ (.bool true)) g s i true := heap_setCell_same w g 2 _ _ _ h
theorem RdS.below {w w' : World} {g i : Nat} {s : ByteArray} {b : Bool} (h : RdS w g s i b) (hb : Below w.heap.size w w') : RdS w' g s i b := blk' hb (Array.getElem?_eq_some_iff.1 h).1 h
theorem RdS.drew {w : World} {g i : Nat} {s : ByteArray} {b : Bool} (h : RdS w g s i b) : RdS w.drew g s i b := h
theorem RdS.lt {w : World} {g i : Nat} {s : ByteArray} {b : Bool} (h : RdS w g s i b) : g < w.heap.size := h.cells.2.2
def IsS (b : Bool) (w : World) (e : Ending) (w' : World) : Prop := e = .returned (.bool b) ∧ Below w.heap.size w w'
theorem is_any (w : World) (g i : Nat) (s : ByteArray) (b : Bool) (hA : RdS w g s i b) (hi : i ≤ s.size) (c : UInt8) :
  Calls Tryz.prog 45 #[.pointer (some ⟨g, 0, none⟩), .int .u8 (c.toNat : Int)] w (IsS (decide ((bs s)[i]? = some c)) w) := by
 obtain ⟨⟨c0, c1, -⟩, -, hgl⟩ := hA.cells
 clear hA
 by_cases he : i = s.size
 ·have HD := hid (show decide ((bs s)[i]? = some c) = false by rw [List.getElem?_eq_none (by rw [bs_len]; omega)]; rfl)
  have hei : ¬ (i : Int) < (s.size : Int) := by omega
  have hen : decide (i < s.size) = false := decide_eq_false (by omega)
  clear he hi
  go_enter Tryz.func45, Tryz.ntmps45
  go_wp2_with fail
  go_region
  all_goals
   go_wp2_with fail
   go_ret
   rw [HD.out]
   exact ⟨rfl, (Below.refl _ _).drew⟩
 ·have hl : i < s.size := by omega
  have hli : (i : Int) < (s.size : Int) := by omega
  have hln : decide (i < s.size) = true := decide_eq_true hl
  by_cases hc : s[i] = c
  ·have HD := hid (show decide ((bs s)[i]? = some c) = true by rw [bs_get hl, hc]; simp)
   clear he hi
   go_enter Tryz.func45, Tryz.ntmps45
   go_wp2_with fail
   go_region_held3 (fun w' => (∀ b o, b < w.heap.size → w'.cell? ⟨b, o, none⟩ = w.cell? ⟨b, o, none⟩) ∧ Keep (fun _ => True) w w')
    (first | exact ks_mk (by repeat (first | exact (Keep.refl _ _).drew | exact Keep.refl _ _)))
    (fail)
   rename_i hHd
   clear hHd
   go_wp2_with fail
   go_ret
   rw [HD.out]
   exact ⟨rfl, (Below.refl _ _).drew⟩
  ·have HD := hid (show decide ((bs s)[i]? = some c) = false by rw [bs_get hl]; simpa using hc)
   have hcs : ((s[i].toNat : Int) == (c.toNat : Int)) = false := beq_eq_false_iff_ne.2 (fun e => hc (UInt8.toNat_inj.1 (by omega)))
   clear he hi hc
   go_enter Tryz.func45, Tryz.ntmps45
   go_wp2_with fail
   go_region_held3 (fun w' => (∀ b o, b < w.heap.size → w'.cell? ⟨b, o, none⟩ = w.cell? ⟨b, o, none⟩) ∧ Keep (fun _ => True) w w')
    (first | exact ks_mk (by repeat (first | exact (Keep.refl _ _).drew | exact Keep.refl _ _)))
    (fail)
   rename_i hHd
   clear hHd
   go_wp2_with fail
   go_ret
   rw [HD.out]
   exact ⟨rfl, (Below.refl _ _).drew⟩
def TkS (g : Nat) (s : ByteArray) (j : Nat) (b : Bool) (w : World) (e : Ending) (w' : World) : Prop := e = .returned (.tuple #[]) ∧ RdS w' g s j b ∧ w.grownBy w' (some g)
theorem take_bad (w : World) (g i : Nat) (s : ByteArray) (hA : RdS w g s i true) (c : UInt8) :
  Calls Tryz.prog 79 #[.pointer (some ⟨g, 0, none⟩), .int .u8 (c.toNat : Int)] w (TkS g s i true w) := by
 obtain ⟨⟨c0, c1, c2⟩, -, hgl⟩ := hA.cells
 have HA := hid hA
 clear hA
 go_enter Tryz.func79, Tryz.ntmps79
 go_wp2_with fail
 refine bodyPost_ret (v := .tuple #[]) (by simp [results, Tryz.results79, go_sem]) rfl ?_
 exact ⟨rfl, HA.out, gr_refl _ _⟩
theorem take_yes (w : World) (g i : Nat) (s : ByteArray) (hA : RdS w g s i false) (hs : s.size ≤ 100000000) (c : UInt8) (hc : (bs s)[i]? = some c) :
  Calls Tryz.prog 79 #[.pointer (some ⟨g, 0, none⟩), .int .u8 (c.toNat : Int)] w (TkS g s (i + 1) false w) := by
 obtain ⟨⟨c0, c1, c2⟩, -, hgl⟩ := hA.cells
 have hl : i < s.size := by have := (List.getElem?_eq_some_iff.1 hc).1; rwa [bs_len] at this
 have HI := is_any w g i s false hA (by omega) c
 rw [decide_eq_true hc] at HI
 have HI := hid HI
 have HA := hid hA
 have hwi : IntKind.i64.wrap ((i : Int) + 1) = (i : Int) + 1 := IntWalk.i64_in _ (by omega)
 clear hA hc hs
 go_enter Tryz.func79, Tryz.ntmps79
 go_wp2_with (go_at_call 45; refine HI.out.mono ?_; rintro e w1 ⟨rfl, hb1⟩; have HB1 := hid hb1; have HA1 := hid (HA.out.below hb1); clear hb1 c0 c1 c2 hgl; obtain ⟨⟨c0, c1, c2⟩, ⟨f1, f2⟩, hgl⟩ := HA1.out.cells)
 refine bodyPost_ret (v := .tuple #[]) (by simp [results, Tryz.results79, go_sem]) rfl ?_
 exact ⟨rfl, HA1.out.go (i + 1), gr_set (grown_below HB1.out) _⟩
theorem take_no (w : World) (g i : Nat) (s : ByteArray) (hA : RdS w g s i false) (hi : i ≤ s.size) (c : UInt8) (hc : (bs s)[i]? ≠ some c) :
  Calls Tryz.prog 79 #[.pointer (some ⟨g, 0, none⟩), .int .u8 (c.toNat : Int)] w (TkS g s i true w) := by
 obtain ⟨⟨c0, c1, c2⟩, -, hgl⟩ := hA.cells
 have HI := is_any w g i s false hA hi c
 rw [decide_eq_false hc] at HI
 have HI := hid HI
 have HA := hid hA
 clear hA hc hi
 go_enter Tryz.func79, Tryz.ntmps79
 go_wp2_with (go_at_call 45; refine HI.out.mono ?_; rintro e w1 ⟨rfl, hb1⟩; have HB1 := hid hb1; have HA1 := hid (HA.out.below hb1); clear hb1 c0 c1 c2 hgl; obtain ⟨⟨c0, c1, c2⟩, ⟨f1, f2⟩, hgl⟩ := HA1.out.cells)
 refine bodyPost_ret (v := .tuple #[]) (by simp [results, Tryz.results79, go_sem]) rfl ?_
 exact ⟨rfl, HA1.out.fail, gr_set (grown_below HB1.out) _⟩
def BtR (t : List UInt8) (g : Nat) (s : ByteArray) (i : Nat) (b : Bool) (w : World) (e : Ending) (w' : World) : Prop := e = .returned (.string (ba t)) ∧ RdS w' g s i b ∧ w.grownBy w' (some g)
def BtP (g : Nat) (s : ByteArray) (i : Nat) (o : Option Nat) (w : World) (e : Ending) (w' : World) : Prop := match o with
 | some j => BtR (sub (bs s) (i + 1) j) g s i false w e w'
 | none => BtR [] g s i true w e w'
theorem btw_any (w : World) (g i : Nat) (s : ByteArray) (hA : RdS w g s i false) (hl : i < s.size) (hs : s.size ≤ 100000000) (d : UInt8) :
  Calls Tryz.prog 78 #[.pointer (some ⟨g, 0, none⟩), .int .u8 (d.toNat : Int)] w
   (BtP g s i (PeA.clo (bs s) d (i + 1)) w) := by
 obtain ⟨⟨c0, c1, c2⟩, ⟨f1, f2⟩, hgl⟩ := hA.cells
 have HA := hid hA
 have HS := hid hs
 have hw1 : IntKind.i64.wrap ((i : Int) + 1) = (i : Int) + 1 := IntWalk.i64_in _ (by omega)
 clear hA hs
 go_enter Tryz.func78, Tryz.ntmps78
 go_wp2_with fail
 go_loop [5] (fun ev => ∃ k : Nat, ev = .int .i64 (k : Int) ∧ i + 1 ≤ k ∧ k ≤ s.size ∧ Hid (∀ m, i + 1 ≤ m → m < k → (bs s)[m]? ≠ some d)) (fun ev => s.size - (intOf ev).toNat)
 case atStart => exact ⟨i + 1, by push_cast; rfl, Nat.le_refl _, hl, hid (fun m h1 h2 => by omega)⟩
 case round =>
  obtain ⟨k, rfl, hk1, hk2, hN⟩ := hrel
  by_cases hks : k < s.size
  ·have hki : (k : Int) < (s.size : Int) := by omega
   have hkn : decide (k < s.size) = true := decide_eq_true hks
   have hk0 : (0 : Int) ≤ (k : Int) := by omega
   by_cases hc : s[k] = d
   ·have HJ := hid (show PeA.clo (bs s) d (i + 1) = some k from clo_mk hk1 (by rw [bs_get hks, hc]) hN.out)
    have hex : s.extract (i + 1) k = ba (sub (bs s) (i + 1) k) := by
     apply eq_ba
     rw [extract_data]
     unfold PeA.sub
     rfl
    have hik : ((i : Int) + 1) ≤ (k : Int) := by omega
    have hi0 : (0 : Int) ≤ (i : Int) + 1 := by omega
    go_wp2_with fail
    go_region_held3 (fun w' => (∀ b o, b < w.heap.size → w'.cell? ⟨b, o, none⟩ = w.cell? ⟨b, o, none⟩) ∧ Keep (fun _ => True) w w')
     (first | exact ks_mk (by repeat (first | exact (Keep.refl _ _).drew | exact Keep.refl _ _)))
     (fail)
    rename_i hHd
    clear hHd
    go_wp2_with fail
    go_ret
    rw [HJ.out]
    exact ⟨by first | rfl | (rw [← hex]; rfl), HA.out.drew, gr_drew (gr_refl _ _)⟩
   ·have hcs : ((s[k].toNat : Int) == (d.toNat : Int)) = false := beq_eq_false_iff_ne.2 (fun e => hc (UInt8.toNat_inj.1 (by omega)))
    have hwk : IntKind.i64.wrap ((k : Int) + 1) = (k : Int) + 1 := IntWalk.i64_in _ (by have := HS.out; omega)
    have HN := hid (show ∀ m, i + 1 ≤ m → m < k + 1 → (bs s)[m]? ≠ some d from fun m h1 h2 => by
     by_cases e : m = k
     ·subst e; rw [bs_get hks]; simpa using hc
     ·exact hN.out m h1 (by omega))
    clear hc hN
    go_wp2_with fail
    go_round
    case rel => exact ⟨k + 1, by push_cast; rfl, by omega, by omega, HN⟩
    case measure => simp [intOf]; omega
  ·obtain rfl : k = s.size := by omega
   have HJ := hid (show PeA.clo (bs s) d (i + 1) = none from by
    cases h : PeA.clo (bs s) d (i + 1) with
    | none => rfl
    | some j =>
     obtain ⟨h1, h2, h3, h4⟩ := clo_some h
     rw [bs_len] at h2
     exact absurd h3 (hN.out j h1 h2))
   have hki : ¬ (s.size : Int) < (s.size : Int) := by omega
   have hkn : decide (s.size < s.size) = false := decide_eq_false (by omega)
   go_wp2_with fail
   go_ret
   rw [HJ.out]
   exact ⟨rfl, HA.out.fail, gr_set (gr_refl _ _) _⟩
end Go.Proofs.YtbamkklhkhglnaaGreatDoor.PeO
namespace Go.Proofs.YtbamkklhkhglnaaGreatDoor.PeP
open Go.Proofs.YtbamkklhkhglnaaGreatDoor.ImplB (grown_below)
open Go.RowKit Go.Lib Go.Proofs.YtbamkklhkhglnaaGreatDoor Tow CyA CyB LbC LbD LbN PeA PeD PeE PeO

def FsR (r : Rd) (B g : Nat) (s : ByteArray) (i : Nat) (w : World) (e : Ending) (w' : World) : Prop := ∃ v L, e = .returned v ∧ NdN B w' v L ∧ RdS w' g s (endR r) (isErr r) ∧ w.grownBy w' (some g) ∧ (∀ M q, r = .ok (M, q) → L = M) ∧ L.length + i ≤ endR r ∧ endR r ≤ s.size
def FsP (n : Nat) (B g : Nat) (s : ByteArray) (i : Nat) (w : World) (e : Ending) (w' : World) : Prop := ∃ r, Rds (bs s) n [] i r ∧ FsR r B g s i w e w'
def FbR (g : Nat) (s : ByteArray) (i : Nat) (w : World) (e : Ending) (w' : World) : Prop := e = .returned (.slice none 0 0) ∧ RdS w' g s i true ∧ w.grownBy w' (some g)
theorem fac_bad (w : World) (g i : Nat) (s : ByteArray) (hA : RdS w g s i true) :
  Calls Tryz.prog 55 #[.pointer (some ⟨g, 0, none⟩)] w (FbR g s i w) := by
 obtain ⟨⟨c0, c1, c2⟩, ⟨f1, f2⟩, hgl⟩ := hA.cells
 have HA := hid hA
 clear hA
 go_enter Tryz.func55, Tryz.ntmps55
 go_wp2_with fail
 go_region
 all_goals
  go_wp2_with fail
  go_ret
  exact ⟨rfl, HA.out.drew.fail, gr_set (gr_drew (gr_refl _ _)) _⟩
theorem fac_end (w : World) (B g : Nat) (s : ByteArray) (hA : RdS w g s s.size false) :
  Calls Tryz.prog 55 #[.pointer (some ⟨g, 0, none⟩)] w (FsP 0 B g s s.size w) := by
 obtain ⟨⟨c0, c1, c2⟩, ⟨f1, f2⟩, hgl⟩ := hA.cells
 have HA := hid hA
 have HR := hid (show Rds (bs s) 0 [] s.size (.error s.size) from .fend (List.getElem?_eq_none (by rw [bs_len]; omega)))
 have hge : (s.size : Int) ≥ (s.size : Int) := Int.le_refl _
 clear hA
 go_enter Tryz.func55, Tryz.ntmps55
 go_wp2_with fail
 go_region_held3 (fun w' => (∀ b o, b < w.heap.size → w'.cell? ⟨b, o, none⟩ = w.cell? ⟨b, o, none⟩) ∧ Keep (fun _ => True) w w')
  (first | exact ks_mk (by repeat (first | exact (Keep.refl _ _).drew | exact Keep.refl _ _)))
  (fail)
 rename_i hHd
 clear hHd
 go_wp2_with fail
 go_ret
 exact ⟨_, HR.out, _, [], rfl, .nil _ _, HA.out.drew.fail, gr_set (gr_drew (gr_refl _ _)) _, (fun M q e => by injection e), by simp [endR], by simp [endR]⟩
theorem ext_one {s : ByteArray} {i : Nat} {c : UInt8} (h : (bs s)[i]? = some c) : s.extract i (i + 1) = ba [c] := by
 have hl : i < s.size := by have := (List.getElem?_eq_some_iff.1 h).1; rwa [bs_len] at this
 apply eq_ba
 rw [extract_data]
 rw [show i + 1 - i = 1 by omega]
 rw [bs_get hl] at h
 rw [← Option.some.inj h]
 rw [List.drop_eq_getElem_cons (by simpa using hl)]
 rfl
theorem ba_list (c : UInt8) : (ba [c]).toList = [c] := by rw [toList_data]; rfl
theorem ba_eq {c k : UInt8} (h : c ≠ k) : ((ba [c]).toList == [k]) = false := by rw [ba_list]; simpa using h
theorem ba_yes (c : UInt8) : ((ba [c]).toList == [c]) = true := by rw [ba_list]; simp
theorem fac_b123 (w : World) (B g i : Nat) (s : ByteArray) (hs : s.size ≤ 300) (hA : RdS w g s i false) (hg : g < B) (hB : B ≤ w.heap.size) (hc : (bs s)[i]? = some 123) :
  Calls Tryz.prog 55 #[.pointer (some ⟨g, 0, none⟩)] w (FsP 0 B g s i w) := by
 have hl : i < s.size := by have := (List.getElem?_eq_some_iff.1 hc).1; rwa [bs_len] at this
 have hb : Bra 123 125 0 := .inl ⟨rfl, rfl, rfl⟩
 have hex : s.extract i (i + 1) = ba [123] := ext_one hc
 obtain ⟨cs, hcs⟩ : ∃ cs, ba [123] = cs := ⟨_, rfl⟩
 rw [hcs] at hex
 have e1 : (cs.toList == [123]) = true := by rw [← hcs]; exact ba_yes _
 have e2 : (cs.toList == [91]) = false := by rw [← hcs]; exact ba_eq (by decide)
 have HBT := hid (fun (W : World) (hA : RdS W g s i false) => show Calls Tryz.prog 78 #[.pointer (some ⟨g, 0, none⟩), .int .u8 125] W (BtP g s i (PeA.clo (bs s) 125 (i + 1)) W) from btw_any W g i s hA hl (by omega) 125)
 have HS := hid hs
 have HBB := hid hB
 have HIL := hid hl
 cases hj : PeA.clo (bs s) 125 (i + 1) with
 | none =>
  rw [hj] at HBT
  have HR := hid (show Rds (bs s) 0 [] i (.error i) from .fbn hb hc hj)
  obtain ⟨⟨c0, c1, c2⟩, -, hgl⟩ := hA.cells
  have HA := hid hA
  have hge : ¬ (i : Int) ≥ (s.size : Int) := by omega
  have hli : (i : Int) < (s.size : Int) := by omega
  have hle : (i : Int) ≤ (i : Int) + 1 := by omega
  have hl1 : (i : Int) + 1 ≤ (s.size : Int) := by omega
  have hi0 : (0 : Int) ≤ (i : Int) := by omega
  have hwi : IntKind.i64.wrap ((i : Int) + 1) = (i : Int) + 1 := IntWalk.i64_in _ (by omega)
  have hgen : decide (s.size ≤ i) = false := decide_eq_false (by omega)
  clear hA hb hc hj hcs hs hB hl
  go_enter Tryz.func55, Tryz.ntmps55
  go_wp2_with fail
  go_region_held3 (fun w' => (∀ b o, b < w.heap.size → w'.cell? ⟨b, o, none⟩ = w.cell? ⟨b, o, none⟩) ∧ Keep (fun _ => True) w w')
   (first | exact ks_mk (by repeat (first | exact (Keep.refl _ _).drew | exact Keep.refl _ _)))
   (fail)
  rename_i hHd
  clear hHd
  obtain ⟨w1, hw1⟩ : ∃ w1, w.drew = w1 := ⟨_, rfl⟩
  simp only [hw1]
  have HA1 := hid (show RdS w1 g s i false ∧ Below w.heap.size w w1 by rw [← hw1]; exact ⟨HA.out.drew, (Below.refl _ _).drew⟩)
  clear hw1 c0 c1 c2 hgl
  obtain ⟨⟨c0, c1, c2⟩, -, hgl⟩ := HA1.out.1.cells
  go_wp2_with fail
  go_region_held3 (fun w' => (∀ b o, b < w1.heap.size → w'.cell? ⟨b, o, none⟩ = w1.cell? ⟨b, o, none⟩) ∧ Keep (fun _ => True) w1 w')
   (first | exact ks_mk (by repeat (first | exact (Keep.refl _ _).drew | exact Keep.refl _ _)))
   (fail)
  rename_i hHd
  clear hHd
  obtain ⟨w2, hw2⟩ : ∃ w2, w1.drew = w2 := ⟨_, rfl⟩
  simp only [hw2]
  have HA2 := hid (show RdS w2 g s i false ∧ Below w.heap.size w w2 by rw [← hw2]; exact ⟨HA1.out.1.drew, HA1.out.2.drew⟩)
  clear hw2 c0 c1 c2 hgl
  obtain ⟨⟨c0, c1, c2⟩, ⟨f1, f2⟩, hgl⟩ := HA2.out.1.cells
  go_upto_region 10 with (go_at_call 78; refine (HBT.out _ HA2.out.1).mono ?_; rintro e w3 ⟨rfl, hA3, hg3⟩; have HA3 := hid hA3; have HG3 := hid (gr_tr (grown_below (row := some g) HA2.out.2) hg3); clear hA3 hg3)
  obtain ⟨w4, hw4⟩ : ∃ w4, w3.alloc (.cells #[.int .i64 0, .string (ba []), .string ⟨#[]⟩] 63) = w4 := ⟨_, rfl⟩
  simp only [hw4]
  have HA4 := hid (show RdS w4 g s i true ∧ w.grownBy w4 (some g) from by rw [← hw4]; exact ⟨HA3.out.below ((Below.refl _ _).alloc (Nat.le_refl _) _), gr_tr HG3.out (grown_below ((Below.refl _ _).alloc (Nat.le_refl _) _))⟩)
  clear hw4 c0 c1 c2 f1 f2 hgl
  obtain ⟨⟨c0, c1, c2⟩, ⟨f1, f2⟩, hgl⟩ := HA4.out.1.cells
  go_wp2_with fail
  go_ret
  exact ⟨_, HR.out, _, [], rfl, .nil _ _, HA4.out.1.fail, gr_set HA4.out.2 _, (fun M q e => by injection e), by simp [endR], by simp only [endR]; have := HIL.out; omega⟩
 | some j =>
  obtain ⟨h1, h2, h3, h4⟩ := clo_some hj
  rw [bs_len] at h2
  obtain ⟨x, hx⟩ : ∃ x, ndB 0 (sub (bs s) (i + 1) j) = x := ⟨_, rfl⟩
  have hxt : ba (sub (bs s) (i + 1) j) = x.t := by rw [← hx]; rfl
  have hxz : x.t.size = j - (i + 1) := by
   rw [← hxt]
   have := PeB.sub_len (t := bs s) (i := i + 1) (j := j) (by rw [bs_len]; omega)
   rw [← this]
   rfl
  have hsk : sub (bs s) (i + 1) j = x.t.data.toList := by rw [← hxt, ba_data]
  rw [hj] at HBT
  have hbx : ba x.t.data.toList = x.t := (eq_ba rfl).symm
  have HBT := hid (fun (W : World) (hA : RdS W g s i false) => show Calls Tryz.prog 78 #[.pointer (some ⟨g, 0, none⟩), .int .u8 125] W (fun e w' => e = .returned (.string x.t) ∧ RdS w' g s i false ∧ W.grownBy w' (some g)) from by have h := HBT.out W hA; unfold BtP BtR at h; simp only at h; rw [hsk, hbx] at h; exact h)
  obtain ⟨tx, htx⟩ : ∃ tx, x.t = tx := ⟨_, rfl⟩
  rw [htx] at HBT hxz
  have HOP := hid (fun (W : World) => LbJ.ops_any 0 tx (ba []) (by omega) W)
  have HQ := hid (show opnd 0 tx.data.toList (ba []).data.toList = x.ops by unfold Nd.ops; rw [← htx, ← hx]; rfl)
  have HX := hid (show x.k = 0 ∧ x.t = tx ∧ x.m = ⟨#[]⟩ from ⟨by rw [← hx]; rfl, htx, by rw [← hx]; rfl⟩)
  have HRT := hid (show 0 ≤ x.ops → Rds (bs s) 0 [] i (.ok ([x], j + 1)) from fun ho => by rw [← hx]; exact .fbr hb hc hj (by rw [hx]; exact ho))
  have HRF := hid (show ¬ 0 ≤ x.ops → Rds (bs s) 0 [] i (.error i) from fun ho => .fbo hb hc hj (by rw [hx]; exact ho))
  have HJ := hid (show i + 1 ≤ j ∧ j < s.size ∧ tx.size = j - (i + 1) from ⟨h1, h2, hxz⟩)
  obtain ⟨q, hq⟩ : ∃ q, opnd 0 tx.data.toList (ba []).data.toList = q := ⟨_, rfl⟩
  rw [hq] at HQ
  have HQE := hid hq
  have hwa : IntKind.i64.wrap ((i : Int) + (tx.size : Int)) = (i : Int) + (tx.size : Int) := IntWalk.i64_in _ (by omega)
  have hwb : IntKind.i64.wrap ((i : Int) + (tx.size : Int) + 2) = (i : Int) + (tx.size : Int) + 2 := IntWalk.i64_in _ (by omega)
  obtain ⟨⟨c0, c1, c2⟩, -, hgl⟩ := hA.cells
  have HA := hid hA
  have hge : ¬ (i : Int) ≥ (s.size : Int) := by omega
  have hli : (i : Int) < (s.size : Int) := by omega
  have hle : (i : Int) ≤ (i : Int) + 1 := by omega
  have hl1 : (i : Int) + 1 ≤ (s.size : Int) := by omega
  have hi0 : (0 : Int) ≤ (i : Int) := by omega
  have hwi : IntKind.i64.wrap ((i : Int) + 1) = (i : Int) + 1 := IntWalk.i64_in _ (by omega)
  have hgen : decide (s.size ≤ i) = false := decide_eq_false (by omega)
  clear hA hb hc hj hcs hs hB hl hx hxt hxz hsk hbx htx hq h1 h2 h3 h4
  go_enter Tryz.func55, Tryz.ntmps55
  go_wp2_with fail
  go_region_held3 (fun w' => (∀ b o, b < w.heap.size → w'.cell? ⟨b, o, none⟩ = w.cell? ⟨b, o, none⟩) ∧ Keep (fun _ => True) w w')
   (first | exact ks_mk (by repeat (first | exact (Keep.refl _ _).drew | exact Keep.refl _ _)))
   (fail)
  rename_i hHd
  clear hHd
  obtain ⟨w1, hw1⟩ : ∃ w1, w.drew = w1 := ⟨_, rfl⟩
  simp only [hw1]
  have HA1 := hid (show RdS w1 g s i false ∧ Below w.heap.size w w1 by rw [← hw1]; exact ⟨HA.out.drew, (Below.refl _ _).drew⟩)
  clear hw1 c0 c1 c2 hgl
  obtain ⟨⟨c0, c1, c2⟩, -, hgl⟩ := HA1.out.1.cells
  go_wp2_with fail
  go_region_held3 (fun w' => (∀ b o, b < w1.heap.size → w'.cell? ⟨b, o, none⟩ = w1.cell? ⟨b, o, none⟩) ∧ Keep (fun _ => True) w1 w')
   (first | exact ks_mk (by repeat (first | exact (Keep.refl _ _).drew | exact Keep.refl _ _)))
   (fail)
  rename_i hHd
  clear hHd
  obtain ⟨w2, hw2⟩ : ∃ w2, w1.drew = w2 := ⟨_, rfl⟩
  simp only [hw2]
  have HA2 := hid (show RdS w2 g s i false ∧ Below w.heap.size w w2 by rw [← hw2]; exact ⟨HA1.out.1.drew, HA1.out.2.drew⟩)
  clear hw2 c0 c1 c2 hgl
  obtain ⟨⟨c0, c1, c2⟩, ⟨f1, f2⟩, hgl⟩ := HA2.out.1.cells
  go_upto_region 10 with (go_at_call 78; refine (HBT.out _ HA2.out.1).mono ?_; rintro e w3 ⟨rfl, hA3, hg3⟩; have HA3 := hid hA3; have HG3 := hid (gr_tr (grown_below (row := some g) HA2.out.2) hg3); clear hA3 hg3)
  obtain ⟨g4, hg4⟩ : ∃ g4, w3.heap.size = g4 := ⟨_, rfl⟩
  obtain ⟨w4, hw4⟩ : ∃ w4, w3.alloc (.cells #[.int .i64 0, .string tx, .string ⟨#[]⟩] 63) = w4 := ⟨_, rfl⟩
  simp only [hw4, hg4]
  have HA4 := hid (show RdS w4 g s i false ∧ w.grownBy w4 (some g) from by rw [← hw4]; exact ⟨HA3.out.below ((Below.refl _ _).alloc (Nat.le_refl _) _), gr_tr HG3.out (grown_below ((Below.refl _ _).alloc (Nat.le_refl _) _))⟩)
  have hrow : w4.heap[g4]? = some (.cells #[.int .i64 0, .string tx, .string ⟨#[]⟩] 63 (0, 0)) := by rw [← hw4, ← hg4]; exact World.alloc_heap_new w3 _
  have HC := hid (fun (W : World) (hb : w4.grownBy W (some g)) => show g4 < W.heap.size ∧ W.cell? ⟨g4, 0, none⟩ = some (.int .i64 0) ∧ W.cell? ⟨g4, 1, none⟩ = some (.string tx) ∧ W.cell? ⟨g4, 2, none⟩ = some (.string ⟨#[]⟩) from by
   have hgl := (Array.getElem?_eq_some_iff.1 hrow).1
   have hne : g4 ≠ g := by have := HA3.out.lt; omega
   have e := (hb.block g4 hgl (fun e => hne (by injection e))).trans hrow
   exact ⟨Nat.lt_of_lt_of_le hgl hb.size, row3' e⟩)
  have HGG := hid (show g ≠ g4 by have := HA3.out.lt; omega)
  clear hrow hw4 c0 c1 c2 f1 f2 hgl hg4
  obtain ⟨⟨c0, c1, c2⟩, ⟨f1, f2⟩, hgl⟩ := HA4.out.1.cells
  obtain ⟨hgl4, q0, q1, q2⟩ := HC.out w4 (gr_refl _ _)
  by_cases hq0 : q < 0
  ·have HRF' := hid (HRF.out (by rw [← HQ.out]; omega))
   go_wp2_with (go_at_call 49; refine (HOP.out _).mono ?_; rintro e w5 ⟨rfl, hb5⟩; rw [HQE.out]; have HB5 := hid hb5; have HA5 := hid (HA4.out.1.below hb5); clear hb5 c0 c1 c2 f1 f2 hgl; obtain ⟨⟨c0, c1, c2⟩, ⟨f1, f2⟩, hgl⟩ := HA5.out.cells)
   go_ret
   exact ⟨_, HRF'.out, _, [], rfl, .nil _ _, HA5.out.fail, gr_set (gr_tr HA4.out.2 (grown_below HB5.out)) _, (fun M q e => by injection e), by simp [endR], by simp only [endR]; have := HIL.out; omega⟩
  ·have HRT' := hid (HRT.out (by rw [← HQ.out]; omega))
   go_upto_region 13 with (go_at_call 49; refine (HOP.out _).mono ?_; rintro e w5 ⟨rfl, hb5⟩; rw [HQE.out]; have HB5 := hid hb5; have HA5 := hid (HA4.out.1.below hb5); obtain ⟨hgl5, r0, r1, r2⟩ := HC.out _ (grown_below (row := some g) hb5); clear hb5 c0 c1 c2 f1 f2 hgl hgl4 q0 q1 q2; obtain ⟨⟨c0, c1, c2⟩, ⟨f1, f2⟩, hgl⟩ := HA5.out.cells)
   have HGE := hid (fun (W : World) (hb : w5.grownBy W (some g)) => HC.out W (gr_tr (grown_below (row := some g) HB5.out) hb))
   go_region
   all_goals
    obtain ⟨w6, hw6⟩ : ∃ w6, (w5.setCell ⟨g, 1, none⟩ (.int .i64 ((i : Int) + (tx.size : Int) + 2))).drew = w6 := ⟨_, rfl⟩
    simp only [hw6]
    have HA6 := hid (show RdS w6 g s (j + 1) false by rw [← hw6, show (i : Int) + (tx.size : Int) + 2 = ((j + 1 : Nat) : Int) by have := HJ.out; push_cast; omega]; exact (HA5.out.go (j + 1)).drew)
    have HG6 := hid (show w5.grownBy w6 (some g) by rw [← hw6]; exact gr_drew (gr_set (gr_refl _ _) _))
    clear hw6 c0 c1 c2 f1 f2 hgl hgl5 r0 r1 r2
    obtain ⟨hgl6, r0, r1, r2⟩ := HGE.out _ HG6.out
    go_wp2_with fail
    go_ret
    have hG := gr_tr (gr_tr HA4.out.2 (grown_below HB5.out)) HG6.out
    have hN := NdN.one (B := B) w6 (Nat.le_trans HBB.out hG.size) x
    rw [HX.out.1, HX.out.2.1, HX.out.2.2] at hN
    have hb7 : Below w6.heap.size w6 (w6.alloc (.cells #[.int .i64 0, .string tx, .string ⟨#[]⟩] 63)) := (Below.refl _ _).alloc (Nat.le_refl _) _
    exact ⟨_, HRT'.out, _, [x], rfl, hN, HA6.out.below hb7, gr_tr hG (grown_below hb7), (fun M q e => by cases e; rfl), by have := HJ.out; simp [endR]; omega, by have := HJ.out; simp only [endR]; omega⟩
theorem fac_b91 (w : World) (B g i : Nat) (s : ByteArray) (hs : s.size ≤ 300) (hA : RdS w g s i false) (hg : g < B) (hB : B ≤ w.heap.size) (hc : (bs s)[i]? = some 91) :
  Calls Tryz.prog 55 #[.pointer (some ⟨g, 0, none⟩)] w (FsP 0 B g s i w) := by
 have hl : i < s.size := by have := (List.getElem?_eq_some_iff.1 hc).1; rwa [bs_len] at this
 have hb : Bra 91 93 1 := .inr ⟨rfl, rfl, rfl⟩
 have hex : s.extract i (i + 1) = ba [91] := ext_one hc
 obtain ⟨cs, hcs⟩ : ∃ cs, ba [91] = cs := ⟨_, rfl⟩
 rw [hcs] at hex
 have e1 : (cs.toList == [123]) = false := by rw [← hcs]; exact ba_eq (by decide)
 have e2 : (cs.toList == [91]) = true := by rw [← hcs]; exact ba_yes _
 have HBT := hid (fun (W : World) (hA : RdS W g s i false) => show Calls Tryz.prog 78 #[.pointer (some ⟨g, 0, none⟩), .int .u8 93] W (BtP g s i (PeA.clo (bs s) 93 (i + 1)) W) from btw_any W g i s hA hl (by omega) 93)
 have HS := hid hs
 have HBB := hid hB
 have HIL := hid hl
 cases hj : PeA.clo (bs s) 93 (i + 1) with
 | none =>
  rw [hj] at HBT
  have HR := hid (show Rds (bs s) 0 [] i (.error i) from .fbn hb hc hj)
  obtain ⟨⟨c0, c1, c2⟩, -, hgl⟩ := hA.cells
  have HA := hid hA
  have hge : ¬ (i : Int) ≥ (s.size : Int) := by omega
  have hli : (i : Int) < (s.size : Int) := by omega
  have hle : (i : Int) ≤ (i : Int) + 1 := by omega
  have hl1 : (i : Int) + 1 ≤ (s.size : Int) := by omega
  have hi0 : (0 : Int) ≤ (i : Int) := by omega
  have hwi : IntKind.i64.wrap ((i : Int) + 1) = (i : Int) + 1 := IntWalk.i64_in _ (by omega)
  have hgen : decide (s.size ≤ i) = false := decide_eq_false (by omega)
  clear hA hb hc hj hcs hs hB hl
  go_enter Tryz.func55, Tryz.ntmps55
  go_wp2_with fail
  go_region_held3 (fun w' => (∀ b o, b < w.heap.size → w'.cell? ⟨b, o, none⟩ = w.cell? ⟨b, o, none⟩) ∧ Keep (fun _ => True) w w')
   (first | exact ks_mk (by repeat (first | exact (Keep.refl _ _).drew | exact Keep.refl _ _)))
   (fail)
  rename_i hHd
  clear hHd
  obtain ⟨w1, hw1⟩ : ∃ w1, w.drew = w1 := ⟨_, rfl⟩
  simp only [hw1]
  have HA1 := hid (show RdS w1 g s i false ∧ Below w.heap.size w w1 by rw [← hw1]; exact ⟨HA.out.drew, (Below.refl _ _).drew⟩)
  clear hw1 c0 c1 c2 hgl
  obtain ⟨⟨c0, c1, c2⟩, -, hgl⟩ := HA1.out.1.cells
  go_wp2_with fail
  go_region_held3 (fun w' => (∀ b o, b < w1.heap.size → w'.cell? ⟨b, o, none⟩ = w1.cell? ⟨b, o, none⟩) ∧ Keep (fun _ => True) w1 w')
   (first | exact ks_mk (by repeat (first | exact (Keep.refl _ _).drew | exact Keep.refl _ _)))
   (fail)
  rename_i hHd
  clear hHd
  obtain ⟨w2, hw2⟩ : ∃ w2, w1.drew = w2 := ⟨_, rfl⟩
  simp only [hw2]
  have HA2 := hid (show RdS w2 g s i false ∧ Below w.heap.size w w2 by rw [← hw2]; exact ⟨HA1.out.1.drew, HA1.out.2.drew⟩)
  clear hw2 c0 c1 c2 hgl
  obtain ⟨⟨c0, c1, c2⟩, ⟨f1, f2⟩, hgl⟩ := HA2.out.1.cells
  go_upto_region 10 with (go_at_call 78; refine (HBT.out _ HA2.out.1).mono ?_; rintro e w3 ⟨rfl, hA3, hg3⟩; have HA3 := hid hA3; have HG3 := hid (gr_tr (grown_below (row := some g) HA2.out.2) hg3); clear hA3 hg3)
  obtain ⟨w4, hw4⟩ : ∃ w4, w3.alloc (.cells #[.int .i64 1, .string (ba []), .string ⟨#[]⟩] 63) = w4 := ⟨_, rfl⟩
  simp only [hw4]
  have HA4 := hid (show RdS w4 g s i true ∧ w.grownBy w4 (some g) from by rw [← hw4]; exact ⟨HA3.out.below ((Below.refl _ _).alloc (Nat.le_refl _) _), gr_tr HG3.out (grown_below ((Below.refl _ _).alloc (Nat.le_refl _) _))⟩)
  clear hw4 c0 c1 c2 f1 f2 hgl
  obtain ⟨⟨c0, c1, c2⟩, ⟨f1, f2⟩, hgl⟩ := HA4.out.1.cells
  go_wp2_with fail
  go_ret
  exact ⟨_, HR.out, _, [], rfl, .nil _ _, HA4.out.1.fail, gr_set HA4.out.2 _, (fun M q e => by injection e), by simp [endR], by simp only [endR]; have := HIL.out; omega⟩
 | some j =>
  obtain ⟨h1, h2, h3, h4⟩ := clo_some hj
  rw [bs_len] at h2
  obtain ⟨x, hx⟩ : ∃ x, ndB 1 (sub (bs s) (i + 1) j) = x := ⟨_, rfl⟩
  have hxt : ba (sub (bs s) (i + 1) j) = x.t := by rw [← hx]; rfl
  have hxz : x.t.size = j - (i + 1) := by
   rw [← hxt]
   have := PeB.sub_len (t := bs s) (i := i + 1) (j := j) (by rw [bs_len]; omega)
   rw [← this]
   rfl
  have hsk : sub (bs s) (i + 1) j = x.t.data.toList := by rw [← hxt, ba_data]
  rw [hj] at HBT
  have hbx : ba x.t.data.toList = x.t := (eq_ba rfl).symm
  have HBT := hid (fun (W : World) (hA : RdS W g s i false) => show Calls Tryz.prog 78 #[.pointer (some ⟨g, 0, none⟩), .int .u8 93] W (fun e w' => e = .returned (.string x.t) ∧ RdS w' g s i false ∧ W.grownBy w' (some g)) from by have h := HBT.out W hA; unfold BtP BtR at h; simp only at h; rw [hsk, hbx] at h; exact h)
  obtain ⟨tx, htx⟩ : ∃ tx, x.t = tx := ⟨_, rfl⟩
  rw [htx] at HBT hxz
  have HOP := hid (fun (W : World) => LbJ.ops_any 1 tx (ba []) (by omega) W)
  have HQ := hid (show opnd 1 tx.data.toList (ba []).data.toList = x.ops by unfold Nd.ops; rw [← htx, ← hx]; rfl)
  have HX := hid (show x.k = 1 ∧ x.t = tx ∧ x.m = ⟨#[]⟩ from ⟨by rw [← hx]; rfl, htx, by rw [← hx]; rfl⟩)
  have HRT := hid (show 0 ≤ x.ops → Rds (bs s) 0 [] i (.ok ([x], j + 1)) from fun ho => by rw [← hx]; exact .fbr hb hc hj (by rw [hx]; exact ho))
  have HRF := hid (show ¬ 0 ≤ x.ops → Rds (bs s) 0 [] i (.error i) from fun ho => .fbo hb hc hj (by rw [hx]; exact ho))
  have HJ := hid (show i + 1 ≤ j ∧ j < s.size ∧ tx.size = j - (i + 1) from ⟨h1, h2, hxz⟩)
  obtain ⟨q, hq⟩ : ∃ q, opnd 1 tx.data.toList (ba []).data.toList = q := ⟨_, rfl⟩
  rw [hq] at HQ
  have HQE := hid hq
  have hwa : IntKind.i64.wrap ((i : Int) + (tx.size : Int)) = (i : Int) + (tx.size : Int) := IntWalk.i64_in _ (by omega)
  have hwb : IntKind.i64.wrap ((i : Int) + (tx.size : Int) + 2) = (i : Int) + (tx.size : Int) + 2 := IntWalk.i64_in _ (by omega)
  obtain ⟨⟨c0, c1, c2⟩, -, hgl⟩ := hA.cells
  have HA := hid hA
  have hge : ¬ (i : Int) ≥ (s.size : Int) := by omega
  have hli : (i : Int) < (s.size : Int) := by omega
  have hle : (i : Int) ≤ (i : Int) + 1 := by omega
  have hl1 : (i : Int) + 1 ≤ (s.size : Int) := by omega
  have hi0 : (0 : Int) ≤ (i : Int) := by omega
  have hwi : IntKind.i64.wrap ((i : Int) + 1) = (i : Int) + 1 := IntWalk.i64_in _ (by omega)
  have hgen : decide (s.size ≤ i) = false := decide_eq_false (by omega)
  clear hA hb hc hj hcs hs hB hl hx hxt hxz hsk hbx htx hq h1 h2 h3 h4
  go_enter Tryz.func55, Tryz.ntmps55
  go_wp2_with fail
  go_region_held3 (fun w' => (∀ b o, b < w.heap.size → w'.cell? ⟨b, o, none⟩ = w.cell? ⟨b, o, none⟩) ∧ Keep (fun _ => True) w w')
   (first | exact ks_mk (by repeat (first | exact (Keep.refl _ _).drew | exact Keep.refl _ _)))
   (fail)
  rename_i hHd
  clear hHd
  obtain ⟨w1, hw1⟩ : ∃ w1, w.drew = w1 := ⟨_, rfl⟩
  simp only [hw1]
  have HA1 := hid (show RdS w1 g s i false ∧ Below w.heap.size w w1 by rw [← hw1]; exact ⟨HA.out.drew, (Below.refl _ _).drew⟩)
  clear hw1 c0 c1 c2 hgl
  obtain ⟨⟨c0, c1, c2⟩, -, hgl⟩ := HA1.out.1.cells
  go_wp2_with fail
  go_region_held3 (fun w' => (∀ b o, b < w1.heap.size → w'.cell? ⟨b, o, none⟩ = w1.cell? ⟨b, o, none⟩) ∧ Keep (fun _ => True) w1 w')
   (first | exact ks_mk (by repeat (first | exact (Keep.refl _ _).drew | exact Keep.refl _ _)))
   (fail)
  rename_i hHd
  clear hHd
  obtain ⟨w2, hw2⟩ : ∃ w2, w1.drew = w2 := ⟨_, rfl⟩
  simp only [hw2]
  have HA2 := hid (show RdS w2 g s i false ∧ Below w.heap.size w w2 by rw [← hw2]; exact ⟨HA1.out.1.drew, HA1.out.2.drew⟩)
  clear hw2 c0 c1 c2 hgl
  obtain ⟨⟨c0, c1, c2⟩, ⟨f1, f2⟩, hgl⟩ := HA2.out.1.cells
  go_upto_region 10 with (go_at_call 78; refine (HBT.out _ HA2.out.1).mono ?_; rintro e w3 ⟨rfl, hA3, hg3⟩; have HA3 := hid hA3; have HG3 := hid (gr_tr (grown_below (row := some g) HA2.out.2) hg3); clear hA3 hg3)
  obtain ⟨g4, hg4⟩ : ∃ g4, w3.heap.size = g4 := ⟨_, rfl⟩
  obtain ⟨w4, hw4⟩ : ∃ w4, w3.alloc (.cells #[.int .i64 1, .string tx, .string ⟨#[]⟩] 63) = w4 := ⟨_, rfl⟩
  simp only [hw4, hg4]
  have HA4 := hid (show RdS w4 g s i false ∧ w.grownBy w4 (some g) from by rw [← hw4]; exact ⟨HA3.out.below ((Below.refl _ _).alloc (Nat.le_refl _) _), gr_tr HG3.out (grown_below ((Below.refl _ _).alloc (Nat.le_refl _) _))⟩)
  have hrow : w4.heap[g4]? = some (.cells #[.int .i64 1, .string tx, .string ⟨#[]⟩] 63 (0, 0)) := by rw [← hw4, ← hg4]; exact World.alloc_heap_new w3 _
  have HC := hid (fun (W : World) (hb : w4.grownBy W (some g)) => show g4 < W.heap.size ∧ W.cell? ⟨g4, 0, none⟩ = some (.int .i64 1) ∧ W.cell? ⟨g4, 1, none⟩ = some (.string tx) ∧ W.cell? ⟨g4, 2, none⟩ = some (.string ⟨#[]⟩) from by
   have hgl := (Array.getElem?_eq_some_iff.1 hrow).1
   have hne : g4 ≠ g := by have := HA3.out.lt; omega
   have e := (hb.block g4 hgl (fun e => hne (by injection e))).trans hrow
   exact ⟨Nat.lt_of_lt_of_le hgl hb.size, row3' e⟩)
  have HGG := hid (show g ≠ g4 by have := HA3.out.lt; omega)
  clear hrow hw4 c0 c1 c2 f1 f2 hgl hg4
  obtain ⟨⟨c0, c1, c2⟩, ⟨f1, f2⟩, hgl⟩ := HA4.out.1.cells
  obtain ⟨hgl4, q0, q1, q2⟩ := HC.out w4 (gr_refl _ _)
  by_cases hq0 : q < 0
  ·have HRF' := hid (HRF.out (by rw [← HQ.out]; omega))
   go_wp2_with (go_at_call 49; refine (HOP.out _).mono ?_; rintro e w5 ⟨rfl, hb5⟩; rw [HQE.out]; have HB5 := hid hb5; have HA5 := hid (HA4.out.1.below hb5); clear hb5 c0 c1 c2 f1 f2 hgl; obtain ⟨⟨c0, c1, c2⟩, ⟨f1, f2⟩, hgl⟩ := HA5.out.cells)
   go_ret
   exact ⟨_, HRF'.out, _, [], rfl, .nil _ _, HA5.out.fail, gr_set (gr_tr HA4.out.2 (grown_below HB5.out)) _, (fun M q e => by injection e), by simp [endR], by simp only [endR]; have := HIL.out; omega⟩
  ·have HRT' := hid (HRT.out (by rw [← HQ.out]; omega))
   go_upto_region 13 with (go_at_call 49; refine (HOP.out _).mono ?_; rintro e w5 ⟨rfl, hb5⟩; rw [HQE.out]; have HB5 := hid hb5; have HA5 := hid (HA4.out.1.below hb5); obtain ⟨hgl5, r0, r1, r2⟩ := HC.out _ (grown_below (row := some g) hb5); clear hb5 c0 c1 c2 f1 f2 hgl hgl4 q0 q1 q2; obtain ⟨⟨c0, c1, c2⟩, ⟨f1, f2⟩, hgl⟩ := HA5.out.cells)
   have HGE := hid (fun (W : World) (hb : w5.grownBy W (some g)) => HC.out W (gr_tr (grown_below (row := some g) HB5.out) hb))
   go_region
   all_goals
    obtain ⟨w6, hw6⟩ : ∃ w6, (w5.setCell ⟨g, 1, none⟩ (.int .i64 ((i : Int) + (tx.size : Int) + 2))).drew = w6 := ⟨_, rfl⟩
    simp only [hw6]
    have HA6 := hid (show RdS w6 g s (j + 1) false by rw [← hw6, show (i : Int) + (tx.size : Int) + 2 = ((j + 1 : Nat) : Int) by have := HJ.out; push_cast; omega]; exact (HA5.out.go (j + 1)).drew)
    have HG6 := hid (show w5.grownBy w6 (some g) by rw [← hw6]; exact gr_drew (gr_set (gr_refl _ _) _))
    clear hw6 c0 c1 c2 f1 f2 hgl hgl5 r0 r1 r2
    obtain ⟨hgl6, r0, r1, r2⟩ := HGE.out _ HG6.out
    go_wp2_with fail
    go_ret
    have hG := gr_tr (gr_tr HA4.out.2 (grown_below HB5.out)) HG6.out
    have hN := NdN.one (B := B) w6 (Nat.le_trans HBB.out hG.size) x
    rw [HX.out.1, HX.out.2.1, HX.out.2.2] at hN
    have hb7 : Below w6.heap.size w6 (w6.alloc (.cells #[.int .i64 1, .string tx, .string ⟨#[]⟩] 63)) := (Below.refl _ _).alloc (Nat.le_refl _) _
    exact ⟨_, HRT'.out, _, [x], rfl, hN, HA6.out.below hb7, gr_tr hG (grown_below hb7), (fun M q e => by cases e; rfl), by have := HJ.out; simp [endR]; omega, by have := HJ.out; simp only [endR]; omega⟩
theorem fac_let (w : World) (B g i : Nat) (s : ByteArray) (hs : s.size ≤ 300) (hA : RdS w g s i false) (hB : B ≤ w.heap.size) (c : UInt8) (hc : (bs s)[i]? = some c) (hlt : isLt [c] = true) :
  Calls Tryz.prog 55 #[.pointer (some ⟨g, 0, none⟩)] w (FsP 0 B g s i w) := by
 have hl : i < s.size := by have := (List.getElem?_eq_some_iff.1 hc).1; rwa [bs_len] at this
 have hex : s.extract i (i + 1) = ba [c] := ext_one hc
 obtain ⟨cs, hcs⟩ : ∃ cs, ba [c] = cs := ⟨_, rfl⟩
 rw [hcs] at hex
 have HIL := hid hl
 have HBB := hid hB
 have HLT := hid (fun (W : World) => slet_any cs W)
 have HMK := hid (fun (W : World) => smk_any cs W)
 rw [show cs.data.toList = [c] by rw [← hcs]; rfl] at HLT HMK
 have hsg := isLt_sg hlt
 have e1 : (cs.toList == [123]) = false := by rw [← hcs]; exact ba_eq hsg.1
 have e2 : (cs.toList == [91]) = false := by rw [← hcs]; exact ba_eq hsg.2.1
 rw [hlt] at HLT
 have HR := hid (show Rds (bs s) 0 [] i (.ok ([ndB 2 [c]], i + 1)) from .flt hc hlt)
 have HX := hid (show ba [c] = cs from hcs)
 obtain ⟨⟨c0, c1, c2⟩, -, hgl⟩ := hA.cells
 have HA := hid hA
 have hge : ¬ (i : Int) ≥ (s.size : Int) := by omega
 have hli : (i : Int) < (s.size : Int) := by omega
 have hle : (i : Int) ≤ (i : Int) + 1 := by omega
 have hl1 : (i : Int) + 1 ≤ (s.size : Int) := by omega
 have hi0 : (0 : Int) ≤ (i : Int) := by omega
 have hwi : IntKind.i64.wrap ((i : Int) + 1) = (i : Int) + 1 := IntWalk.i64_in _ (by omega)
 have hgen : decide (s.size ≤ i) = false := decide_eq_false (by omega)
 clear hA hc hcs hs hB hl hlt hsg
 go_enter Tryz.func55, Tryz.ntmps55
 go_wp2_with fail
 go_region_held3 (fun w' => (∀ b o, b < w.heap.size → w'.cell? ⟨b, o, none⟩ = w.cell? ⟨b, o, none⟩) ∧ Keep (fun _ => True) w w')
  (first | exact ks_mk (by repeat (first | exact (Keep.refl _ _).drew | exact Keep.refl _ _)))
  (fail)
 rename_i hHd
 clear hHd
 obtain ⟨w1, hw1⟩ : ∃ w1, w.drew = w1 := ⟨_, rfl⟩
 simp only [hw1]
 have HA1 := hid (show RdS w1 g s i false ∧ Below w.heap.size w w1 by rw [← hw1]; exact ⟨HA.out.drew, (Below.refl _ _).drew⟩)
 clear hw1 c0 c1 c2 hgl
 obtain ⟨⟨c0, c1, c2⟩, -, hgl⟩ := HA1.out.1.cells
 go_wp2_with fail
 go_region_held3 (fun w' => (∀ b o, b < w1.heap.size → w'.cell? ⟨b, o, none⟩ = w1.cell? ⟨b, o, none⟩) ∧ Keep (fun _ => True) w1 w')
  (first | exact ks_mk (by repeat (first | exact (Keep.refl _ _).drew | exact Keep.refl _ _)))
  (fail)
 rename_i hHd
 clear hHd
 obtain ⟨w2, hw2⟩ : ∃ w2, w1.drew = w2 := ⟨_, rfl⟩
 simp only [hw2]
 have HA2 := hid (show RdS w2 g s i false ∧ Below w.heap.size w w2 by rw [← hw2]; exact ⟨HA1.out.1.drew, HA1.out.2.drew⟩)
 clear hw2 c0 c1 c2 hgl
 obtain ⟨⟨c0, c1, c2⟩, ⟨f1, f2⟩, hgl⟩ := HA2.out.1.cells
 go_upto_region 17 with (go_at_call 63; refine (HLT.out _).mono ?_; rintro e wl ⟨rfl, rfl⟩)
 obtain ⟨w3, hw3⟩ : ∃ w3, wl.setCell ⟨g, 1, none⟩ (.int .i64 ((i : Int) + 1)) = w3 := ⟨_, rfl⟩
 simp only [hw3]
 have HA3 := hid (show RdS w3 g s (i + 1) false ∧ w.grownBy w3 (some g) by rw [← hw3]; exact ⟨HA2.out.1.go (i + 1), gr_set (grown_below HA2.out.2) _⟩)
 clear hw3 c0 c1 c2 f1 f2 hgl
 go_wp2_with fail
 go_ret
 have hN := NdN.one (B := B) w3 (Nat.le_trans HBB.out HA3.out.2.size) (ndB 2 [c])
 have hX : (ndB 2 [c]).t = cs := HX.out
 rw [hX] at hN
 have hb4 : Below w3.heap.size w3 (w3.alloc (.cells #[.int .i64 2, .string cs, .string ⟨#[]⟩] 63)) := (Below.refl _ _).alloc (Nat.le_refl _) _
 exact ⟨_, HR.out, _, [ndB 2 [c]], rfl, hN, HA3.out.1.below hb4, gr_tr HA3.out.2 (grown_below hb4), (fun M q e => by cases e; rfl), by simp [endR]; omega, by simp only [endR]; have := HIL.out; omega⟩
theorem fac_none (w : World) (B g i : Nat) (s : ByteArray) (hs : s.size ≤ 300) (hA : RdS w g s i false) (hB : B ≤ w.heap.size) (c : UInt8) (hc : (bs s)[i]? = some c) (h1 : c ≠ 123) (h2 : c ≠ 91) (h3 : isLt [c] = false) (h4 : c ≠ 40) (h5 : isMk [c] = false) :
  Calls Tryz.prog 55 #[.pointer (some ⟨g, 0, none⟩)] w (FsP 0 B g s i w) := by
 have hl : i < s.size := by have := (List.getElem?_eq_some_iff.1 hc).1; rwa [bs_len] at this
 have hex : s.extract i (i + 1) = ba [c] := ext_one hc
 obtain ⟨cs, hcs⟩ : ∃ cs, ba [c] = cs := ⟨_, rfl⟩
 rw [hcs] at hex
 have HIL := hid hl
 have HBB := hid hB
 have HLT := hid (fun (W : World) => slet_any cs W)
 have HMK := hid (fun (W : World) => smk_any cs W)
 rw [show cs.data.toList = [c] by rw [← hcs]; rfl] at HLT HMK
 have e1 : (cs.toList == [123]) = false := by rw [← hcs]; exact ba_eq h1
 have e2 : (cs.toList == [91]) = false := by rw [← hcs]; exact ba_eq h2
 have e4 : (cs.toList == [40]) = false := by rw [← hcs]; exact ba_eq h4
 rw [h3] at HLT
 rw [h5] at HMK
 have HR := hid (show Rds (bs s) 0 [] i (.error i) from .fno hc h1 h2 h3 h4 h5)
 obtain ⟨⟨c0, c1, c2⟩, -, hgl⟩ := hA.cells
 have HA := hid hA
 have hge : ¬ (i : Int) ≥ (s.size : Int) := by omega
 have hli : (i : Int) < (s.size : Int) := by omega
 have hle : (i : Int) ≤ (i : Int) + 1 := by omega
 have hl1 : (i : Int) + 1 ≤ (s.size : Int) := by omega
 have hi0 : (0 : Int) ≤ (i : Int) := by omega
 have hwi : IntKind.i64.wrap ((i : Int) + 1) = (i : Int) + 1 := IntWalk.i64_in _ (by omega)
 have hgen : decide (s.size ≤ i) = false := decide_eq_false (by omega)
 clear hA hc hcs hs hB hl h1 h2 h3 h4 h5
 go_enter Tryz.func55, Tryz.ntmps55
 go_wp2_with fail
 go_region_held3 (fun w' => (∀ b o, b < w.heap.size → w'.cell? ⟨b, o, none⟩ = w.cell? ⟨b, o, none⟩) ∧ Keep (fun _ => True) w w')
  (first | exact ks_mk (by repeat (first | exact (Keep.refl _ _).drew | exact Keep.refl _ _)))
  (fail)
 rename_i hHd
 clear hHd
 obtain ⟨w1, hw1⟩ : ∃ w1, w.drew = w1 := ⟨_, rfl⟩
 simp only [hw1]
 have HA1 := hid (show RdS w1 g s i false ∧ Below w.heap.size w w1 by rw [← hw1]; exact ⟨HA.out.drew, (Below.refl _ _).drew⟩)
 clear hw1 c0 c1 c2 hgl
 obtain ⟨⟨c0, c1, c2⟩, -, hgl⟩ := HA1.out.1.cells
 go_wp2_with fail
 go_region_held3 (fun w' => (∀ b o, b < w1.heap.size → w'.cell? ⟨b, o, none⟩ = w1.cell? ⟨b, o, none⟩) ∧ Keep (fun _ => True) w1 w')
  (first | exact ks_mk (by repeat (first | exact (Keep.refl _ _).drew | exact Keep.refl _ _)))
  (fail)
 rename_i hHd
 clear hHd
 obtain ⟨w2, hw2⟩ : ∃ w2, w1.drew = w2 := ⟨_, rfl⟩
 simp only [hw2]
 have HA2 := hid (show RdS w2 g s i false ∧ Below w.heap.size w w2 by rw [← hw2]; exact ⟨HA1.out.1.drew, HA1.out.2.drew⟩)
 clear hw2 c0 c1 c2 hgl
 obtain ⟨⟨c0, c1, c2⟩, ⟨f1, f2⟩, hgl⟩ := HA2.out.1.cells
 go_wp2_with (first | (go_at_call 63; refine (HLT.out _).mono ?_; rintro e wl ⟨rfl, rfl⟩) | (go_at_call 56; refine (HMK.out _).mono ?_; rintro e wm ⟨rfl, rfl⟩))
 go_ret
 exact ⟨_, HR.out, _, [], rfl, .nil _ _, HA2.out.1.fail, gr_set (grown_below HA2.out.2) _, (fun M q e => by injection e), by simp [endR], by simp only [endR]; have := HIL.out; omega⟩
end Go.Proofs.YtbamkklhkhglnaaGreatDoor.PeP
namespace Go.Proofs.YtbamkklhkhglnaaGreatDoor.PeQ
open Go.Proofs.YtbamkklhkhglnaaGreatDoor.ImplB (grown_below)
open Go.RowKit Go.Lib Go.Proofs.YtbamkklhkhglnaaGreatDoor Tow CyA CyB LbC LbD LbN PeA PeD PeE PeF

theorem OwnN.one {w : World} {g : Nat} {x : Nd} (h : w.heap[g]? = some (.cells #[.int .i64 x.k, .string x.t, .string x.m] 63 (0, 0))) : OwnN g w (.slice (some ⟨g, 0, none⟩) 1 1) [x] :=
 ⟨rfl, .inr ⟨g, 1, _, rfl, Nat.le_refl _, h, Nat.le_refl _, by unfold maxLen; omega, rfl, rfl⟩⟩
theorem wp_app (w : World) {o : Oper} {a : Act} {K : Act → World → Prop} {Q : Exit → Act → World → Prop} (s x : Operand)
  (ho : o.op = .call { callee := .builtin .append, args := #[s, x], argTypes := #[25, 25] })
  (B : Nat) (v : Value) (L : List Nd) (hs : a.eval s = v) (hown : OwnN B w v L) (hL : 0 < L.length) (u : Value) (R : List Nd) (hx : a.eval x = u) (hR : NdN 0 w u R) (hl : L.length + R.length ≤ 1000000) (hB : B ≤ w.heap.size)
  (h : ∀ av cv w', OwnN B w' (.slice av (L.length + R.length) cv) (L ++ R) → w.grownBy w' v.ownBlock → K (a.put o.dst (.slice av (L.length + R.length) cv)) w') : o.wp Tryz.prog a w K Q := by
 obtain ⟨i0, hi, hz0, hz1, hz2⟩ := info_parts infoNd
 cases R with
 | nil =>
  obtain rfl := hR.none_ rfl
  obtain ⟨g, cap, hv, _⟩ := hown.form hL
  have hrun := run_append_owned_none (P := Tryz.prog) (w := w) B 25 o.type 63 i0 3 Tryz.underlying25 hi v L.length (ndc L) hown
  unfold Oper.wp
  simp [execOp, ho, resolve, invoke, builtin, hs, hx, hrun, Result.andThen]
  have h' := h (some ⟨g, 0, none⟩) cap w (by rw [List.append_nil]; simp only [List.length_nil, Nat.add_zero]; rw [← hv]; exact hown) (CyB.gr_refl _ _)
  simp only [List.length_nil, Nat.add_zero] at h'
  rw [hv]
  exact h'
 | cons r0 r =>
  obtain ⟨b2, o2, c2, rfl, -⟩ := hR.at_ 0 r0 rfl
  refine wp_append_lies w s x 25 ho B 63 i0 (.agg #[.int .i64 0, .string ByteArray.empty, .string ByteArray.empty]) 3 40 Tryz.underlying25 hi hz0 hz1 hz2 rfl (by decide) v L.length (ndc L) hs hown ⟨b2, o2, none⟩ (r0 :: r).length c2 (ndc (r0 :: r)) hx (ndc_len _) (ndc_src hR.nds) (ndc_one _) (by simp) (by unfold maxLen; omega) (by omega) hB w.heap.size rfl ?_
  intro g cap w' h1 h2 h3 h4
  refine h _ _ w' ?_ h2
  unfold OwnN
  rw [ndc_app, List.length_append]
  exact h1
theorem wpList_app (w : World) {ops : Array Oper} {rest : List Oper} {o : Oper} {a : Act} {Q : Exit → Act → World → Prop} (hgd : o.guard = none) (s x : Operand)
  (ho : o.op = .call { callee := .builtin .append, args := #[s, x], argTypes := #[25, 25] })
  (B : Nat) (v : Value) (L : List Nd) (hs : a.eval s = v) (hown : OwnN B w v L) (hL : 0 < L.length) (u : Value) (R : List Nd) (hx : a.eval x = u) (hR : NdN 0 w u R) (hl : L.length + R.length ≤ 1000000) (hB : B ≤ w.heap.size)
  (h : ∀ av cv w', OwnN B w' (.slice av (L.length + R.length) cv) (L ++ R) → w.grownBy w' v.ownBlock → wpList Tryz.prog ops Q rest (a.put o.dst (.slice av (L.length + R.length) cv)) w') : wpList Tryz.prog ops Q (o :: rest) a w :=
 wpList_plain hgd fun _ hK => wp_app w s x ho B v L hs hown hL u R hx hR hl hB fun av cv w' h1 h2 => hK _ _ (h av cv w' h1 h2)
theorem step_app (w : World) {ops : Array Oper} {o : Oper} {a : Act} {K : Act → World → Prop} {Q : Exit → Act → World → Prop} {E : Prop} (hgd : o.guard = none) (s x : Operand)
  (ho : o.op = .call { callee := .builtin .append, args := #[s, x], argTypes := #[25, 25] })
  (B : Nat) (v : Value) (L : List Nd) (hs : a.eval s = v) (hown : OwnN B w v L) (hL : 0 < L.length) (u : Value) (R : List Nd) (hx : a.eval x = u) (hR : NdN 0 w u R) (hl : L.length + R.length ≤ 1000000) (hB : B ≤ w.heap.size)
  (h : ∀ av cv w', OwnN B w' (.slice av (L.length + R.length) cv) (L ++ R) → w.grownBy w' v.ownBlock → K (a.put o.dst (.slice av (L.length + R.length) cv)) w') :
  if Region.wanted o (yielded ops a.tmps) = true then Oper.wp Tryz.prog o a w K Q else E := by
 have hw : Region.wanted o (yielded ops a.tmps) = true := by simp [Region.wanted, hgd]
 rw [if_pos hw]
 exact wp_app w s x ho B v L hs hown hL u R hx hR hl hB h
end Go.Proofs.YtbamkklhkhglnaaGreatDoor.PeQ
namespace Go.Proofs.YtbamkklhkhglnaaGreatDoor.PeR
open Go.Proofs.YtbamkklhkhglnaaGreatDoor.ImplB (grown_below)
open Go.RowKit Go.Lib Go.Proofs.YtbamkklhkhglnaaGreatDoor Tow CyA CyB LbC LbD LbN PeA PeD PeE PeF PeO PeP PeQ

def CtS (f n : Nat) (s : ByteArray) (B g d : Nat) : Prop := ∀ (w : World) (i : Nat), i ≤ s.size → s.size ≤ i + d → RdS w g s i false → B ≤ w.heap.size →
 Calls Tryz.prog f #[.pointer (some ⟨g, 0, none⟩)] w (FsP n B g s i w)
theorem tail_any (s : ByteArray) (B g k : Nat) (hs : s.size ≤ 300) (r : Rd) (hr : Rds (bs s) 2 [] k r) (W : World) (hA : RdS W g s (endR r) (isErr r)) (hend : endR r ≤ s.size) :
  Calls Tryz.prog 79 #[.pointer (some ⟨g, 0, none⟩), .int .u8 41] W (fun e w' => e = .returned (.tuple #[]) ∧ W.grownBy w' (some g) ∧ ∃ r5, Rds (bs s) 5 [] k r5 ∧ RdS w' g s (endR r5) (isErr r5) ∧ (∀ M q5, r5 = .ok (M, q5) → ∃ q, r = .ok (M, q)) ∧ endR r ≤ endR r5 ∧ endR r5 ≤ s.size) := by
 cases r with
 | error p =>
  refine (take_bad W g p s hA 41).mono ?_
  rintro e w' ⟨rfl, h1, h2⟩
  exact ⟨rfl, h2, _, .per hr, h1, (fun M q e => by cases e), Nat.le_refl _, hend⟩
 | ok rq =>
  obtain ⟨M, q⟩ := rq
  by_cases hc : (bs s)[q]? = some 41
  ·refine (PeO.take_yes W g q s hA (by omega) 41 hc).mono ?_
   rintro e w' ⟨rfl, h1, h2⟩
   have hl : q < s.size := by have := (List.getElem?_eq_some_iff.1 hc).1; rwa [bs_len] at this
   exact ⟨rfl, h2, _, .pok hr hc, h1, (fun M' q' e => by cases e; exact ⟨_, rfl⟩), by simp [endR], hl⟩
  ·refine (PeO.take_no W g q s hA hend 41 hc).mono ?_
   rintro e w' ⟨rfl, h1, h2⟩
   exact ⟨rfl, h2, _, .pno hr hc, h1, (fun M' q' e => by cases e), Nat.le_refl _, hend⟩
theorem fac_par (w : World) (B g i d : Nat) (s : ByteArray) (hs : s.size ≤ 300) (hg : g < B) (hA : RdS w g s i false) (hB : B ≤ w.heap.size) (HP : CtS 30 2 s B g d) (hd : s.size ≤ i + 1 + d) (c : UInt8) (hc : (bs s)[i]? = some c) (h40 : c = 40) :
  Calls Tryz.prog 55 #[.pointer (some ⟨g, 0, none⟩)] w (FsP 0 B g s i w) := by
 have hl : i < s.size := by have := (List.getElem?_eq_some_iff.1 hc).1; rwa [bs_len] at this
 have hex : s.extract i (i + 1) = ba [c] := ext_one hc
 obtain ⟨cs, hcs⟩ : ∃ cs, ba [c] = cs := ⟨_, rfl⟩
 rw [hcs] at hex
 have HIL := hid hl
 have HBB := hid hB
 have HSS := hid hs
 have HLT := hid (fun (W : World) => slet_any cs W)
 have HMK := hid (fun (W : World) => smk_any cs W)
 rw [show cs.data.toList = [c] by rw [← hcs]; rfl] at HLT HMK
 have hlt : isLt [c] = false := by rw [h40]; decide
 have e1 : (cs.toList == [123]) = false := by rw [← hcs]; exact ba_eq (by rw [h40]; decide)
 have e2 : (cs.toList == [91]) = false := by rw [← hcs]; exact ba_eq (by rw [h40]; decide)
 have e4 : (cs.toList == [40]) = true := by rw [← hcs, h40]; exact ba_yes _
 rw [hlt] at HLT
 have HPP := hid (fun (W : World) (hA : RdS W g s (i + 1) false) (hBW : B ≤ W.heap.size) => HP W (i + 1) (by omega) hd hA hBW)
 have HTL := hid (fun (r : Rd) (hr : Rds (bs s) 2 [] (i + 1) r) (W : World) (hA : RdS W g s (endR r) (isErr r)) (hend : endR r ≤ s.size) => tail_any s B g (i + 1) hs r hr W hA hend)
 have HRR := hid (fun r (hr : Rds (bs s) 5 [] (i + 1) r) => Rds.fpo (by rw [hc, h40]) hr)
 have HG0 := hid hg
 obtain ⟨⟨c0, c1, c2⟩, -, hgl⟩ := hA.cells
 have HA := hid hA
 have hge : ¬ (i : Int) ≥ (s.size : Int) := by omega
 have hli : (i : Int) < (s.size : Int) := by omega
 have hle : (i : Int) ≤ (i : Int) + 1 := by omega
 have hl1 : (i : Int) + 1 ≤ (s.size : Int) := by omega
 have hi0 : (0 : Int) ≤ (i : Int) := by omega
 have hwi : IntKind.i64.wrap ((i : Int) + 1) = (i : Int) + 1 := IntWalk.i64_in _ (by omega)
 have hgen : decide (s.size ≤ i) = false := decide_eq_false (by omega)
 clear hA hc hcs hs hB hl HP hd hlt h40 hg
 go_enter Tryz.func55, Tryz.ntmps55
 go_wp2_with fail
 go_region_held3 (fun w' => (∀ b o, b < w.heap.size → w'.cell? ⟨b, o, none⟩ = w.cell? ⟨b, o, none⟩) ∧ Keep (fun _ => True) w w')
  (first | exact ks_mk (by repeat (first | exact (Keep.refl _ _).drew | exact Keep.refl _ _)))
  (fail)
 rename_i hHd
 clear hHd
 obtain ⟨w1, hw1⟩ : ∃ w1, w.drew = w1 := ⟨_, rfl⟩
 simp only [hw1]
 have HA1 := hid (show RdS w1 g s i false ∧ Below w.heap.size w w1 by rw [← hw1]; exact ⟨HA.out.drew, (Below.refl _ _).drew⟩)
 clear hw1 c0 c1 c2 hgl
 obtain ⟨⟨c0, c1, c2⟩, -, hgl⟩ := HA1.out.1.cells
 go_wp2_with fail
 go_region_held3 (fun w' => (∀ b o, b < w1.heap.size → w'.cell? ⟨b, o, none⟩ = w1.cell? ⟨b, o, none⟩) ∧ Keep (fun _ => True) w1 w')
  (first | exact ks_mk (by repeat (first | exact (Keep.refl _ _).drew | exact Keep.refl _ _)))
  (fail)
 rename_i hHd
 clear hHd
 obtain ⟨w2, hw2⟩ : ∃ w2, w1.drew = w2 := ⟨_, rfl⟩
 simp only [hw2]
 have HA2 := hid (show RdS w2 g s i false ∧ Below w.heap.size w w2 by rw [← hw2]; exact ⟨HA1.out.1.drew, HA1.out.2.drew⟩)
 clear hw2 c0 c1 c2 hgl
 obtain ⟨⟨c0, c1, c2⟩, ⟨f1, f2⟩, hgl⟩ := HA2.out.1.cells
 go_upto_region 20 with (go_at_call 63; refine (HLT.out _).mono ?_; rintro e wl ⟨rfl, rfl⟩)
 obtain ⟨w3, hw3⟩ : ∃ w3, wl.setCell ⟨g, 1, none⟩ (.int .i64 ((i : Int) + 1)) = w3 := ⟨_, rfl⟩
 simp only [hw3]
 have HA3 := hid (show RdS w3 g s (i + 1) false ∧ w.grownBy w3 (some g) by rw [← hw3]; exact ⟨HA2.out.1.go (i + 1), gr_set (grown_below HA2.out.2) _⟩)
 clear hw3 c0 c1 c2 f1 f2 hgl
 have HPQ := hid (HPP.out w3 HA3.out.1 (Nat.le_trans HBB.out HA3.out.2.size))
 go_wp2_with (first | (go_at_call 30; refine (HPQ.out).mono ?_; rintro e w4 ⟨r, hr, v, L, rfl, hN, hA4, hg4, hM, hlen, hend⟩; have HR := hid hr; have HN := hid hN; have HA4 := hid hA4; have HG4 := hid hg4; have HMM := hid hM; have HLE := hid hlen; have HEN := hid hend; obtain ⟨a, cv, rfl⟩ := hN.form; clear hr hN hA4 hg4 hM hlen hend) | (go_at_call 79; refine (HTL.out _ HR.out _ HA4.out HEN.out).mono ?_; rintro e w5 ⟨rfl, hg5, r5, hr5, hA5, hM5, he5, hs5⟩; have HR5 := hid hr5; have HA5 := hid hA5; have HG5 := hid hg5; have HM5 := hid hM5; have HE5 := hid (And.intro he5 hs5); clear hr5 hA5 hg5 hM5 he5 hs5))
 refine bodyPost_ret (v := .slice a L.length cv) (by simp [results, Tryz.results55, go_sem]) rfl ?_
 exact ⟨_, HRR.out _ HR5.out, _, L, rfl, HN.out.grown HG5.out HG0.out, HA5.out, gr_tr (gr_tr HA3.out.2 HG4.out) HG5.out, (fun M q e => by obtain ⟨q', e'⟩ := HM5.out M q e; exact HMM.out M q' e'), by have := HLE.out; have := HE5.out; omega, HE5.out.2⟩
theorem fac_mky (w : World) (B g i d : Nat) (s : ByteArray) (hs : s.size ≤ 300) (hg : g < B) (hA : RdS w g s i false) (hB : B ≤ w.heap.size) (HP : CtS 30 2 s B g d) (hd : s.size ≤ i + 1 + d) (c : UInt8) (hc : (bs s)[i]? = some c) (hm : isMk [c] = true) (hp : (bs s)[i + 1]? = some 40) :
  Calls Tryz.prog 55 #[.pointer (some ⟨g, 0, none⟩)] w (FsP 0 B g s i w) := by
 have hl : i < s.size := by have := (List.getElem?_eq_some_iff.1 hc).1; rwa [bs_len] at this
 have hex : s.extract i (i + 1) = ba [c] := ext_one hc
 obtain ⟨cs, hcs⟩ : ∃ cs, ba [c] = cs := ⟨_, rfl⟩
 rw [hcs] at hex
 have HIL := hid hl
 have HBB := hid hB
 have HSS := hid hs
 have HLT := hid (fun (W : World) => slet_any cs W)
 have HMK := hid (fun (W : World) => smk_any cs W)
 rw [show cs.data.toList = [c] by rw [← hcs]; rfl] at HLT HMK
 have hsg := isMk_sg hm
 have e1 : (cs.toList == [123]) = false := by rw [← hcs]; exact ba_eq hsg.1
 have e2 : (cs.toList == [91]) = false := by rw [← hcs]; exact ba_eq hsg.2.1
 have e4 : (cs.toList == [40]) = false := by rw [← hcs]; exact ba_eq hsg.2.2.1
 rw [hsg.2.2.2] at HLT
 rw [hm] at HMK
 have HX := hid (show ba [c] = cs from hcs)
 have HG0 := hid hg
 have hl2 : i + 1 < s.size := by have := (List.getElem?_eq_some_iff.1 hp).1; rwa [bs_len] at this
 have HPP := hid (fun (W : World) (hA : RdS W g s (i + 2) false) (hBW : B ≤ W.heap.size) => HP W (i + 2) (by omega) (by omega) hA hBW)
 have HTL := hid (fun (r : Rd) (hr : Rds (bs s) 2 [] (i + 2) r) (W : World) (hA : RdS W g s (endR r) (isErr r)) (hend : endR r ≤ s.size) => tail_any s B g (i + 2) hs r hr W hA hend)
 have HT1 := hid (fun (W : World) (hA : RdS W g s (i + 1) false) => show Calls Tryz.prog 79 #[.pointer (some ⟨g, 0, none⟩), .int .u8 40] W (TkS g s (i + 2) false W) from PeO.take_yes W g (i + 1) s hA (by omega) 40 hp)
 have HRR := hid (fun r (hr : Rds (bs s) 5 [] (i + 2) r) => Rds.fmk hc hm hp hr)
 obtain ⟨⟨c0, c1, c2⟩, -, hgl⟩ := hA.cells
 have HA := hid hA
 have hge : ¬ (i : Int) ≥ (s.size : Int) := by omega
 have hli : (i : Int) < (s.size : Int) := by omega
 have hle : (i : Int) ≤ (i : Int) + 1 := by omega
 have hl1 : (i : Int) + 1 ≤ (s.size : Int) := by omega
 have hi0 : (0 : Int) ≤ (i : Int) := by omega
 have hwi : IntKind.i64.wrap ((i : Int) + 1) = (i : Int) + 1 := IntWalk.i64_in _ (by omega)
 have hgen : decide (s.size ≤ i) = false := decide_eq_false (by omega)
 clear hA hc hcs hs hB hl HP hd hm hsg hp hl2 hg
 go_enter Tryz.func55, Tryz.ntmps55
 go_wp2_with fail
 go_region_held3 (fun w' => (∀ b o, b < w.heap.size → w'.cell? ⟨b, o, none⟩ = w.cell? ⟨b, o, none⟩) ∧ Keep (fun _ => True) w w')
  (first | exact ks_mk (by repeat (first | exact (Keep.refl _ _).drew | exact Keep.refl _ _)))
  (fail)
 rename_i hHd
 clear hHd
 obtain ⟨w1, hw1⟩ : ∃ w1, w.drew = w1 := ⟨_, rfl⟩
 simp only [hw1]
 have HA1 := hid (show RdS w1 g s i false ∧ Below w.heap.size w w1 by rw [← hw1]; exact ⟨HA.out.drew, (Below.refl _ _).drew⟩)
 clear hw1 c0 c1 c2 hgl
 obtain ⟨⟨c0, c1, c2⟩, -, hgl⟩ := HA1.out.1.cells
 go_wp2_with fail
 go_region_held3 (fun w' => (∀ b o, b < w1.heap.size → w'.cell? ⟨b, o, none⟩ = w1.cell? ⟨b, o, none⟩) ∧ Keep (fun _ => True) w1 w')
  (first | exact ks_mk (by repeat (first | exact (Keep.refl _ _).drew | exact Keep.refl _ _)))
  (fail)
 rename_i hHd
 clear hHd
 obtain ⟨w2, hw2⟩ : ∃ w2, w1.drew = w2 := ⟨_, rfl⟩
 simp only [hw2]
 have HA2 := hid (show RdS w2 g s i false ∧ Below w.heap.size w w2 by rw [← hw2]; exact ⟨HA1.out.1.drew, HA1.out.2.drew⟩)
 clear hw2 c0 c1 c2 hgl
 obtain ⟨⟨c0, c1, c2⟩, ⟨f1, f2⟩, hgl⟩ := HA2.out.1.cells
 go_upto_region 25 with (first | (go_at_call 63; refine (HLT.out _).mono ?_; rintro e wl ⟨rfl, rfl⟩) | (go_at_call 56; refine (HMK.out _).mono ?_; rintro e wm ⟨rfl, rfl⟩))
 obtain ⟨w3, hw3⟩ : ∃ w3, wm.setCell ⟨g, 1, none⟩ (.int .i64 ((i : Int) + 1)) = w3 := ⟨_, rfl⟩
 simp only [hw3]
 have HA3 := hid (show RdS w3 g s (i + 1) false ∧ w.grownBy w3 (some g) by rw [← hw3]; exact ⟨HA2.out.1.go (i + 1), gr_set (grown_below HA2.out.2) _⟩)
 clear hw3 c0 c1 c2 f1 f2 hgl
 go_upto_region 26 with (go_at_call 79; refine (HT1.out _ HA3.out.1).mono ?_; rintro e w4 ⟨rfl, hA4, hg4⟩; have HA4 := hid hA4; have HG4 := hid (gr_tr HA3.out.2 hg4); clear hA4 hg4)
 have HPQ := hid (HPP.out w4 HA4.out (Nat.le_trans HBB.out HG4.out.size))
 go_upto_region 28 with (first | (go_at_call 30; refine (HPQ.out).mono ?_; rintro e w5 ⟨r, hr, v, L, rfl, hN, hA5, hg5, hM, hlen, hend⟩; have HR := hid hr; have HN := hid hN; have HA5 := hid hA5; have HG5 := hid hg5; have HMM := hid hM; have HLE := hid hlen; have HEN := hid hend; obtain ⟨a, cv, rfl⟩ := hN.form; clear hr hN hA5 hg5 hM hlen hend) | (go_at_call 79; refine (HTL.out _ HR.out _ HA5.out HEN.out).mono ?_; rintro e w6 ⟨rfl, hg6, r5, hr5, hA6, hM5, he5, hs5⟩; have HR5 := hid hr5; have HA6 := hid hA6; have HG6 := hid (gr_tr (gr_tr HG4.out HG5.out) hg6); have HN6 := hid (HN.out.grown hg6 HG0.out); have HM5 := hid hM5; have HE5 := hid (And.intro he5 hs5); clear hr5 hA6 hg6 hM5 he5 hs5))
 obtain ⟨g9, hg9⟩ : ∃ g9, w6.heap.size = g9 := ⟨_, rfl⟩
 obtain ⟨w9, hw9⟩ : ∃ w9, w6.alloc (.cells #[.int .i64 5, .string ⟨#[]⟩, .string cs] 63) = w9 := ⟨_, rfl⟩
 have HO9 := hid (show OwnN g9 w9 (.slice (some ⟨g9, 0, none⟩) 1 1) [ndM 5 c] by
  rw [← hw9, ← hg9]
  refine OwnN.one (x := ndM 5 c) ?_
  have hX : (ndM 5 c).m = cs := HX.out
  rw [hX]
  exact World.alloc_heap_new _ _)
 have HB9 := hid (show Below w6.heap.size w6 w9 by rw [← hw9]; exact (Below.refl _ _).alloc (Nat.le_refl _) _)
 have HG9 := hid hg9
 have HN9 := hid (NdN.mono (NdN.below HN6.out HB9.out) (Nat.zero_le B))
 go_wp2_with (at_builtin; (try simp only [hw9, hg9]); refine wpList_app _ rfl _ _ rfl g9 _ [ndM 5 c] rfl HO9.out (by simp) _ L rfl HN9.out (by have := HLE.out; have := HEN.out; have := HSS.out; simp only [List.length_cons, List.length_nil]; omega) (by have := HB9.out.size; have := HG9.out; omega) ?_; intro av cv9 wz hOz hgz; have HOZ := hid hOz; have HGZ := hid hgz; clear hOz hgz)
 refine bodyPost_ret (v := .slice av ([ndM 5 c].length + L.length) cv9) (by simp [results, Tryz.results55, go_sem]) rfl ?_
 have hbz : Below w6.heap.size w6 wz := HB9.out.grown HGZ.out HB9.out.size (fun k hk => by have := HG9.out; have hk' : g9 = k := Option.some.inj hk; omega)
 have hle0 : [ndM 5 c].length + L.length = (ndM 5 c :: L).length := by simp; omega
 rw [hle0] at HOZ ⊢
 exact ⟨_, HRR.out _ HR5.out, _, ndM 5 c :: L, rfl, PeF.NdN.mono (OwnN.ndn HOZ.out (by simp)) (by have := HG9.out; have := HG6.out.size; have := HBB.out; omega), by rw [endR_put, isErr_put]; exact HA6.out.below hbz, gr_tr HG6.out (grown_below hbz), (fun M q e => by
  cases r5 with
  | error p => cases e
  | ok rq => obtain ⟨M', q'⟩ := rq; cases e; obtain ⟨q'', e'⟩ := HM5.out M' _ rfl; rw [HMM.out M' q'' e']), by rw [endR_put]; have := HLE.out; have := HE5.out; simp only [List.length_cons]; omega, by rw [endR_put]; exact HE5.out.2⟩
theorem term_bad (w : World) (g i : Nat) (s : ByteArray) (hA : RdS w g s i true) :
  Calls Tryz.prog 44 #[.pointer (some ⟨g, 0, none⟩)] w (FbR g s i w) := by
 have HF := hid (PeP.fac_bad w g i s hA)
 clear hA
 go_enter Tryz.func44, Tryz.ntmps44
 go_wp2_with (go_at_call 55; refine HF.out.mono ?_; rintro e w1 ⟨rfl, hA1, hg1⟩; have HA1 := hid hA1; have HG1 := hid hg1; clear hA1 hg1)
 go_loopw [3] (fun ov wr => ov = .slice none 0 0 ∧ Hid (RdS wr g s i true ∧ w.grownBy wr (some g))) (fun _ _ => 0)
 case atStart => exact ⟨rfl, hid ⟨HA1.out, HG1.out⟩⟩
 case round =>
  obtain ⟨rfl, hH⟩ := hrel
  obtain ⟨⟨c0, c1, c2⟩, -, hgl⟩ := hH.out.1.cells
  go_wp2_with fail
  go_ret
  exact ⟨rfl, hH.out.1, hH.out.2⟩
theorem prod_bad (w : World) (g i : Nat) (s : ByteArray) (hA : RdS w g s i true) :
  Calls Tryz.prog 30 #[.pointer (some ⟨g, 0, none⟩)] w (FbR g s i w) := by
 have HF := hid (term_bad w g i s hA)
 clear hA
 go_enter Tryz.func30, Tryz.ntmps30
 go_wp2_with (go_at_call 44; refine HF.out.mono ?_; rintro e w1 ⟨rfl, hA1, hg1⟩; have HA1 := hid hA1; have HG1 := hid hg1; clear hA1 hg1)
 go_loopw [3] (fun ov wr => ov = .slice none 0 0 ∧ Hid (RdS wr g s i true ∧ w.grownBy wr (some g))) (fun _ _ => 0)
 case atStart => exact ⟨rfl, hid ⟨HA1.out, HG1.out⟩⟩
 case round =>
  obtain ⟨rfl, hH⟩ := hrel
  obtain ⟨⟨c0, c1, c2⟩, -, hgl⟩ := hH.out.1.cells
  go_wp2_with fail
  go_ret
  exact ⟨rfl, hH.out.1, hH.out.2⟩
theorem fac_mkn (w : World) (B g i d : Nat) (s : ByteArray) (hs : s.size ≤ 300) (hg : g < B) (hA : RdS w g s i false) (hB : B ≤ w.heap.size) (HP : CtS 30 2 s B g d) (hd : s.size ≤ i + 1 + d) (c : UInt8) (hc : (bs s)[i]? = some c) (hm : isMk [c] = true) (hp : (bs s)[i + 1]? ≠ some 40) :
  Calls Tryz.prog 55 #[.pointer (some ⟨g, 0, none⟩)] w (FsP 0 B g s i w) := by
 have hl : i < s.size := by have := (List.getElem?_eq_some_iff.1 hc).1; rwa [bs_len] at this
 have hex : s.extract i (i + 1) = ba [c] := ext_one hc
 obtain ⟨cs, hcs⟩ : ∃ cs, ba [c] = cs := ⟨_, rfl⟩
 rw [hcs] at hex
 have HIL := hid hl
 have HBB := hid hB
 have HSS := hid hs
 have HLT := hid (fun (W : World) => slet_any cs W)
 have HMK := hid (fun (W : World) => smk_any cs W)
 rw [show cs.data.toList = [c] by rw [← hcs]; rfl] at HLT HMK
 have hsg := isMk_sg hm
 have e1 : (cs.toList == [123]) = false := by rw [← hcs]; exact ba_eq hsg.1
 have e2 : (cs.toList == [91]) = false := by rw [← hcs]; exact ba_eq hsg.2.1
 have e4 : (cs.toList == [40]) = false := by rw [← hcs]; exact ba_eq hsg.2.2.1
 rw [hsg.2.2.2] at HLT
 rw [hm] at HMK
 have HX := hid (show ba [c] = cs from hcs)
 have HG0 := hid hg
 have HT1 := hid (fun (W : World) (hA : RdS W g s (i + 1) false) => show Calls Tryz.prog 79 #[.pointer (some ⟨g, 0, none⟩), .int .u8 40] W (TkS g s (i + 1) true W) from PeO.take_no W g (i + 1) s hA (by omega) 40 hp)
 have HT2 := hid (fun (W : World) (hA : RdS W g s (i + 1) true) => show Calls Tryz.prog 79 #[.pointer (some ⟨g, 0, none⟩), .int .u8 41] W (TkS g s (i + 1) true W) from PeO.take_bad W g (i + 1) s hA 41)
 have HRR := hid (Rds.fm1 hc hm hp)
 obtain ⟨⟨c0, c1, c2⟩, -, hgl⟩ := hA.cells
 have HA := hid hA
 have hge : ¬ (i : Int) ≥ (s.size : Int) := by omega
 have hli : (i : Int) < (s.size : Int) := by omega
 have hle : (i : Int) ≤ (i : Int) + 1 := by omega
 have hl1 : (i : Int) + 1 ≤ (s.size : Int) := by omega
 have hi0 : (0 : Int) ≤ (i : Int) := by omega
 have hwi : IntKind.i64.wrap ((i : Int) + 1) = (i : Int) + 1 := IntWalk.i64_in _ (by omega)
 have hgen : decide (s.size ≤ i) = false := decide_eq_false (by omega)
 clear hA hc hcs hs hB hl HP hd hm hsg hp hg
 go_enter Tryz.func55, Tryz.ntmps55
 go_wp2_with fail
 go_region_held3 (fun w' => (∀ b o, b < w.heap.size → w'.cell? ⟨b, o, none⟩ = w.cell? ⟨b, o, none⟩) ∧ Keep (fun _ => True) w w')
  (first | exact ks_mk (by repeat (first | exact (Keep.refl _ _).drew | exact Keep.refl _ _)))
  (fail)
 rename_i hHd
 clear hHd
 obtain ⟨w1, hw1⟩ : ∃ w1, w.drew = w1 := ⟨_, rfl⟩
 simp only [hw1]
 have HA1 := hid (show RdS w1 g s i false ∧ Below w.heap.size w w1 by rw [← hw1]; exact ⟨HA.out.drew, (Below.refl _ _).drew⟩)
 clear hw1 c0 c1 c2 hgl
 obtain ⟨⟨c0, c1, c2⟩, -, hgl⟩ := HA1.out.1.cells
 go_wp2_with fail
 go_region_held3 (fun w' => (∀ b o, b < w1.heap.size → w'.cell? ⟨b, o, none⟩ = w1.cell? ⟨b, o, none⟩) ∧ Keep (fun _ => True) w1 w')
  (first | exact ks_mk (by repeat (first | exact (Keep.refl _ _).drew | exact Keep.refl _ _)))
  (fail)
 rename_i hHd
 clear hHd
 obtain ⟨w2, hw2⟩ : ∃ w2, w1.drew = w2 := ⟨_, rfl⟩
 simp only [hw2]
 have HA2 := hid (show RdS w2 g s i false ∧ Below w.heap.size w w2 by rw [← hw2]; exact ⟨HA1.out.1.drew, HA1.out.2.drew⟩)
 clear hw2 c0 c1 c2 hgl
 obtain ⟨⟨c0, c1, c2⟩, ⟨f1, f2⟩, hgl⟩ := HA2.out.1.cells
 go_upto_region 25 with (first | (go_at_call 63; refine (HLT.out _).mono ?_; rintro e wl ⟨rfl, rfl⟩) | (go_at_call 56; refine (HMK.out _).mono ?_; rintro e wm ⟨rfl, rfl⟩))
 obtain ⟨w3, hw3⟩ : ∃ w3, wm.setCell ⟨g, 1, none⟩ (.int .i64 ((i : Int) + 1)) = w3 := ⟨_, rfl⟩
 simp only [hw3]
 have HA3 := hid (show RdS w3 g s (i + 1) false ∧ w.grownBy w3 (some g) by rw [← hw3]; exact ⟨HA2.out.1.go (i + 1), gr_set (grown_below HA2.out.2) _⟩)
 clear hw3 c0 c1 c2 f1 f2 hgl
 go_upto_region 26 with (go_at_call 79; refine (HT1.out _ HA3.out.1).mono ?_; rintro e w4 ⟨rfl, hA4, hg4⟩; have HA4 := hid hA4; have HG4 := hid (gr_tr HA3.out.2 hg4); clear hA4 hg4)
 go_upto_region 28 with (first | (go_at_call 30; refine (prod_bad w4 g (i + 1) s HA4.out).mono ?_; rintro e w5 ⟨rfl, hA5, hg5⟩; have HA5 := hid hA5; have HG5 := hid hg5; clear hA5 hg5) | (go_at_call 79; refine (HT2.out _ HA5.out).mono ?_; rintro e w6 ⟨rfl, hA6, hg6⟩; have HA6 := hid hA6; have HG6 := hid (gr_tr (gr_tr HG4.out HG5.out) hg6); clear hA6 hg6))
 obtain ⟨g9, hg9⟩ : ∃ g9, w6.heap.size = g9 := ⟨_, rfl⟩
 obtain ⟨w9, hw9⟩ : ∃ w9, w6.alloc (.cells #[.int .i64 5, .string ⟨#[]⟩, .string cs] 63) = w9 := ⟨_, rfl⟩
 have HO9 := hid (show OwnN g9 w9 (.slice (some ⟨g9, 0, none⟩) 1 1) [ndM 5 c] by
  rw [← hw9, ← hg9]
  refine OwnN.one (x := ndM 5 c) ?_
  have hX : (ndM 5 c).m = cs := HX.out
  rw [hX]
  exact World.alloc_heap_new _ _)
 have HB9 := hid (show Below w6.heap.size w6 w9 by rw [← hw9]; exact (Below.refl _ _).alloc (Nat.le_refl _) _)
 have HG9 := hid hg9
 go_wp2_with (at_builtin; (try simp only [hw9, hg9]); refine wpList_app _ rfl _ _ rfl g9 _ [ndM 5 c] rfl HO9.out (by simp) _ [] rfl (NdN.nil _ _) (by simp) (by have := HB9.out.size; have := HG9.out; omega) ?_; intro av cv9 wz hOz hgz; have HOZ := hid hOz; have HGZ := hid hgz; clear hOz hgz)
 refine bodyPost_ret (v := .slice av ([ndM 5 c].length + ([] : List Nd).length) cv9) (by simp [results, Tryz.results55, go_sem]) rfl ?_
 have hbz : Below w6.heap.size w6 wz := HB9.out.grown HGZ.out HB9.out.size (fun k hk => by have := HG9.out; have hk' : g9 = k := Option.some.inj hk; omega)
 exact ⟨_, HRR.out, _, [ndM 5 c], rfl, PeF.NdN.mono (OwnN.ndn (by simpa using HOZ.out) (by simp)) (by have := HG9.out; have := HG6.out.size; have := HBB.out; omega), HA6.out.below hbz, gr_tr HG6.out (grown_below hbz), (fun M q e => by cases e), by simp [endR]; omega, by simp only [endR]; have := HIL.out; omega⟩
theorem fac_of (s : ByteArray) (B g d : Nat) (hs : s.size ≤ 300) (hg : g < B) (HP : CtS 30 2 s B g d) : CtS 55 0 s B g (d + 1) := by
 intro w i hi hd hA hB
 cases hc : (bs s)[i]? with
 | none =>
  obtain rfl : i = s.size := by
   rw [List.getElem?_eq_none_iff, bs_len] at hc
   omega
  exact PeP.fac_end w B g s hA
 | some c =>
  by_cases h1 : c = 123
  ·exact PeP.fac_b123 w B g i s hs hA hg hB (by rw [hc, h1])
  by_cases h2 : c = 91
  ·exact PeP.fac_b91 w B g i s hs hA hg hB (by rw [hc, h2])
  by_cases h4 : c = 40
  ·exact fac_par w B g i d s hs hg hA hB HP (by omega) c hc h4
  cases h3 : isLt [c] with
  | true => exact PeP.fac_let w B g i s hs hA hB c hc h3
  | false =>
   cases h5 : isMk [c] with
   | true =>
    by_cases hp : (bs s)[i + 1]? = some 40
    ·exact fac_mky w B g i d s hs hg hA hB HP (by omega) c hc h5 hp
    ·exact fac_mkn w B g i d s hs hg hA hB HP (by omega) c hc h5 hp
   | false => exact PeP.fac_none w B g i s hs hA hB c hc h1 h2 h3 h4 h5
end Go.Proofs.YtbamkklhkhglnaaGreatDoor.PeR
namespace Go.Proofs.YtbamkklhkhglnaaGreatDoor.PeS
open Go.Proofs.YtbamkklhkhglnaaGreatDoor.ImplB (grown_below)
open Go.RowKit Go.Lib Go.Proofs.YtbamkklhkhglnaaGreatDoor Tow CyA CyB LbC LbD LbN PeA PeD PeE PeF PeO PeP PeQ PeR

def meq (s : ByteArray) (g : Nat) (w : World) : Nat := match w.cell? ⟨g, 2, none⟩, w.cell? ⟨g, 1, none⟩ with
 | some (.bool false), some (.int _ z) => s.size + 1 - z.toNat
 | _, _ => 0
theorem meq_go {w : World} {g q : Nat} {s : ByteArray} (h : RdS w g s q false) : meq s g w = s.size + 1 - q := by
 unfold meq
 rw [h.cells.1.2.1, h.cells.1.2.2]
 simp
theorem meq_bad {w : World} {g q : Nat} {s : ByteArray} (h : RdS w g s q true) : meq s g w = 0 := by
 unfold meq
 rw [h.cells.1.2.2]
def TrmQ (n m : Nat) (s : ByteArray) (B g i : Nat) (w : World) (b : Bool) (L : List Nd) (q : Nat) (lv : Value) (wr : World) : Prop :=
 NdN B wr lv L ∧ RdS wr g s q (!b) ∧ w.grownBy wr (some g) ∧ L.length + i ≤ q ∧ q ≤ s.size ∧
 (b = true → ∀ r, Rds (bs s) m L q r → Rds (bs s) n [] i r) ∧ (b = false → Rds (bs s) n [] i (.error q))
theorem own_new (W : World) (x : Nd) (u : ByteArray) (h : x.m = u) (h3 : x.t = ⟨#[]⟩) : OwnN W.heap.size (W.alloc (.cells #[.int .i64 x.k, .string ⟨#[]⟩, .string u] 63)) (.slice (some ⟨W.heap.size, 0, none⟩) 1 1) [x] :=
 OwnN.one (by rw [h, h3]; exact World.alloc_heap_new _ _)
theorem term_of (s : ByteArray) (B g d : Nat) (hs : s.size ≤ 300) (hg : g < B) (HP : CtS 55 0 s B g d) : CtS 44 1 s B g d := by
 intro w i hi hd hA hB
 have HF := hid (HP w i hi hd hA hB)
 have HS := hid hs
 have HB := hid hB
 clear hA HP hd hi hs
 go_enter Tryz.func44, Tryz.ntmps44
 go_wp2_with (go_at_call 55; refine HF.out.mono ?_; rintro e w2 ⟨r, hr, v, L, rfl, hN, hA2, hg2, hM, hlen, hend⟩; have HR := hid hr; have HN := hid hN; have HA2 := hid hA2; have HG2 := hid hg2; have HMM := hid hM; have HLE := hid hlen; have HEN := hid hend; obtain ⟨a, c, rfl⟩ := hN.form; clear hr hN hA2 hg2 hM hlen hend)
 go_loopw [3] (fun lv wr => ∃ b : Bool, ∃ (L : List Nd) (q : Nat), (∃ a c, lv = .slice a L.length c) ∧ Hid (TrmQ 1 3 s B g i w b L q lv wr)) (fun _ wr => meq s g wr)
 case atStart =>
  refine ⟨!isErr r, L, endR r, ⟨a, c, rfl⟩, hid ⟨HN.out, by rw [Bool.not_not]; exact HA2.out, HG2.out, HLE.out, HEN.out, fun hb r' hr' => ?_, fun hb => ?_⟩⟩
  ·cases r with
   | error p => simp [isErr] at hb
   | ok rq => obtain ⟨M, q⟩ := rq; obtain rfl := HMM.out M q rfl; exact .tok HR.out hr'
  ·cases r with
   | error p => exact .ter HR.out
   | ok rq => simp [isErr] at hb
 case round =>
  obtain ⟨b, L, q, ⟨a, c, rfl⟩, hT⟩ := hrel
  cases b with
  | false =>
   have HE := hid (hT.out.2.2.2.2.2.2 rfl)
   have HAr := hid (show RdS wr g s q true from hT.out.2.1)
   obtain ⟨⟨c0, c1, c2⟩, -, hgl⟩ := HAr.out.cells
   go_wp2_with fail
   go_ret
   exact ⟨_, HE.out, _, L, rfl, hT.out.1, HAr.out, hT.out.2.2.1, (fun M q e => by injection e), hT.out.2.2.2.1, hT.out.2.2.2.2.1⟩
  | true =>
   obtain ⟨hN, hA, hG, hle, hen, hyes, -⟩ := hT.out
   have hA : RdS wr g s q false := hA
   have HN := hid hN
   have HG := hid hG
   have HLE := hid hle
   have HEN := hid hen
   have HY := hid (hyes rfl)
   have HBr := hid (Nat.le_trans HB.out hG.size)
   have HAr := hid hA
   have HMS := hid (meq_go hA)
   obtain ⟨⟨c0, c1, c2⟩, -, hgl⟩ := hA.cells
   by_cases hc : (bs s)[q]? = some 47
   ·have hql : q < s.size := by have := (List.getElem?_eq_some_iff.1 hc).1; rwa [bs_len] at this
    have HI := is_any wr g q s false hA hen 47
    rw [decide_eq_true hc] at HI
    have HI := hid (show Calls Tryz.prog 45 #[.pointer (some ⟨g, 0, none⟩), .int .u8 47] wr (IsS true wr) from HI)
    have HQL := hid hql
    obtain ⟨q1, hq1⟩ : ∃ q1, q + 1 = q1 := ⟨_, rfl⟩
    have HQ1 := hid hq1
    have hwq : IntKind.i64.wrap ((q : Int) + 1) = (q1 : Int) := by rw [IntWalk.i64_in _ (by have := HS.out; omega)]; omega
    by_cases hz : q1 = s.size
    ·have HYY := hid (HY.out _ (.qer hc (fun m' e => by rw [hq1, List.getElem?_eq_none (by rw [bs_len]; omega)] at e; cases e)))
     have hge : (q1 : Int) ≥ (s.size : Int) := by omega
     have hgn : decide (s.size ≤ q1) = true := decide_eq_true (by omega)
     clear hN hA hG hle hen hyes hc hql hz hq1
     go_upto_region 4 with (go_at_call 45; refine HI.out.mono ?_; rintro e w3 ⟨rfl, hb3⟩; have HB3 := hid hb3; have HA3 := hid (HAr.out.below hb3); clear hb3 c0 c1 c2 hgl; obtain ⟨⟨c0, c1, c2⟩, ⟨f1, f2⟩, hgl⟩ := HA3.out.cells)
     obtain ⟨w4, hw4⟩ : ∃ w4, w3.setCell ⟨g, 1, none⟩ (.int .i64 (q1 : Int)) = w4 := ⟨_, rfl⟩
     simp only [hw4]
     have HA4 := hid (show RdS w4 g s q1 false ∧ wr.grownBy w4 (some g) by rw [← hw4]; exact ⟨HA3.out.go q1, gr_set (grown_below HB3.out) _⟩)
     clear hw4 c0 c1 c2 f1 f2 hgl
     obtain ⟨⟨c0, c1, c2⟩, ⟨f1, f2⟩, hgl⟩ := HA4.out.1.cells
     go_region
     all_goals
      obtain ⟨w5, hw5⟩ : ∃ w5, w4.drew = w5 := ⟨_, rfl⟩
      simp only [hw5]
      have HA5 := hid (show RdS w5 g s q1 false ∧ wr.grownBy w5 (some g) by rw [← hw5]; exact ⟨HA4.out.1.drew, gr_drew HA4.out.2⟩)
      clear hw5 c0 c1 c2 f1 f2 hgl
      obtain ⟨⟨c0, c1, c2⟩, ⟨f1, f2⟩, hgl⟩ := HA5.out.1.cells
      go_wp2_with fail
      go_ret
      exact ⟨.error q1, by have h := HYY.out; rw [HQ1.out] at h; exact h, _, [], rfl, .nil _ _, HA5.out.1.fail, gr_set (gr_tr HG.out HA5.out.2) _, (fun M q e => by injection e), by simp only [endR, List.length_nil]; have := HLE.out; have := HQ1.out; omega, by simp only [endR]; have := HQL.out; have := HQ1.out; omega⟩
    ·have hl2 : q1 < s.size := by omega
     obtain ⟨m, hm⟩ : ∃ m, (bs s)[q1]? = some m := ⟨_, bs_get hl2⟩
     have hex : s.extract q1 (q1 + 1) = ba [m] := ext_one hm
     obtain ⟨cs, hcs⟩ : ∃ cs, ba [m] = cs := ⟨_, rfl⟩
     rw [hcs] at hex
     have HMK := hid (fun (W : World) => smk_any cs W)
     rw [show cs.data.toList = [m] by rw [← hcs]; rfl] at HMK
     have HX := hid (show ba [m] = cs from hcs)
     have hge : ¬ (q1 : Int) ≥ (s.size : Int) := by omega
     have hgn : decide (s.size ≤ q1) = false := decide_eq_false (by omega)
     have hl3 : (q1 : Int) + 1 ≤ (s.size : Int) := by omega
     have hl4 : (q1 : Int) ≤ (q1 : Int) + 1 := by omega
     have hl0 : (0 : Int) ≤ (q1 : Int) := by omega
     have hwr : IntKind.i64.wrap ((q1 : Int) + 1) = (q1 : Int) + 1 := IntWalk.i64_in _ (by have := HS.out; omega)
     have HL2 := hid hl2
     cases hk : isMk [m] with
     | false =>
      rw [hk] at HMK
      have HYY := hid (HY.out _ (.qer hc (fun m' e => by rw [hq1, hm] at e; rw [← Option.some.inj e]; exact hk)))
      clear hN hA hG hle hen hyes hc hql hz hl2 hm hcs hk hq1
      go_upto_region 4 with (go_at_call 45; refine HI.out.mono ?_; rintro e w3 ⟨rfl, hb3⟩; have HB3 := hid hb3; have HA3 := hid (HAr.out.below hb3); clear hb3 c0 c1 c2 hgl; obtain ⟨⟨c0, c1, c2⟩, ⟨f1, f2⟩, hgl⟩ := HA3.out.cells)
      obtain ⟨w4, hw4⟩ : ∃ w4, w3.setCell ⟨g, 1, none⟩ (.int .i64 (q1 : Int)) = w4 := ⟨_, rfl⟩
      simp only [hw4]
      have HA4 := hid (show RdS w4 g s q1 false ∧ wr.grownBy w4 (some g) by rw [← hw4]; exact ⟨HA3.out.go q1, gr_set (grown_below HB3.out) _⟩)
      clear hw4 c0 c1 c2 f1 f2 hgl
      obtain ⟨⟨c0, c1, c2⟩, ⟨f1, f2⟩, hgl⟩ := HA4.out.1.cells
      go_region_held3 (fun w' => (∀ b o, b < w4.heap.size → w'.cell? ⟨b, o, none⟩ = w4.cell? ⟨b, o, none⟩) ∧ Keep (fun _ => True) w4 w')
       (first | exact ks_mk (by repeat (first | exact (Keep.refl _ _).drew | exact Keep.refl _ _ | exact Keep.of_below HBZ.out | refine Keep.drew ?_ | refine Keep.alloc ?_ _)))
       (first | (go_at_call 56; refine (HMK.out _).mono ?_; rintro e w_1 ⟨rfl, rfl⟩))
      rename_i hHd
      clear hHd
      obtain ⟨w5, hw5⟩ : ∃ w5, w4.drew = w5 := ⟨_, rfl⟩
      simp only [hw5]
      have HA5 := hid (show RdS w5 g s q1 false ∧ wr.grownBy w5 (some g) by rw [← hw5]; exact ⟨HA4.out.1.drew, gr_drew HA4.out.2⟩)
      clear hw5 c0 c1 c2 f1 f2 hgl
      obtain ⟨⟨c0, c1, c2⟩, ⟨f1, f2⟩, hgl⟩ := HA5.out.1.cells
      go_wp2_with fail
      go_ret
      exact ⟨.error q1, by have h := HYY.out; rw [HQ1.out] at h; exact h, _, [], rfl, .nil _ _, HA5.out.1.fail, gr_set (gr_tr HG.out HA5.out.2) _, (fun M q e => by injection e), by simp only [endR, List.length_nil]; have := HLE.out; have := HQ1.out; omega, by simp only [endR]; have := HQL.out; have := HQ1.out; omega⟩
     | true =>
      rw [hk] at HMK
      have HYY := hid (fun r (hr : Rds (bs s) 3 (ndM 4 m :: L) (q1 + 1) r) => HY.out r (.qok hc (by rw [hq1]; exact hm) hk (by rw [show q + 2 = q1 + 1 by omega]; exact hr)))
      clear hN hA hG hle hen hyes hc hql hz hl2 hm hcs hk hq1
      go_upto_region 4 with (go_at_call 45; refine HI.out.mono ?_; rintro e w3 ⟨rfl, hb3⟩; have HB3 := hid hb3; have HA3 := hid (HAr.out.below hb3); clear hb3 c0 c1 c2 hgl; obtain ⟨⟨c0, c1, c2⟩, ⟨f1, f2⟩, hgl⟩ := HA3.out.cells)
      obtain ⟨w4, hw4⟩ : ∃ w4, w3.setCell ⟨g, 1, none⟩ (.int .i64 (q1 : Int)) = w4 := ⟨_, rfl⟩
      simp only [hw4]
      have HA4 := hid (show RdS w4 g s q1 false ∧ wr.grownBy w4 (some g) by rw [← hw4]; exact ⟨HA3.out.go q1, gr_set (grown_below HB3.out) _⟩)
      clear hw4 c0 c1 c2 f1 f2 hgl
      obtain ⟨⟨c0, c1, c2⟩, ⟨f1, f2⟩, hgl⟩ := HA4.out.1.cells
      go_region_held3 (fun w' => (∀ b o, b < w4.heap.size → w'.cell? ⟨b, o, none⟩ = w4.cell? ⟨b, o, none⟩) ∧ Keep (fun _ => True) w4 w')
       (first | exact ks_mk (by repeat (first | exact (Keep.refl _ _).drew | exact Keep.refl _ _ | exact Keep.of_below HBZ.out | refine Keep.drew ?_ | refine Keep.alloc ?_ _)))
       (first | (go_at_call 56; refine (HMK.out _).mono ?_; rintro e w_1 ⟨rfl, rfl⟩))
      rename_i hHd
      clear hHd
      obtain ⟨w5, hw5⟩ : ∃ w5, w4.drew = w5 := ⟨_, rfl⟩
      simp only [hw5]
      have HA5 := hid (show RdS w5 g s q1 false ∧ wr.grownBy w5 (some g) by rw [← hw5]; exact ⟨HA4.out.1.drew, gr_drew HA4.out.2⟩)
      clear hw5 c0 c1 c2 f1 f2 hgl
      obtain ⟨⟨c0, c1, c2⟩, ⟨f1, f2⟩, hgl⟩ := HA5.out.1.cells
      go_wp2_with fail
      have HN5 := hid (NdN.mono (HN.out.grown HA5.out.2 hg) (Nat.zero_le B))
      go_region_held3 (fun w' => (∀ b o, b < w5.heap.size → w'.cell? ⟨b, o, none⟩ = w5.cell? ⟨b, o, none⟩) ∧ Keep (fun _ => True) w5 w')
       (first | exact ks_mk (by repeat (first | exact (Keep.refl _ _).drew | exact Keep.refl _ _ | exact Keep.of_below HBZ.out | refine Keep.drew ?_ | refine Keep.alloc ?_ _)))
       (first | (refine step_app _ (by rfl) _ _ (by rfl) w5.heap.size _ [ndM 4 m] (by rfl) (by first | exact own_new w5 (ndM 4 m) cs HX.out rfl | exact own_new w5.drew (ndM 4 m) cs HX.out rfl) (by simp) _ L (by rfl) (by first | exact NdN.below HN5.out ((Below.refl _ _).alloc (Nat.le_refl _) _).drew | exact NdN.below HN5.out ((Below.refl _ _).drew.alloc (Nat.le_refl _) _)) (by have := HLE.out; have := HEN.out; have := HS.out; simp only [List.length_cons, List.length_nil]; omega) (by simp) ?_; intro av cv wz hOz hgz; have hbz : Below w5.heap.size w5 wz := (by first | exact Below.grown ((Below.refl _ _).alloc (Nat.le_refl _) _).drew hgz (by simp) (fun k hk => by have hk' : w5.heap.size = k := Option.some.inj hk; omega) | exact Below.grown ((Below.refl _ _).drew.alloc (Nat.le_refl _) _) hgz (by simp) (fun k hk => by have hk' : w5.heap.size = k := Option.some.inj hk; omega)); have HBZ := hid hbz; have HAZ := hid (HA5.out.1.below hbz); have HOZ := hid hOz; clear hOz hgz hbz c0 c1 c2 f1 f2 hgl; obtain ⟨⟨c0, c1, c2⟩, ⟨f1, f2⟩, hgl⟩ := HAZ.out.cells))
      rename_i hHd
      clear hHd
      go_wp2_with fail
      go_roundw
      case rel =>
       refine ⟨true, ndM 4 m :: L, q1 + 1, ⟨av, cv, by simp [Nat.add_comm]⟩, hid ⟨?_, HAZ.out.go (q1 + 1), gr_set (gr_tr (gr_tr HG.out HA5.out.2) (grown_below HBZ.out)) _, by have := HLE.out; have := HQ1.out; simp only [List.length_cons]; omega, HL2.out, fun _ => HYY.out, fun h => by simp at h⟩⟩
       have hN := OwnN.ndn HOZ.out (by simp)
       have hB' : B ≤ w5.heap.size := Nat.le_trans HBr.out HA5.out.2.size
       have hN' := NdN.grown (PeF.NdN.mono hN hB') (gr_set (i := 1) (gr_refl wz (some g)) (.int .i64 ((q1 + 1 : Nat) : Int))) hg
       exact hN'
      case measure =>
       have h2 := HMS.out
       have h3 := meq_go (HAZ.out.go (q1 + 1))
       have h4 := HL2.out
       have h5 := HQ1.out
       show meq s g (wz.setCell ⟨g, 1, none⟩ (.int .i64 ((q1 + 1 : Nat) : Int))) < meq s g wr
       rw [h2, h3]
       omega
   ·have HI := is_any wr g q s false hA hen 47
    rw [decide_eq_false hc] at HI
    have HI := hid (show Calls Tryz.prog 45 #[.pointer (some ⟨g, 0, none⟩), .int .u8 47] wr (IsS false wr) from HI)
    have HYY := hid (HY.out _ (.qno hc))
    clear hN hA hG hle hen hyes hc
    go_wp2_with (go_at_call 45; refine HI.out.mono ?_; rintro e w3 ⟨rfl, hb3⟩; have HB3 := hid hb3; clear hb3)
    go_ret
    exact ⟨_, HYY.out, _, L, rfl, HN.out.grown (grown_below HB3.out) hg, HAr.out.below HB3.out, gr_tr HG.out (grown_below HB3.out), (fun M q e => by cases e; rfl), HLE.out, HEN.out⟩
theorem prod_of (s : ByteArray) (B g d : Nat) (hs : s.size ≤ 300) (hg : g < B) (HP : CtS 44 1 s B g d) : CtS 30 2 s B g d := by
 intro w i hi hd hA hB
 have HF := hid (HP w i hi hd hA hB)
 have HPP := hid HP
 have HS := hid hs
 have HB := hid hB
 have HDD := hid hd
 clear hA HP hd hi hs
 go_enter Tryz.func30, Tryz.ntmps30
 go_wp2_with (go_at_call 44; refine HF.out.mono ?_; rintro e w2 ⟨r, hr, v, L, rfl, hN, hA2, hg2, hM, hlen, hend⟩; have HR := hid hr; have HN := hid hN; have HA2 := hid hA2; have HG2 := hid hg2; have HMM := hid hM; have HLE := hid hlen; have HEN := hid hend; obtain ⟨a, c, rfl⟩ := hN.form; clear hr hN hA2 hg2 hM hlen hend)
 go_loopw [3] (fun lv wr => ∃ b : Bool, ∃ (L : List Nd) (q : Nat), (∃ a c, lv = .slice a L.length c) ∧ Hid (TrmQ 2 4 s B g i w b L q lv wr)) (fun _ wr => meq s g wr)
 case atStart =>
  refine ⟨!isErr r, L, endR r, ⟨a, c, rfl⟩, hid ⟨HN.out, by rw [Bool.not_not]; exact HA2.out, HG2.out, HLE.out, HEN.out, fun hb r' hr' => ?_, fun hb => ?_⟩⟩
  ·cases r with
   | error p => simp [isErr] at hb
   | ok rq => obtain ⟨M, q⟩ := rq; obtain rfl := HMM.out M q rfl; exact .dok HR.out hr'
  ·cases r with
   | error p => exact .der HR.out
   | ok rq => simp [isErr] at hb
 case round =>
  obtain ⟨b, L, q, ⟨a, c, rfl⟩, hT⟩ := hrel
  cases b with
  | false =>
   have HE := hid (hT.out.2.2.2.2.2.2 rfl)
   have HAr := hid (show RdS wr g s q true from hT.out.2.1)
   obtain ⟨⟨c0, c1, c2⟩, -, hgl⟩ := HAr.out.cells
   go_wp2_with fail
   go_ret
   exact ⟨_, HE.out, _, L, rfl, hT.out.1, HAr.out, hT.out.2.2.1, (fun M q e => by injection e), hT.out.2.2.2.1, hT.out.2.2.2.2.1⟩
  | true =>
   obtain ⟨hN, hA, hG, hle, hen, hyes, -⟩ := hT.out
   have hA : RdS wr g s q false := hA
   have HN := hid hN
   have HG := hid hG
   have HLE := hid hle
   have HEN := hid hen
   have HY := hid (hyes rfl)
   have HBr := hid (Nat.le_trans HB.out hG.size)
   have HAr := hid hA
   have HMS := hid (meq_go hA)
   obtain ⟨⟨c0, c1, c2⟩, -, hgl⟩ := hA.cells
   by_cases hc : (bs s)[q]? = some 43
   ·have hql : q < s.size := by have := (List.getElem?_eq_some_iff.1 hc).1; rwa [bs_len] at this
    have HI := is_any wr g q s false hA hen 43
    rw [decide_eq_true hc] at HI
    have HI := hid (show Calls Tryz.prog 45 #[.pointer (some ⟨g, 0, none⟩), .int .u8 43] wr (IsS true wr) from HI)
    have HQL := hid hql
    obtain ⟨q1, hq1⟩ : ∃ q1, q + 1 = q1 := ⟨_, rfl⟩
    have HQ1 := hid hq1
    have hwq : IntKind.i64.wrap ((q : Int) + 1) = (q1 : Int) := by rw [IntWalk.i64_in _ (by have := HS.out; omega)]; omega
    have HI1 := hid (show s.size ≤ q + d by have := HDD.out; omega)
    have HTM := hid (fun (W : World) (hA : RdS W g s q1 false) (hBW : B ≤ W.heap.size) => HPP.out W q1 (by omega) (by have := HI1.out; omega) hA hBW)
    have HOK := hid (fun r (hr : Rds (bs s) 1 [] q1 r) M q' (e : r = .ok (M, q')) r' (h : Rds (bs s) 4 (ndP :: (L ++ M)) q' r') => HY.out r' (.sok hc (by rw [← e, hq1]; exact hr) h))
    have HER := hid (fun r (hr : Rds (bs s) 1 [] q1 r) p (e : r = .error p) => HY.out _ (.ser hc (by rw [← e, hq1]; exact hr)))
    clear hN hA hG hle hen hyes hc hql hq1
    go_upto_region 4 with (go_at_call 45; refine HI.out.mono ?_; rintro e w3 ⟨rfl, hb3⟩; have HB3 := hid hb3; have HA3 := hid (HAr.out.below hb3); clear hb3 c0 c1 c2 hgl; obtain ⟨⟨c0, c1, c2⟩, ⟨f1, f2⟩, hgl⟩ := HA3.out.cells)
    obtain ⟨w4, hw4⟩ : ∃ w4, w3.setCell ⟨g, 1, none⟩ (.int .i64 (q1 : Int)) = w4 := ⟨_, rfl⟩
    simp only [hw4]
    have HA4 := hid (show RdS w4 g s q1 false ∧ wr.grownBy w4 (some g) by rw [← hw4]; exact ⟨HA3.out.go q1, gr_set (grown_below HB3.out) _⟩)
    clear hw4 c0 c1 c2 f1 f2 hgl
    obtain ⟨⟨c0, c1, c2⟩, ⟨f1, f2⟩, hgl⟩ := HA4.out.1.cells
    have HTQ := hid (HTM.out w4 HA4.out.1 (Nat.le_trans HBr.out HA4.out.2.size))
    go_upto_region 5 with (go_at_call 44; refine HTQ.out.mono ?_; rintro e w5 ⟨r5, hr5, v5, R, rfl, hN5, hA5, hg5, hM5, hlen5, hend5⟩; have HR5 := hid hr5; have HN5 := hid hN5; have HA5 := hid hA5; have HG5 := hid (gr_tr HA4.out.2 hg5); have HM5 := hid hM5; have HLE5 := hid hlen5; have HEN5 := hid hend5; obtain ⟨a5, cv5, rfl⟩ := hN5.form; clear hr5 hN5 hA5 hg5 hM5 hlen5 hend5 c0 c1 c2 f1 f2 hgl)
    obtain ⟨g9, hg9⟩ : ∃ g9, w5.heap.size = g9 := ⟨_, rfl⟩
    obtain ⟨w9, hw9⟩ : ∃ w9, w5.alloc (.cells #[.int .i64 3, .string ⟨#[]⟩, .string ⟨#[]⟩] 63) = w9 := ⟨_, rfl⟩
    have HO9 := hid (show OwnN g9 w9 (.slice (some ⟨g9, 0, none⟩) 1 1) [ndP] by
     rw [← hw9, ← hg9]
     exact OwnN.one (x := ndP) (World.alloc_heap_new _ _))
    have HB9 := hid (show Below w5.heap.size w5 w9 by rw [← hw9]; exact (Below.refl _ _).alloc (Nat.le_refl _) _)
    have HG9 := hid hg9
    have HN9 := hid (NdN.mono (NdN.below (HN.out.grown HG5.out hg) HB9.out) (Nat.zero_le B))
    go_wp2_with (first | (at_builtin; (try simp only [hw9, hg9]); refine wpList_app _ rfl _ _ rfl g9 _ [ndP] rfl HO9.out (by simp) _ L rfl HN9.out (by have := HLE.out; have := HEN.out; have := HS.out; simp only [List.length_cons, List.length_nil]; omega) (by have := HB9.out.size; have := HG9.out; omega) ?_; intro av cv9 wy hOy hgy; have HOY := hid hOy; have hby : Below w5.heap.size w5 wy := HB9.out.grown hgy HB9.out.size (fun k hk => by have := HG9.out; have hk' : g9 = k := Option.some.inj hk; omega); have HBY := hid hby; have HNY := hid (NdN.mono (NdN.below HN5.out hby) (Nat.zero_le B)); clear hOy hgy hby) | (at_builtin; refine wpList_app _ rfl _ _ rfl g9 _ ([ndP] ++ L) rfl HOY.out (by simp) _ R rfl HNY.out (by have := HLE.out; have := HEN.out; have := HS.out; have := HLE5.out; have := HEN5.out; simp only [List.length_cons, List.length_append, List.length_nil]; omega) (by have := HBY.out.size; have := HG9.out; omega) ?_; intro av2 cv2 wz hOz hgz; have HOZ := hid hOz; have hbz : Below w5.heap.size w5 wz := HBY.out.grown hgz HBY.out.size (fun k hk => by obtain ⟨_, _, hf, hge, _⟩ := World.ownsRow.form HOY.out (by simp); have := HG9.out; rw [Value.slice.injEq] at hf; rw [hf.1] at hk; have hk' := Option.some.inj hk; simp only at hk'; omega); have HBZ := hid hbz; have HAZ := hid (HA5.out.below hbz); clear hOz hgz hbz))
    go_roundw
    case rel =>
     have hlp : ([ndP] ++ L).length + R.length = (ndP :: (L ++ R)).length := by simp; omega
     have hlq : L.length + 1 + R.length = (ndP :: (L ++ R)).length := by simp; omega
     have hO := HOZ.out
     rw [hlp, show [ndP] ++ L ++ R = ndP :: (L ++ R) by simp] at hO
     have hN' := PeF.NdN.mono (B' := B) (OwnN.ndn hO (by simp)) (by have := HG9.out; have := HBr.out; have := HG5.out.size; omega)
     rw [hlq]
     refine ⟨!isErr r5, ndP :: (L ++ R), endR r5, ⟨av2, cv2, rfl⟩, hid ⟨hN', by rw [Bool.not_not]; exact HAZ.out, gr_tr (gr_tr HG.out HG5.out) (grown_below HBZ.out), by have := HLE.out; have := HLE5.out; have := HQ1.out; simp only [List.length_cons, List.length_append]; omega, HEN5.out, fun hb => ?_, fun hb => ?_⟩⟩
     ·cases r5 with
      | error p => simp [isErr] at hb
      | ok rq => obtain ⟨M, q'⟩ := rq; obtain rfl := HM5.out M q' rfl; exact HOK.out _ HR5.out _ _ rfl
     ·cases r5 with
      | error p => exact HER.out _ HR5.out _ rfl
      | ok rq => simp [isErr] at hb
    case measure =>
     have h1 := HAZ.out
     have h2 := HMS.out
     have h3 := HQL.out
     have h4 := HR5.out.fwd
     have h5 := HEN5.out
     have h6 := HQ1.out
     cases r5 with
     | error p => rw [h2, meq_bad h1]; omega
     | ok rq =>
      obtain ⟨M, q'⟩ := rq
      rw [h2, meq_go h1]
      simp only [endR] at h4 h5 ⊢
      omega
   ·have HI := is_any wr g q s false hA hen 43
    rw [decide_eq_false hc] at HI
    have HI := hid (show Calls Tryz.prog 45 #[.pointer (some ⟨g, 0, none⟩), .int .u8 43] wr (IsS false wr) from HI)
    have HYY := hid (HY.out _ (.sno hc))
    clear hN hA hG hle hen hyes hc
    go_wp2_with (go_at_call 45; refine HI.out.mono ?_; rintro e w3 ⟨rfl, hb3⟩; have HB3 := hid hb3; clear hb3)
    go_ret
    exact ⟨_, HYY.out, _, L, rfl, HN.out.grown (grown_below HB3.out) hg, HAr.out.below HB3.out, gr_tr HG.out (grown_below HB3.out), (fun M q e => by cases e; rfl), HLE.out, HEN.out⟩
theorem prod_all (s : ByteArray) (B g : Nat) (hs : s.size ≤ 300) (hg : g < B) : ∀ d, CtS 30 2 s B g d
 | 0 => prod_of s B g 0 hs hg (term_of s B g 0 hs hg (fun w i hi hd hA hB => by
   obtain rfl : i = s.size := by omega
   exact PeP.fac_end w B g s hA))
 | d + 1 => prod_of s B g (d + 1) hs hg (term_of s B g (d + 1) hs hg (fac_of s B g d hs hg (prod_all s B g hs hg d)))
theorem spx_any (s : ByteArray) (w : World) : Calls Tryz.prog 9 #[.string s] w (PeN.PxR (bs s) w) := by
 by_cases hs : 300 < s.size
 ·have HO := hid (show PeN.Out (bs s) [] 0 3 from .long (by rw [bs_len]; exact hs))
  have hd : (s.size : Int) > 300 := by omega
  clear hs
  go_enter Tryz.func9, Tryz.ntmps9
  go_wp2_with fail
  refine bodyPost_ret (v := .tuple #[.slice none 0 0, .int .i64 0, .int .i64 3]) (by simp [results, Tryz.results9, go_sem]) rfl ?_
  exact ⟨_, [], _, _, rfl, HO.out, .nil _ _, Below.refl _ _⟩
 ·have hn : ¬ 300 < (bs s).length := by rw [bs_len]; exact hs
  have hd : ¬ (s.size : Int) > 300 := by omega
  obtain ⟨g, hg⟩ : ∃ g, w.heap.size = g := ⟨_, rfl⟩
  obtain ⟨w1, hw1⟩ : ∃ w1, w.alloc (.cells #[.string s, .int .i64 0, .bool false] 57) = w1 := ⟨_, rfl⟩
  have hb1 : Below w.heap.size w w1 := by rw [← hw1]; exact (Below.refl _ _).alloc (Nat.le_refl _) _
  have hA1 : RdS w1 g s 0 false := by rw [← hw1, ← hg]; exact World.alloc_heap_new w _
  have hgl : g + 1 ≤ w1.heap.size := hA1.lt
  have HP := hid (prod_all s (g + 1) g (by omega) (by omega) s.size w1 0 (by omega) (by omega) hA1 hgl)
  have HB1 := hid hb1
  have HN := hid hn
  have HG := hid hg
  clear hs hn hb1 hA1 hgl hg
  go_enter Tryz.func9, Tryz.ntmps9
  go_upto_region 4 with fail
  simp only [hw1, HG.out]
  clear hw1
  go_upto_region 5 with (go_at_call 30; refine HP.out.mono ?_; rintro e w2 ⟨r, hr, v, L, rfl, hN2, hA2, hg2, hM, hlen, hend⟩; have HR := hid hr; have HN2 := hid hN2; have HA2 := hid hA2; have HG2 := hid hg2; have HMM := hid hM; have HLE := hid hlen; have HEN := hid hend; obtain ⟨a, c, rfl⟩ := hN2.form; clear hr hN2 hA2 hg2 hM hlen hend)
  have HB2 := hid (show Below w.heap.size w w2 from HB1.out.grown HG2.out HB1.out.size (fun k hk => by have := HG.out; injection hk; omega))
  have HMO := hid (fun L' v' (h : NdN (g + 1) w2 v' L') => show NdN w.heap.size w2 v' L' from PeF.NdN.mono h (by have := HG.out; omega))
  obtain ⟨⟨c0, c1, c2⟩, -, hgl⟩ := HA2.out.cells
  cases r with
  | error p =>
   have hq : isErr (.error p : Rd) = true := rfl
   have he : endR (.error p : Rd) = p := rfl
   simp only [he] at c1
   simp only [hq] at c2
   have HO := hid (show PeN.Out (bs s) [] (p : Int) 6 from .err HN.out HR.out)
   go_wp2_with fail
   go_region
   go_wp2_with fail
   refine bodyPost_ret (v := .tuple #[.slice none 0 0, .int .i64 (p : Int), .int .i64 6]) (by simp [results, Tryz.results9, go_sem]) rfl ?_
   exact ⟨_, [], _, _, rfl, HO.out, .nil _ _, HB2.out.drew⟩
  | ok rq =>
   obtain ⟨M, q⟩ := rq
   obtain rfl := HMM.out M q rfl
   have hq : isErr (.ok (L, q) : Rd) = false := rfl
   have he : endR (.ok (L, q) : Rd) = q := rfl
   simp only [he] at c1
   simp only [hq] at c2
   by_cases hql : q < s.size
   ·have HO := hid (show PeN.Out (bs s) [] (q : Int) 6 from .rest (L := L) HN.out HR.out (by rw [bs_len]; exact hql))
    have hd1 : decide ((q : Int) < (s.size : Int)) = true := decide_eq_true (by omega)
    go_wp2_with fail
    go_region
    go_wp2_with fail
    refine bodyPost_ret (v := .tuple #[.slice none 0 0, .int .i64 (q : Int), .int .i64 6]) (by simp [results, Tryz.results9, go_sem]) rfl ?_
    exact ⟨_, [], _, _, rfl, HO.out, .nil _ _, HB2.out.drew⟩
   ·have hd1 : decide ((q : Int) < (s.size : Int)) = false := decide_eq_false (by omega)
    by_cases hL : 30 < L.length
    ·have HO := hid (show PeN.Out (bs s) [] 0 3 from .many (L := L) (q := q) HN.out HR.out (by rw [bs_len]; exact hql) hL)
     have hd2 : decide ((L.length : Int) > 30) = true := decide_eq_true (by omega)
     go_wp2_with fail
     refine bodyPost_ret (v := .tuple #[.slice none 0 0, .int .i64 0, .int .i64 3]) (by simp [results, Tryz.results9, go_sem]) rfl ?_
     exact ⟨_, [], _, _, rfl, HO.out, .nil _ _, HB2.out⟩
    ·have HO := hid (show PeN.Out (bs s) L 0 0 from .good (q := q) HN.out HR.out (by rw [bs_len]; exact hql) hL)
     have hd2 : decide ((L.length : Int) > 30) = false := decide_eq_false (by omega)
     go_wp2_with fail
     refine bodyPost_ret (v := .tuple #[.slice a L.length c, .int .i64 0, .int .i64 0]) (by simp [results, Tryz.results9, go_sem]) rfl ?_
     exact ⟨_, L, _, _, rfl, HO.out, HMO.out _ _ HN2.out, HB2.out⟩
end Go.Proofs.YtbamkklhkhglnaaGreatDoor.PeS
namespace Go.Proofs.YtbamkklhkhglnaaGreatDoor.PpA
open Go.RowKit Go.Lib Go.Proofs.YtbamkklhkhglnaaGreatDoor LbC LbN PeA PeB

inductive Shp : List Nd → List UInt8 → List Nd → Prop
 | lf {x : Nd} {r : List Nd} (h : x.k = 0 ∨ x.k = 1 ∨ x.k = 2) : Shp (x :: r) (leaf x) r
 | pr {x y : Nd} {r m e : List Nd} {a b : List UInt8} (h : x.k = 3) (h1 : Shp r a (y :: m)) (h2 : Shp (y :: m) b e) : Shp (x :: r) (a ++ 43 :: grp y b) e
 | qt {x y : Nd} {r e : List Nd} {a : List UInt8} (hk : x.k = 4) (h1 : Shp (y :: r) a e) : Shp (x :: y :: r) (grp y a ++ 47 :: mk x) e
 | pt {x : Nd} {r e : List Nd} {a : List UInt8} (hk : x.k = 5) (h1 : Shp r a e) : Shp (x :: r) (mk x ++ 40 :: (a ++ [41])) e
theorem Shp.of {L e : List Nd} {T : List UInt8} (h : Prn L T e) : Shp L T e := by
 induction h with
 | lf h => exact .lf (lf_k h)
 | pr h h1 h2 ih1 ih2 => exact .pr h.1 ih1 ih2
 | qt h hk h1 ih => exact .qt hk ih
 | pt h hk h1 ih => exact .pt hk ih
theorem Shp.app {L e : List Nd} {T : List UInt8} (h : Shp L T e) (s : List Nd) : Shp (L ++ s) T (e ++ s) := by
 induction h with
 | lf h => exact .lf h
 | pr h h1 h2 ih1 ih2 => exact .pr h ih1 ih2
 | qt hk h1 ih => exact .qt hk ih
 | pt hk h1 ih => exact .pt hk ih
theorem Shp.ne {L e : List Nd} {T : List UInt8} (h : Shp L T e) : ∃ x r, L = x :: r := by cases h <;> exact ⟨_, _, rfl⟩
theorem Shp.pair {x : Nd} {L M : List Nd} {a b : List UInt8} (hx : x.k = 3) (h1 : Shp L a []) (h2 : Shp M b []) : ∃ T, Shp (x :: (L ++ M)) T [] := by
 obtain ⟨y, m, rfl⟩ := h2.ne
 exact ⟨_, .pr hx (h1.app _) h2⟩
theorem Shp.quo {x : Nd} {L : List Nd} {a : List UInt8} (hx : x.k = 4) (h1 : Shp L a []) : ∃ T, Shp (x :: L) T [] := by
 obtain ⟨y, m, rfl⟩ := h1.ne
 exact ⟨_, .qt hx h1⟩
def cost (x : Nd) : Nat := x.t.size + x.m.size + 3
def costs (L : List Nd) : Nat := (L.map cost).sum
theorem costs_cons (x : Nd) (L : List Nd) : costs (x :: L) = cost x + costs L := by simp [costs]
theorem costs_app (L M : List Nd) : costs (L ++ M) = costs L + costs M := by simp [costs]
theorem tx_len (x : Nd) : (tx x).length = x.t.size := by simp
theorem mk_len (x : Nd) : (mk x).length = x.m.size := by simp
theorem leaf_len (x : Nd) : (leaf x).length ≤ x.t.size + 2 := by
 unfold leaf
 split
 ·simp only [List.length_cons, List.length_append, List.length_nil, tx_len]; omega
 ·split
  ·simp only [List.length_cons, List.length_append, List.length_nil, tx_len]; omega
  ·rw [tx_len]; omega
theorem Shp.cost {L e : List Nd} {T : List UInt8} (h : Shp L T e) : T.length + costs e ≤ costs L := by
 induction h with
 | @lf x r h => rw [costs_cons]; have := leaf_len x; unfold PpA.cost; omega
 | @pr x y r m e a b h h1 h2 ih1 ih2 =>
  have := grp_len y b
  rw [costs_cons]
  simp only [List.length_append, List.length_cons]
  unfold PpA.cost
  omega
 | @qt x y r e a hk h1 ih =>
  have := grp_len y a
  rw [costs_cons]
  simp only [List.length_append, List.length_cons, mk_len]
  unfold PpA.cost
  omega
 | @pt x r e a hk h1 ih =>
  rw [costs_cons]
  simp only [List.length_append, List.length_cons, List.length_nil, mk_len]
  unfold PpA.cost
  omega
theorem Shp.suf {L e : List Nd} {T : List UInt8} (h : Shp L T e) : ∃ n, e = L.drop n ∧ 0 < n ∧ n ≤ L.length := by
 induction h with
 | lf h => exact ⟨1, rfl, by omega, by simp⟩
 | @pr x y r m e a b h h1 h2 ih1 ih2 =>
  obtain ⟨n, e1, p1, l1⟩ := ih1
  obtain ⟨k, e2, p2, l2⟩ := ih2
  have hl : (y :: m).length = r.length - n := by rw [e1, List.length_drop]
  exact ⟨1 + n + k, by rw [e2, e1, List.drop_drop, show 1 + n + k = (n + k) + 1 by omega, List.drop_succ_cons], by omega, by rw [List.length_cons]; omega⟩
 | qt hk h1 ih =>
  obtain ⟨n, e1, p1, l1⟩ := ih
  exact ⟨n + 1, by rw [e1, List.drop_succ_cons], by omega, by rw [List.length_cons]; omega⟩
 | pt hk h1 ih =>
  obtain ⟨n, e1, p1, l1⟩ := ih
  exact ⟨n + 1, by rw [e1, List.drop_succ_cons], by omega, by rw [List.length_cons]; omega⟩
theorem Shp.pos {L e : List Nd} {T : List UInt8} (h : Shp L T e) : e.length < L.length := by
 obtain ⟨n, e1, p1, l1⟩ := h.suf
 rw [e1, List.length_drop]
 omega
end Go.Proofs.YtbamkklhkhglnaaGreatDoor.PpA
namespace Go.Proofs.YtbamkklhkhglnaaGreatDoor.PeT
open Go.RowKit Go.Lib Go.Proofs.YtbamkklhkhglnaaGreatDoor Tow CyA CyB LbC LbD LbN PeA PeB PpA

theorem app_data (a b : ByteArray) : (a ++ b).data.toList = a.data.toList ++ b.data.toList := by simp [ByteArray.data_append]
theorem ba_size (l : List UInt8) : (ba l).size = l.length := rfl
def PrS (T : List UInt8) (j : Nat) (w : World) (e : Ending) (w' : World) : Prop := e = .returned (.tuple #[.string (ba T), .int .i64 (j : Int)]) ∧ Below w.heap.size w w'
theorem nd_cells {L : List Nd} {v : Value} {w : World} (h : NdS w v L) {k : Nat} {x : Nd} (hx : L[k]? = some x) : ∃ b o c, v = .slice (some ⟨b, o, none⟩) L.length c ∧ b < w.heap.size ∧ ∀ W, Below w.heap.size w W → b < W.heap.size ∧ W.cell? ⟨b, o + k * 3, none⟩ = some (.int .i64 x.k) ∧ W.cell? ⟨b, o + k * 3 + 1, none⟩ = some (.string x.t) ∧ W.cell? ⟨b, o + k * 3 + 2, none⟩ = some (.string x.m) := by
 obtain ⟨b, o, c, h1, h2, h3, h4, h5⟩ := h.at_ k x hx
 exact ⟨b, o, c, h1, h2, fun W hb => ⟨Nat.lt_of_lt_of_le h2 hb.size, (hb.cell (p := ⟨b, _, none⟩) h2).trans h3, (hb.cell (p := ⟨b, _, none⟩) h2).trans h4, (hb.cell (p := ⟨b, _, none⟩) h2).trans h5⟩⟩
theorem nd_at' {L : List Nd} {b o n c : Nat} {w : World} (h : NdS w (.slice (some ⟨b, o, none⟩) n c) L) (hn : L.length = n) {k : Nat} {x : Nd} (hx : L[k]? = some x) (W : World) (hb : Below w.heap.size w W) : W.cell? ⟨b, o + k * 3, none⟩ = some (.int .i64 x.k) := by
 obtain ⟨b', o', c', e, _, h2⟩ := nd_cells h hx
 obtain ⟨⟨rfl, rfl⟩, _⟩ : (b = b' ∧ o = o') ∧ _ := by simpa using e
 exact (h2 W hb).2.1
theorem drop_cons {L r : List Nd} {x : Nd} {k : Nat} (h : x :: r = L.drop k) : L[k]? = some x ∧ k < L.length ∧ r = L.drop (k + 1) := by
 have hk : k < L.length := by
  rcases Nat.lt_or_ge k L.length with h1 | h1
  ·exact h1
  ·rw [List.drop_eq_nil_of_le h1] at h; cases h
 rw [List.drop_eq_getElem_cons hk] at h
 injection h with h1 h2
 exact ⟨by rw [List.getElem?_eq_getElem hk, h1], hk, h2⟩
theorem spr_lf (L : List Nd) (v : Value) (w : World) (h : NdS w v L) (hn : L.length ≤ 100000000) (k : Nat) (x : Nd) (hx : L[k]? = some x) (hz : x.t.size ≤ 1000000000000) (hk : x.k = 0 ∨ x.k = 1 ∨ x.k = 2) :
  Calls Tryz.prog 25 #[v, .int .i64 (k : Int)] w (PrS (leaf x) (k + 1) w) := by
 obtain ⟨b, o, c, rfl, hbl, hC⟩ := nd_cells h hx
 obtain ⟨hbl, q0, q1, q2⟩ := hC w (Below.refl _ _)
 have hkl : k < L.length := (List.getElem?_eq_some_iff.1 hx).1
 generalize L.length = n at *
 have hki : (k : Int) < (n : Int) := by omega
 have hk0 : (0 : Int) ≤ (k : Int) := by omega
 have hwk : IntKind.i64.wrap ((k : Int) + 1) = (k : Int) + 1 := IntWalk.i64_in _ (by omega)
 have HW := hid (show Below w.heap.size w (w.alloc (.cells #[.int .i64 x.k, .string x.t, .string x.m] 63)) from (Below.refl _ _).alloc (Nat.le_refl _) _)
 have s1 : (9223372036854775807 < 1 + x.t.size) = False := eq_false (by omega)
 have s2 : (9223372036854775807 < 1 + x.t.size + 1) = False := eq_false (by omega)
 have s3 : (9223372036854775807 < x.t.size + 1) = False := eq_false (by omega)
 have s4 : (9223372036854775807 < x.t.size + 1 + 1) = False := eq_false (by omega)
 rcases hk with e | e | e
 ·have HL := hid (show leaf x = 123 :: (tx x ++ [125]) by unfold leaf; rw [if_pos e])
  rw [e] at q0 HW
  clear hx h hC e
  go_enter Tryz.func25, Tryz.ntmps25
  go_wp2_with fail
  refine bodyPost_ret (v := .tuple #[.string (ba (leaf x)), .int .i64 ((k : Int) + 1)]) (by simp [results, Tryz.results25, go_sem]; rw [HL.out]; exact (eq_ba (by simp [app_data, ba_data])).symm) rfl ?_
  exact ⟨by push_cast; rfl, HW.out⟩
 ·have HL := hid (show leaf x = 91 :: (tx x ++ [93]) by unfold leaf; rw [if_neg (by omega), if_pos e])
  rw [e] at q0 HW
  clear hx h hC e
  go_enter Tryz.func25, Tryz.ntmps25
  go_wp2_with fail
  refine bodyPost_ret (v := .tuple #[.string (ba (leaf x)), .int .i64 ((k : Int) + 1)]) (by simp [results, Tryz.results25, go_sem]; rw [HL.out]; exact (eq_ba (by simp [app_data, ba_data])).symm) rfl ?_
  exact ⟨by push_cast; rfl, HW.out⟩
 ·have HL := hid (show leaf x = tx x by unfold leaf; rw [if_neg (by omega), if_neg (by omega)])
  rw [e] at q0 HW
  clear hx h hC e
  go_enter Tryz.func25, Tryz.ntmps25
  go_wp2_with fail
  refine bodyPost_ret (v := .tuple #[.string (ba (leaf x)), .int .i64 ((k : Int) + 1)]) (by simp [results, Tryz.results25, go_sem]; rw [HL.out]; exact (eq_ba (by simp [app_data, ba_data])).symm) rfl ?_
  exact ⟨by push_cast; rfl, HW.out⟩
theorem spr_pr (L : List Nd) (v : Value) (w : World) (h : NdS w v L) (hn : L.length ≤ 100000000) (k : Nat) (x : Nd) (hx : L[k]? = some x) (hk : x.k = 3) (y : Nd) (m : Nat) (hy : L[m]? = some y) (j : Nat) (a b2 : List UInt8) (hz : a.length + b2.length ≤ 1000000000000) (H1 : ∀ W, Below w.heap.size w W → Calls Tryz.prog 25 #[v, .int .i64 ((k + 1 : Nat) : Int)] W (PrS a m W)) (H2 : ∀ W, Below w.heap.size w W → Calls Tryz.prog 25 #[v, .int .i64 (m : Int)] W (PrS b2 j W)) :
  Calls Tryz.prog 25 #[v, .int .i64 (k : Int)] w (PrS (a ++ 43 :: grp y b2) j w) := by
 obtain ⟨b, o, c, rfl, hbl, hC⟩ := nd_cells h hx
 have hkl : k < L.length := (List.getElem?_eq_some_iff.1 hx).1
 obtain ⟨n, hnL⟩ : ∃ n, L.length = n := ⟨_, rfl⟩
 rw [hnL] at hn hkl h ⊢
 have hki : (k : Int) < (n : Int) := by omega
 have hk0 : (0 : Int) ≤ (k : Int) := by omega
 obtain ⟨hbl, q0, q1, q2⟩ := hC w (Below.refl _ _)
 obtain ⟨g0, hg0⟩ : ∃ g0, w.heap.size = g0 := ⟨_, rfl⟩
 obtain ⟨w1, hw1⟩ : ∃ w1, w.alloc (.cells #[.int .i64 x.k, .string x.t, .string x.m] 63) = w1 := ⟨_, rfl⟩
 have HB1 := hid (show Below w.heap.size w w1 by rw [← hw1]; exact (Below.refl _ _).alloc (Nat.le_refl _) _)
 have HX := hid (fun (W : World) (hb : Below w1.heap.size w1 W) => show g0 < W.heap.size ∧ W.cell? ⟨g0, 0, none⟩ = some (.int .i64 x.k) ∧ W.cell? ⟨g0, 1, none⟩ = some (.string x.t) ∧ W.cell? ⟨g0, 2, none⟩ = some (.string x.m) from by
  have hrow : w1.heap[g0]? = some (.cells #[.int .i64 x.k, .string x.t, .string x.m] 63 (0, 0)) := by rw [← hw1, ← hg0]; exact World.alloc_heap_new w _
  have hgl := (Array.getElem?_eq_some_iff.1 hrow).1
  exact ⟨Nat.lt_of_lt_of_le hgl hb.size, row3' (blk' hb hgl hrow)⟩)
 rw [hnL] at H1 H2
 have HY := hid (fun W (hb : Below w.heap.size w W) => (nd_at' h hnL hy W hb))
 have HM := hid (show m < n by rw [← hnL]; exact (List.getElem?_eq_some_iff.1 hy).1)
 obtain ⟨sa, hsa⟩ : ∃ sa, ba a = sa := ⟨_, rfl⟩
 obtain ⟨sb, hsb⟩ : ∃ sb, ba b2 = sb := ⟨_, rfl⟩
 have hza : sa.size + sb.size ≤ 1000000000000 := by rw [← hsa, ← hsb]; exact hz
 have H1 := hid (fun (W : World) (hb : Below w.heap.size w W) => show Calls Tryz.prog 25 #[.slice (some ⟨b, o, none⟩) n c, .int .i64 ((k : Int) + 1)] W (fun e w' => e = .returned (.tuple #[.string sa, .int .i64 (m : Int)]) ∧ Below W.heap.size W w') from by have h := H1 W hb; unfold PrS at h; rw [hsa] at h; exact h)
 have H2 := hid (fun (W : World) (hb : Below w.heap.size w W) => show Calls Tryz.prog 25 #[.slice (some ⟨b, o, none⟩) n c, .int .i64 (m : Int)] W (fun e w' => e = .returned (.tuple #[.string sb, .int .i64 (j : Int)]) ∧ Below W.heap.size W w') from by have h := H2 W hb; unfold PrS at h; rw [hsb] at h; exact h)
 have HE := hid (show sa.data.toList = a ∧ sb.data.toList = b2 from ⟨by rw [← hsa]; rfl, by rw [← hsb]; rfl⟩)
 rw [hk] at HX q0 hw1
 have s1 : (9223372036854775807 < 1 + sb.size) = False := eq_false (by omega)
 have s2 : (9223372036854775807 < 1 + sb.size + 1) = False := eq_false (by omega)
 have s3 : (9223372036854775807 < sa.size + 1) = False := eq_false (by omega)
 have s4 : (9223372036854775807 < sa.size + 1 + sb.size) = False := eq_false (by omega)
 have s5 : (9223372036854775807 < sa.size + 1 + (1 + sb.size + 1)) = False := eq_false (by omega)
 have hmi : (m : Int) < (n : Int) := by have := HM.out; omega
 have hm0 : (0 : Int) ≤ (m : Int) := by omega
 have hwk : IntKind.i64.wrap ((k : Int) + 1) = (k : Int) + 1 := IntWalk.i64_in _ (by omega)
 clear hx h hC hnL hy hsa hsb hza
 go_enter Tryz.func25, Tryz.ntmps25
 go_upto_region 2 with fail
 (try simp only [hw1, hg0])
 clear hw1 hg0 q0 q1 q2
 obtain ⟨hgl, r0, r1, r2⟩ := HX.out w1 (Below.refl _ _)
 go_upto_region 12 with (first | (go_at_call_of 25 m; refine (H2.out _ HB2.out).mono ?_; rintro e w3 ⟨rfl, hb3⟩; have HB3 := hid (HB2.out.trans (hb3.mono HB2.out.size)); clear hb3) | (go_at_call 25; refine (H1.out _ HB1.out).mono ?_; rintro e w2 ⟨rfl, hb2⟩; have HB2 := hid (HB1.out.trans (hb2.mono HB1.out.size)); clear hb2))
 have hy3 := HY.out w3 HB3.out
 by_cases e3 : y.k = 3
 ·have HG := hid (show grp y b2 = 40 :: (b2 ++ [41]) from if_pos e3)
  rw [e3] at hy3
  clear e3
  go_wp2_with fail
  refine bodyPost_ret (v := .tuple #[.string (ba (a ++ 43 :: grp y b2)), .int .i64 (j : Int)]) (by simp [results, Tryz.results25, go_sem]; rw [HG.out]; exact (eq_ba (by simp [app_data, ba_data, HE.out.1, HE.out.2])).symm) rfl ?_
  exact ⟨rfl, HB3.out⟩
 ·have HG := hid (show grp y b2 = b2 from if_neg e3)
  have e4 : (y.k == 3) = false := beq_eq_false_iff_ne.2 e3
  clear e3
  go_wp2_with fail
  refine bodyPost_ret (v := .tuple #[.string (ba (a ++ 43 :: grp y b2)), .int .i64 (j : Int)]) (by simp [results, Tryz.results25, go_sem]; rw [HG.out]; exact (eq_ba (by simp [app_data, ba_data, HE.out.1, HE.out.2])).symm) rfl ?_
  exact ⟨rfl, HB3.out⟩
theorem spr_pt (L : List Nd) (v : Value) (w : World) (h : NdS w v L) (hn : L.length ≤ 100000000) (k : Nat) (x : Nd) (hx : L[k]? = some x) (hk : x.k = 5) (j : Nat) (a : List UInt8) (hz : a.length + x.m.size ≤ 1000000000000) (H1 : ∀ W, Below w.heap.size w W → Calls Tryz.prog 25 #[v, .int .i64 ((k + 1 : Nat) : Int)] W (PrS a j W)) :
  Calls Tryz.prog 25 #[v, .int .i64 (k : Int)] w (PrS (mk x ++ 40 :: (a ++ [41])) j w) := by
 obtain ⟨b, o, c, rfl, hbl, hC⟩ := nd_cells h hx
 have hkl : k < L.length := (List.getElem?_eq_some_iff.1 hx).1
 obtain ⟨n, hnL⟩ : ∃ n, L.length = n := ⟨_, rfl⟩
 rw [hnL] at hn hkl h ⊢
 have hki : (k : Int) < (n : Int) := by omega
 have hk0 : (0 : Int) ≤ (k : Int) := by omega
 obtain ⟨hbl, q0, q1, q2⟩ := hC w (Below.refl _ _)
 obtain ⟨g0, hg0⟩ : ∃ g0, w.heap.size = g0 := ⟨_, rfl⟩
 obtain ⟨w1, hw1⟩ : ∃ w1, w.alloc (.cells #[.int .i64 x.k, .string x.t, .string x.m] 63) = w1 := ⟨_, rfl⟩
 have HB1 := hid (show Below w.heap.size w w1 by rw [← hw1]; exact (Below.refl _ _).alloc (Nat.le_refl _) _)
 have HX := hid (fun (W : World) (hb : Below w1.heap.size w1 W) => show g0 < W.heap.size ∧ W.cell? ⟨g0, 0, none⟩ = some (.int .i64 x.k) ∧ W.cell? ⟨g0, 1, none⟩ = some (.string x.t) ∧ W.cell? ⟨g0, 2, none⟩ = some (.string x.m) from by
  have hrow : w1.heap[g0]? = some (.cells #[.int .i64 x.k, .string x.t, .string x.m] 63 (0, 0)) := by rw [← hw1, ← hg0]; exact World.alloc_heap_new w _
  have hgl := (Array.getElem?_eq_some_iff.1 hrow).1
  exact ⟨Nat.lt_of_lt_of_le hgl hb.size, row3' (blk' hb hgl hrow)⟩)
 rw [hnL] at H1
 obtain ⟨sa, hsa⟩ : ∃ sa, ba a = sa := ⟨_, rfl⟩
 obtain ⟨sm, hsm⟩ : ∃ sm, x.m = sm := ⟨_, rfl⟩
 have hza : sa.size + sm.size ≤ 1000000000000 := by rw [← hsa, ← hsm]; exact hz
 have H1 := hid (fun (W : World) (hb : Below w.heap.size w W) => show Calls Tryz.prog 25 #[.slice (some ⟨b, o, none⟩) n c, .int .i64 ((k : Int) + 1)] W (fun e w' => e = .returned (.tuple #[.string sa, .int .i64 (j : Int)]) ∧ Below W.heap.size W w') from by have h := H1 W hb; unfold PrS at h; rw [hsa] at h; exact h)
 have HE := hid (show sa.data.toList = a ∧ mk x = sm.data.toList from ⟨by rw [← hsa]; rfl, by rw [← hsm]⟩)
 rw [hk] at HX q0 hw1
 rw [hsm] at HX q2 hw1
 have s1 : (9223372036854775807 < sm.size + 1) = False := eq_false (by omega)
 have s2 : (9223372036854775807 < sm.size + 1 + sa.size) = False := eq_false (by omega)
 have s3 : (9223372036854775807 < sm.size + 1 + sa.size + 1) = False := eq_false (by omega)
 have hwk : IntKind.i64.wrap ((k : Int) + 1) = (k : Int) + 1 := IntWalk.i64_in _ (by omega)
 clear hx h hC hnL  hsa hsm hza
 go_enter Tryz.func25, Tryz.ntmps25
 go_upto_region 2 with fail
 (try simp only [hw1, hg0])
 clear hw1 hg0 q0 q1 q2
 obtain ⟨hgl, r0, r1, r2⟩ := HX.out w1 (Below.refl _ _)
 go_upto_region 16 with (go_at_call 25; refine (H1.out _ HB1.out).mono ?_; rintro e w2 ⟨rfl, hb2⟩; have HB2 := hid (HB1.out.trans (hb2.mono HB1.out.size)); clear hgl r0 r1 r2; obtain ⟨hgl, r0, r1, r2⟩ := HX.out w2 hb2; clear hb2)
 go_wp2_with fail
 refine bodyPost_ret (v := .tuple #[.string (ba (mk x ++ 40 :: (a ++ [41]))), .int .i64 (j : Int)]) (by simp [results, Tryz.results25, go_sem]; rw [HE.out.2]; exact (eq_ba (by simp [app_data, ba_data, HE.out.1, HE.out.2])).symm) rfl ?_
 exact ⟨rfl, HB2.out⟩
theorem spr_qt (L : List Nd) (v : Value) (w : World) (h : NdS w v L) (hn : L.length ≤ 100000000) (k : Nat) (x : Nd) (hx : L[k]? = some x) (hk : x.k = 4) (y : Nd) (hy : L[k + 1]? = some y) (j : Nat) (a : List UInt8) (hz : a.length + x.m.size ≤ 1000000000000) (H1 : ∀ W, Below w.heap.size w W → Calls Tryz.prog 25 #[v, .int .i64 ((k + 1 : Nat) : Int)] W (PrS a j W)) :
  Calls Tryz.prog 25 #[v, .int .i64 (k : Int)] w (PrS (grp y a ++ 47 :: mk x) j w) := by
 obtain ⟨b, o, c, rfl, hbl, hC⟩ := nd_cells h hx
 have hkl : k < L.length := (List.getElem?_eq_some_iff.1 hx).1
 obtain ⟨n, hnL⟩ : ∃ n, L.length = n := ⟨_, rfl⟩
 rw [hnL] at hn hkl h ⊢
 have hki : (k : Int) < (n : Int) := by omega
 have hk0 : (0 : Int) ≤ (k : Int) := by omega
 obtain ⟨hbl, q0, q1, q2⟩ := hC w (Below.refl _ _)
 obtain ⟨g0, hg0⟩ : ∃ g0, w.heap.size = g0 := ⟨_, rfl⟩
 obtain ⟨w1, hw1⟩ : ∃ w1, w.alloc (.cells #[.int .i64 x.k, .string x.t, .string x.m] 63) = w1 := ⟨_, rfl⟩
 have HB1 := hid (show Below w.heap.size w w1 by rw [← hw1]; exact (Below.refl _ _).alloc (Nat.le_refl _) _)
 have HX := hid (fun (W : World) (hb : Below w1.heap.size w1 W) => show g0 < W.heap.size ∧ W.cell? ⟨g0, 0, none⟩ = some (.int .i64 x.k) ∧ W.cell? ⟨g0, 1, none⟩ = some (.string x.t) ∧ W.cell? ⟨g0, 2, none⟩ = some (.string x.m) from by
  have hrow : w1.heap[g0]? = some (.cells #[.int .i64 x.k, .string x.t, .string x.m] 63 (0, 0)) := by rw [← hw1, ← hg0]; exact World.alloc_heap_new w _
  have hgl := (Array.getElem?_eq_some_iff.1 hrow).1
  exact ⟨Nat.lt_of_lt_of_le hgl hb.size, row3' (blk' hb hgl hrow)⟩)
 rw [hnL] at H1
 have HY := hid (fun W (hb : Below w.heap.size w W) => (nd_at' h hnL hy W hb))
 have HM := hid (show k + 1 < n by rw [← hnL]; exact (List.getElem?_eq_some_iff.1 hy).1)
 obtain ⟨sa, hsa⟩ : ∃ sa, ba a = sa := ⟨_, rfl⟩
 obtain ⟨sm, hsm⟩ : ∃ sm, x.m = sm := ⟨_, rfl⟩
 have hza : sa.size + sm.size ≤ 1000000000000 := by rw [← hsa, ← hsm]; exact hz
 have H1 := hid (fun (W : World) (hb : Below w.heap.size w W) => show Calls Tryz.prog 25 #[.slice (some ⟨b, o, none⟩) n c, .int .i64 ((k : Int) + 1)] W (fun e w' => e = .returned (.tuple #[.string sa, .int .i64 (j : Int)]) ∧ Below W.heap.size W w') from by have h := H1 W hb; unfold PrS at h; rw [hsa] at h; exact h)
 have HE := hid (show sa.data.toList = a ∧ mk x = sm.data.toList from ⟨by rw [← hsa]; rfl, by rw [← hsm]⟩)
 rw [hk] at HX q0 hw1
 rw [hsm] at HX q2 hw1
 have s1 : (9223372036854775807 < 1 + sa.size) = False := eq_false (by omega)
 have s2 : (9223372036854775807 < 1 + sa.size + 1) = False := eq_false (by omega)
 have s3 : (9223372036854775807 < sa.size + 1) = False := eq_false (by omega)
 have s4 : (9223372036854775807 < sa.size + 1 + sm.size) = False := eq_false (by omega)
 have s5 : (9223372036854775807 < 1 + sa.size + 1 + 1) = False := eq_false (by omega)
 have s6 : (9223372036854775807 < 1 + sa.size + 1 + 1 + sm.size) = False := eq_false (by omega)
 have hwk : IntKind.i64.wrap ((k : Int) + 1) = (k : Int) + 1 := IntWalk.i64_in _ (by omega)
 have hmi : (k : Int) + 1 < (n : Int) := by have := HM.out; omega
 have hm0 : (0 : Int) ≤ (k : Int) + 1 := by omega
 clear hx h hC hnL hy hsa hsm hza
 go_enter Tryz.func25, Tryz.ntmps25
 go_upto_region 2 with fail
 (try simp only [hw1, hg0])
 clear hw1 hg0 q0 q1 q2
 obtain ⟨hgl, r0, r1, r2⟩ := HX.out w1 (Below.refl _ _)
 go_upto_region 18 with (go_at_call 25; refine (H1.out _ HB1.out).mono ?_; rintro e w2 ⟨rfl, hb2⟩; have HB2 := hid (HB1.out.trans (hb2.mono HB1.out.size)); clear hgl r0 r1 r2; obtain ⟨hgl, r0, r1, r2⟩ := HX.out w2 hb2; clear hb2)
 have hy3 := HY.out w2 HB2.out
 by_cases e3 : y.k = 3
 ·have HG := hid (show grp y a = 40 :: (a ++ [41]) from if_pos e3)
  rw [e3] at hy3
  clear e3
  go_wp2_with fail
  refine bodyPost_ret (v := .tuple #[.string (ba (grp y a ++ 47 :: mk x)), .int .i64 (j : Int)]) (by simp [results, Tryz.results25, go_sem]; rw [HG.out, HE.out.2]; exact (eq_ba (by simp [app_data, ba_data, HE.out.1, HE.out.2])).symm) rfl ?_
  exact ⟨rfl, HB2.out⟩
 ·have HG := hid (show grp y a = a from if_neg e3)
  have e4 : (y.k == 3) = false := beq_eq_false_iff_ne.2 e3
  clear e3
  go_wp2_with fail
  refine bodyPost_ret (v := .tuple #[.string (ba (grp y a ++ 47 :: mk x)), .int .i64 (j : Int)]) (by simp [results, Tryz.results25, go_sem]; rw [HG.out, HE.out.2]; exact (eq_ba (by simp [app_data, ba_data, HE.out.1, HE.out.2])).symm) rfl ?_
  exact ⟨rfl, HB2.out⟩
theorem spr_any (L : List Nd) (v : Value) (hn : L.length ≤ 100000000) (hz : costs L ≤ 100000000000) {M e : List Nd} {T : List UInt8} (hS : Shp M T e) : ∀ (w : World) (k : Nat), M = L.drop k → NdS w v L → Calls Tryz.prog 25 #[v, .int .i64 (k : Int)] w (PrS T (L.length - e.length) w) := by
 have HC : ∀ (k : Nat), costs (L.drop k) ≤ costs L := fun k => by
  have h := congrArg costs (List.take_append_drop k L)
  rw [costs_app] at h
  omega
 have LE : ∀ {M' e' : List Nd} {T' : List UInt8} {k : Nat}, Shp M' T' e' → M' = L.drop k → T'.length ≤ 100000000000 := fun {M' e' T' k} h h2 => by
  have h3 := h.cost
  rw [h2] at h3
  have h4 := HC k
  omega
 have SZ : ∀ {x : Nd} {k : Nat}, L[k]? = some x → x.t.size + x.m.size ≤ 100000000000 := fun {x k} hx => by
  have h1 := HC k
  rw [List.drop_eq_getElem_cons (List.getElem?_eq_some_iff.1 hx).1, costs_cons, (List.getElem?_eq_some_iff.1 hx).2] at h1
  unfold cost at h1
  omega
 induction hS with
 | @lf x r h =>
  intro w k e1 hN
  obtain ⟨hx, hk, hr⟩ := drop_cons e1
  have hj : L.length - r.length = k + 1 := by rw [hr, List.length_drop]; omega
  rw [hj]
  exact spr_lf L v w hN hn k x hx (by have := SZ hx; omega) h
 | @pr x y r m e a b hk h1 h2 ih1 ih2 =>
  intro w k e1 hN
  obtain ⟨hx, hkl, hr⟩ := drop_cons e1
  obtain ⟨p, e2, hp, hl⟩ := h1.suf
  have e3 : y :: m = L.drop (L.length - (y :: m).length) := by
   have hL : (y :: m).length = L.length - (k + 1 + p) := by rw [e2, hr, List.drop_drop, List.length_drop]
   have hl2 : k + 1 + p ≤ L.length := by rw [hr, List.length_drop] at hl; omega
   rw [hL, show L.length - (L.length - (k + 1 + p)) = k + 1 + p by omega, e2, hr, List.drop_drop]
  obtain ⟨hy, _, _⟩ := drop_cons e3
  exact spr_pr L v w hN hn k x hx hk y _ hy _ a b (by have := LE h1 hr; have := LE h2 e3; omega) (fun W hb => ih1 W (k + 1) hr (hN.below hb)) (fun W hb => ih2 W _ e3 (hN.below hb))
 | @qt x y r e a hk h1 ih =>
  intro w k e1 hN
  obtain ⟨hx, hkl, hr⟩ := drop_cons e1
  obtain ⟨hy, _, _⟩ := drop_cons hr
  exact spr_qt L v w hN hn k x hx hk y hy _ a (by have := LE h1 hr; have := SZ hx; omega) (fun W hb => ih W (k + 1) hr (hN.below hb))
 | @pt x r e a hk h1 ih =>
  intro w k e1 hN
  obtain ⟨hx, hkl, hr⟩ := drop_cons e1
  exact spr_pt L v w hN hn k x hx hk _ a (by have := LE h1 hr; have := SZ hx; omega) (fun W hb => ih W (k + 1) hr (hN.below hb))
end Go.Proofs.YtbamkklhkhglnaaGreatDoor.PeT
namespace Go.Proofs.YtbamkklhkhglnaaGreatDoor.PeU
open Go.Proofs.YtbamkklhkhglnaaGreatDoor.ImplB (grown_below)
open Go.RowKit Go.Lib Go.Proofs.YtbamkklhkhglnaaGreatDoor Tow CyA CyB LbC LbD LbN PeA PeB PpA PeE PeF PeQ

def Sr (g : Nat) (a : Option Addr) (len cap : Nat) (w W : World) : Prop := Src W g a len cap ∧ Rd W g a len ∧ w.grownBy W (some g)
theorem Sr.alloc {g len cap : Nat} {a : Option Addr} {w W : World} (h : Sr g a len cap w W) (o : Obj) : Sr g a len cap w (W.alloc o) := ⟨h.1.alloc o, h.2.1.alloc o, gr_tr h.2.2 (CyC.gr_alloc _ _ _)⟩
theorem Sr.drew {g len cap : Nat} {a : Option Addr} {w W : World} (h : Sr g a len cap w W) : Sr g a len cap w W.drew := ⟨h.1, h.2.1, gr_drew h.2.2⟩
theorem Sr.next {g len cap : Nat} {a : Option Addr} {w W W' : World} (h : Sr g a len cap w W) (hS : Src W' g a len cap) (hg : W.grownBy W' (some g)) : Sr g a len cap w W' := ⟨hS, h.2.1.grown hg, gr_tr h.2.2 hg⟩
theorem Sr.tr {g len cap : Nat} {a : Option Addr} {w W W' : World} (h : Sr g a len cap w W) (h' : Sr g a len cap W W') : Sr g a len cap w W' := ⟨h'.1, h'.2.1, gr_tr h.2.2 h'.2.2⟩
theorem Sr.lt {g len cap : Nat} {a : Option Addr} {w W : World} (h : Sr g a len cap w W) : g < W.heap.size := h.1.lt
def NxS (n g : Nat) (a : Option Addr) (len cap : Nat) (W : World) (e : Ending) (W' : World) : Prop := ∃ r : Nat, e = .returned (.int .i64 (r : Int)) ∧ r < n ∧ Sr g a len cap W W'
theorem nx_any (n : Nat) (h2 : 2 ≤ n) (hn : n ≤ 1000000) (g : Nat) (a : Option Addr) (len cap : Nat) (w W : World) (h : Sr g a len cap w W) :
  Calls Tryz.prog 27 #[.pointer (some ⟨g, 0, none⟩), .int .i64 (n : Int)] W (NxS n g a len cap W) := by
 refine (CyB.next_any n h2 hn W g a len cap h.1 h.2.1).mono ?_
 rintro e W' ⟨r, rfl, hr, hS, hg⟩
 exact ⟨r, rfl, hr, hS, h.2.1.grown hg, hg⟩
theorem tab_cell (l : List ByteArray) (hz : ∀ x ∈ l, x.size ≤ 40) (t : TypeId) (W W' : World) {g r : Nat} (hg : g < W.heap.size) (hb : (W.alloc (.cells (l.map Value.string).toArray t)).grownBy W' (some g)) (hr : r < l.length) : ∃ x : ByteArray, x.size ≤ 40 ∧ x ∈ l ∧ W'.cell? ⟨W.heap.size, r, none⟩ = some (.string x) := by
 refine ⟨l[r], hz _ (List.getElem_mem hr), List.getElem_mem hr, ?_⟩
 rw [(Keep.grown hb (S := fun k => k ≠ g) (fun k hk e => hk (by injection e))).cell (by omega) (by simp)]
 rw [cell_of_row _ _ _ _ _ (0, 0) (World.alloc_heap_new _ _)]
 simp [hr]
theorem own_mono {B B' : Nat} {W : World} {v : Value} {L : List Nd} (h : OwnN B W v L) (hB : B' ≤ B) : OwnN B' W v L := by
 refine ⟨h.1, ?_⟩
 rcases h.2 with h2 | ⟨g, cap, cur, h3, h4, h5⟩
 ·exact .inl h2
 ·exact .inr ⟨g, cap, cur, h3, Nat.le_trans hB h4, h5⟩
def GdR (d B g : Nat) (a : Option Addr) (len cap : Nat) (w : World) (e : Ending) (w' : World) : Prop := ∃ v L T, e = .returned v ∧ NdN B w' v L ∧ Shp L T [] ∧ L.length + 1 ≤ 2 ^ (d + 1) ∧ (∀ x ∈ L, x.t.size ≤ 40 ∧ x.m.size ≤ 40) ∧ Sr g a len cap w w' ∧ OwnN B w' v L
theorem tabA (W W' : World) (g r : Nat) (hg : g < W.heap.size) (hb : (W.alloc (.cells #[.string ⟨#[97]⟩, .string ⟨#[98]⟩, .string ⟨#[103]⟩, .string ⟨#[122]⟩] 9)).grownBy W' (some g)) (hr : r < 4) : ∃ x : ByteArray, x.size ≤ 40 ∧ W'.cell? ⟨W.heap.size, r, none⟩ = some (.string x) := by
 obtain ⟨x, h1, _, h2⟩ := tab_cell [(⟨#[97]⟩ : ByteArray), (⟨#[98]⟩ : ByteArray), (⟨#[103]⟩ : ByteArray), (⟨#[122]⟩ : ByteArray)] (by decide) 9 W W' hg hb hr
 exact ⟨x, h1, h2⟩
theorem tabB (W W' : World) (g r : Nat) (hg : g < W.heap.size) (hb : (W.alloc (.cells #[.string ⟨#[50, 32, 51, 59, 32, 98, 94, 97, 61, 98, 98]⟩, .string ⟨#[49]⟩, .string ⟨#[50, 32, 50, 59, 32, 97, 94, 50, 61, 98]⟩, .string ⟨#[51, 32, 50, 32, 50, 59, 32, 98, 94, 97, 61, 99, 59, 32, 99, 94, 97, 61, 98, 99]⟩] 9)).grownBy W' (some g)) (hr : r < 4) : ∃ x : ByteArray, x.size ≤ 40 ∧ W'.cell? ⟨W.heap.size, r, none⟩ = some (.string x) := by
 obtain ⟨x, h1, _, h2⟩ := tab_cell [(⟨#[50, 32, 51, 59, 32, 98, 94, 97, 61, 98, 98]⟩ : ByteArray), (⟨#[49]⟩ : ByteArray), (⟨#[50, 32, 50, 59, 32, 97, 94, 50, 61, 98]⟩ : ByteArray), (⟨#[51, 32, 50, 32, 50, 59, 32, 98, 94, 97, 61, 99, 59, 32, 99, 94, 97, 61, 98, 99]⟩ : ByteArray)] (by decide) 9 W W' hg hb hr
 exact ⟨x, h1, h2⟩
theorem tabC (W W' : World) (g r : Nat) (hg : g < W.heap.size) (hb : (W.alloc (.cells #[.string ⟨#[68, 56]⟩, .string ⟨#[67, 50]⟩, .string ⟨#[65, 52]⟩, .string ⟨#[83, 51]⟩, .string ⟨#[81, 56]⟩, .string ⟨#[67, 50, 120, 67, 50, 58, 67, 52]⟩, .string ⟨#[83, 76, 50, 51]⟩, .string ⟨#[49]⟩] 9)).grownBy W' (some g)) (hr : r < 8) : ∃ x : ByteArray, x.size ≤ 40 ∧ W'.cell? ⟨W.heap.size, r, none⟩ = some (.string x) := by
 obtain ⟨x, h1, _, h2⟩ := tab_cell [(⟨#[68, 56]⟩ : ByteArray), (⟨#[67, 50]⟩ : ByteArray), (⟨#[65, 52]⟩ : ByteArray), (⟨#[83, 51]⟩ : ByteArray), (⟨#[81, 56]⟩ : ByteArray), (⟨#[67, 50, 120, 67, 50, 58, 67, 52]⟩ : ByteArray), (⟨#[83, 76, 50, 51]⟩ : ByteArray), (⟨#[49]⟩ : ByteArray)] (by decide) 9 W W' hg hb hr
 exact ⟨x, h1, h2⟩
theorem tabM (W W' : World) (g r : Nat) (hg : g < W.heap.size) (hb : (W.alloc (.cells #[.string ⟨#[90]⟩, .string ⟨#[68]⟩, .string ⟨#[70]⟩] 9)).grownBy W' (some g)) (hr : r < 3) : ∃ x : ByteArray, x.size ≤ 40 ∧ W'.cell? ⟨W.heap.size, r, none⟩ = some (.string x) := by
 obtain ⟨x, h1, _, h2⟩ := tab_cell [(⟨#[90]⟩ : ByteArray), (⟨#[68]⟩ : ByteArray), (⟨#[70]⟩ : ByteArray)] (by decide) 9 W W' hg hb hr
 exact ⟨x, h1, h2⟩
theorem good_leaf (B g : Nat) (hg : g < B) (a : Option Addr) (len cap : Nat) (w : World) (hB : B ≤ w.heap.size) (h : Sr g a len cap w w) :
  Calls Tryz.prog 26 #[.pointer (some ⟨g, 0, none⟩), .int .i64 0] w (GdR 0 B g a len cap w) := by
 have H4 := hid (fun (W : World) (h : Sr g a len cap w W) => show Calls Tryz.prog 27 #[.pointer (some ⟨g, 0, none⟩), .int .i64 4] W (NxS 4 g a len cap W) from nx_any 4 (by decide) (by decide) g a len cap w W h)
 have H8 := hid (fun (W : World) (h : Sr g a len cap w W) => show Calls Tryz.prog 27 #[.pointer (some ⟨g, 0, none⟩), .int .i64 8] W (NxS 8 g a len cap W) from nx_any 8 (by decide) (by decide) g a len cap w W h)
 have HH := hid h
 have HBB := hid hB
 have HGB := hid hg
 clear h hB hg
 go_enter Tryz.func26, Tryz.ntmps26
 go_upto_region 10 with (go_at_call 27; refine (H4.out _ HH.out).mono ?_; rintro e w1 ⟨r, rfl, hr, hS1⟩; have HS1 := hid hS1; have Hr := hid hr; clear hS1 hr)
 have hr4 := Hr.out
 by_cases r0 : r = 0
 ·subst r0
  go_wp2_with (go_at_call 27; refine (H4.out _ (HS1.out.alloc _)).mono ?_; rintro e w2 ⟨r2, rfl, hr2, hS2⟩; have HS2 := hid hS2; have Hr2 := hid hr2; obtain ⟨x, hx, hcx⟩ := tabA w1 w2 g r2 HS1.out.lt hS2.2.2 hr2; have HX := hid hx; have hr2i : (r2 : Int) < 4 := (by omega); have hr20 : (0 : Int) ≤ (r2 : Int) := (by omega); clear hx; clear hS2 hr2)
  refine bodyPost_ret (v := .slice (some ⟨w2.heap.size, 0, none⟩) 1 1) (by simp [results, Tryz.results26, go_sem]) rfl ?_
  have hS := (HS1.out.alloc (.cells #[.string ⟨#[97]⟩, .string ⟨#[98]⟩, .string ⟨#[103]⟩, .string ⟨#[122]⟩] 9)).tr HS2.out
  have hN := NdN.one (B := B) w2 (Nat.le_trans HBB.out hS.2.2.size) ⟨2, x, ⟨#[]⟩⟩
  exact ⟨_, [⟨2, x, ⟨#[]⟩⟩], _, rfl, hN, .lf (by simp), by simp, (fun y hy => by have e : y = ⟨2, x, ⟨#[]⟩⟩ := (by simpa using hy); rw [e]; exact ⟨HX.out, Nat.zero_le _⟩), hS.alloc _, own_mono (OwnN.one (x := ⟨2, x, ⟨#[]⟩⟩) (World.alloc_heap_new w2 _)) (Nat.le_trans HBB.out hS.2.2.size)⟩
 ·by_cases r1 : r = 1
  ·subst r1
   go_wp2_with (go_at_call 27; refine (H4.out _ (HS1.out.alloc _)).mono ?_; rintro e w2 ⟨r2, rfl, hr2, hS2⟩; have HS2 := hid hS2; have Hr2 := hid hr2; obtain ⟨x, hx, hcx⟩ := tabB w1 w2 g r2 HS1.out.lt hS2.2.2 hr2; have HX := hid hx; have hr2i : (r2 : Int) < 4 := (by omega); have hr20 : (0 : Int) ≤ (r2 : Int) := (by omega); clear hx; clear hS2 hr2)
   refine bodyPost_ret (v := .slice (some ⟨w2.heap.size, 0, none⟩) 1 1) (by simp [results, Tryz.results26, go_sem]) rfl ?_
   have hS := (HS1.out.alloc (.cells #[.string ⟨#[50, 32, 51, 59, 32, 98, 94, 97, 61, 98, 98]⟩, .string ⟨#[49]⟩, .string ⟨#[50, 32, 50, 59, 32, 97, 94, 50, 61, 98]⟩, .string ⟨#[51, 32, 50, 32, 50, 59, 32, 98, 94, 97, 61, 99, 59, 32, 99, 94, 97, 61, 98, 99]⟩] 9)).tr HS2.out
   have hN := NdN.one (B := B) w2 (Nat.le_trans HBB.out hS.2.2.size) ⟨1, x, ⟨#[]⟩⟩
   exact ⟨_, [⟨1, x, ⟨#[]⟩⟩], _, rfl, hN, .lf (by simp), by simp, (fun y hy => by have e : y = ⟨1, x, ⟨#[]⟩⟩ := (by simpa using hy); rw [e]; exact ⟨HX.out, Nat.zero_le _⟩), hS.alloc _, own_mono (OwnN.one (x := ⟨1, x, ⟨#[]⟩⟩) (World.alloc_heap_new w2 _)) (Nat.le_trans HBB.out hS.2.2.size)⟩
  ·have e0 : ((r : Int) == 0) = false := beq_eq_false_iff_ne.2 (by omega)
   have e1 : ((r : Int) == 1) = false := beq_eq_false_iff_ne.2 (by omega)
   go_wp2_with (go_at_call 27; refine (H8.out _ (HS1.out.alloc _)).mono ?_; rintro e w2 ⟨r2, rfl, hr2, hS2⟩; have HS2 := hid hS2; have Hr2 := hid hr2; obtain ⟨x, hx, hcx⟩ := tabC w1 w2 g r2 HS1.out.lt hS2.2.2 hr2; have HX := hid hx; have hr2i : (r2 : Int) < 8 := (by omega); have hr20 : (0 : Int) ≤ (r2 : Int) := (by omega); clear hx; clear hS2 hr2)
   refine bodyPost_ret (v := .slice (some ⟨w2.heap.size, 0, none⟩) 1 1) (by simp [results, Tryz.results26, go_sem]) rfl ?_
   have hS := (HS1.out.alloc (.cells #[.string ⟨#[68, 56]⟩, .string ⟨#[67, 50]⟩, .string ⟨#[65, 52]⟩, .string ⟨#[83, 51]⟩, .string ⟨#[81, 56]⟩, .string ⟨#[67, 50, 120, 67, 50, 58, 67, 52]⟩, .string ⟨#[83, 76, 50, 51]⟩, .string ⟨#[49]⟩] 9)).tr HS2.out
   have hN := NdN.one (B := B) w2 (Nat.le_trans HBB.out hS.2.2.size) ⟨0, x, ⟨#[]⟩⟩
   exact ⟨_, [⟨0, x, ⟨#[]⟩⟩], _, rfl, hN, .lf (by simp), by simp, (fun y hy => by have e : y = ⟨0, x, ⟨#[]⟩⟩ := (by simpa using hy); rw [e]; exact ⟨HX.out, Nat.zero_le _⟩), hS.alloc _, own_mono (OwnN.one (x := ⟨0, x, ⟨#[]⟩⟩) (World.alloc_heap_new w2 _)) (Nat.le_trans HBB.out hS.2.2.size)⟩
theorem form_blk {B : Nat} {W : World} {v : Value} {L : List Nd} (h : OwnN B W v L) (hl : 0 < L.length) : ∃ g, v.ownBlock = some g ∧ B ≤ g := by
 obtain ⟨g, cap, hv, hB, _⟩ := World.ownsRow.form h hl
 exact ⟨g, by rw [hv]; rfl, hB⟩
theorem gr_far {w W W' : World} {g k : Nat} (h : w.grownBy W (some g)) (h' : W.grownBy W' (some k)) (hk : w.heap.size ≤ k) : w.grownBy W' (some g) :=
 ⟨h'.os.trans h.os, h'.tape.trans h.tape, h'.output.trans h.output, Nat.le_trans h.size h'.size, fun j hj hne => (h'.block j (Nat.lt_of_lt_of_le hj h.size) (fun e => by injection e; omega)).trans (h.block j hj hne)⟩
theorem Sr.app {g len cap k : Nat} {a : Option Addr} {w W W' : World} (h : Sr g a len cap w W) (h' : W.grownBy W' (some k)) (hk : w.heap.size ≤ k) (hne : k ≠ g) (hR : ∀ b o, 0 < len → a = some ⟨b, o, none⟩ → b ≠ k) : Sr g a len cap w W' := by
 refine ⟨?_, fun i hi => ?_, gr_far h.2.2 h' hk⟩
 ·obtain ⟨i, s, h1, h2⟩ := h.1
  exact ⟨i, s, (h'.block g h.lt (fun e => hne (by injection e with e; exact e.symm))).trans h1, h2⟩
 ·obtain ⟨b, o, z, h1, h2, h3, h4, h5⟩ := h.2.1 i hi
  exact ⟨b, o, z, h1, h2, Nat.lt_of_lt_of_le h3 h'.size, by rw [(Keep.grown h' (S := fun j => j ≠ k) (fun j hj e => hj (by injection e))).cell (hR b o (by omega) h1) h3]; exact h4, h5⟩
theorem OwnN.grown {B : Nat} {w w' : World} {v : Value} {L : List Nd} {g : Nat} (h : OwnN B w v L) (hg : w.grownBy w' (some g)) (hB : g < B) : OwnN B w' v L :=
 ownsRow_keep h (S := fun k => k ≠ g) (Keep.grown hg (fun k hk e => hk (by injection e))) (fun k hk => by omega)
theorem Sr.app' {g len cap : Nat} {a : Option Addr} {w W W' : World} {v : Value} {L : List Nd} (h : Sr g a len cap w W) (hw : Sr g a len cap w w) (hO : OwnN w.heap.size W v L) (hL : 0 < L.length) (h' : W.grownBy W' v.ownBlock) (ha : ∀ b o, 0 < len → a = some ⟨b, o, none⟩ → b < w.heap.size) : Sr g a len cap w W' := by
 obtain ⟨k, hk, hk2⟩ := form_blk hO hL
 rw [hk] at h'
 have := hw.lt
 exact h.app h' hk2 (by omega) (fun b o l e => by have := ha b o l e; omega)
theorem own_base {w : World} (V : World) (h : w.heap.size ≤ V.heap.size) (k : Int) (m : ByteArray) : OwnN w.heap.size (V.alloc (.cells #[.int .i64 k, .string ⟨#[]⟩, .string m] 63)) (.slice (some ⟨V.heap.size, 0, none⟩) 1 1) [⟨k, ⟨#[]⟩, m⟩] := by
 have h1 := OwnN.one (x := ⟨k, ⟨#[]⟩, m⟩) (World.alloc_heap_new V (.cells #[.int .i64 k, .string ⟨#[]⟩, .string m] 63))
 exact own_mono h1 h
theorem gr_undrew {W W' : World} {row : Option Nat} (h : W.drew.grownBy W' row) : W.grownBy W' row := ⟨h.os, h.tape, h.output, h.size, h.block⟩
theorem Sr.cellk {g len cap b o : Nat} {a : Option Addr} {W W' : World} (h : Sr g a len cap W W') (hne : b ≠ g) (hb : b < W.heap.size) : W'.cell? ⟨b, o, none⟩ = W.cell? ⟨b, o, none⟩ := (Keep.grown h.2.2 (S := fun k => k ≠ g) (fun k hk e => hk (by injection e))).cell hne hb
def tmv : Nat → ByteArray
 | 0 => ⟨#[90]⟩
 | 1 => ⟨#[68]⟩
 | _ => ⟨#[70]⟩
theorem tmv_size (r : Nat) : (tmv r).size ≤ 40 := by unfold tmv; split <;> decide
theorem tabMv (V : World) (r : Nat) (hr : r < 3) : (V.alloc (.cells #[.string ⟨#[90]⟩, .string ⟨#[68]⟩, .string ⟨#[70]⟩] 9)).cell? ⟨V.heap.size, r, none⟩ = some (.string (tmv r)) := by
 rw [cell_of_row _ _ _ _ _ (0, 0) (World.alloc_heap_new _ _)]
 have : r = 0 ∨ r = 1 ∨ r = 2 := by omega
 rcases this with rfl | rfl | rfl <;> rfl
theorem tabMk (W W' : World) (g r : Nat) (hg : g < W.heap.size) (hb : (W.alloc (.cells #[.string ⟨#[90]⟩, .string ⟨#[68]⟩, .string ⟨#[70]⟩] 9)).grownBy W' (some g)) (hr : r < 3) : W'.cell? ⟨W.heap.size, r, none⟩ = some (.string (tmv r)) := by
 rw [(Keep.grown hb (S := fun k => k ≠ g) (fun k hk e => hk (by injection e))).cell (by omega) (by simp)]
 exact tabMv W r hr
theorem al_cell {W : World} {b o : Nat} {u : Value} (h : W.cell? ⟨b, o, none⟩ = some u) (hb : b < W.heap.size) (ob : Obj) : (W.alloc ob).cell? ⟨b, o, none⟩ = some u := (((Keep.refl (fun _ => True) W).alloc ob).cell trivial hb).trans h
theorem good_step (d : Nat) (hd : 2 ^ (d + 1) ≤ 1000) (hd9 : d ≤ 1000) (B g : Nat) (hg : g < B) (a : Option Addr) (len cap : Nat) (w : World) (hB : B ≤ w.heap.size) (h : Sr g a len cap w w)
  (ha : ∀ b o, 0 < len → a = some ⟨b, o, none⟩ → b < w.heap.size)
  (HGD : ∀ W, Sr g a len cap w W → Calls Tryz.prog 26 #[.pointer (some ⟨g, 0, none⟩), .int .i64 (d : Int)] W (GdR d B g a len cap W)) :
  Calls Tryz.prog 26 #[.pointer (some ⟨g, 0, none⟩), .int .i64 ((d + 1 : Nat) : Int)] w (GdR (d + 1) B g a len cap w) := by
 have H4 := hid (fun (W : World) (h : Sr g a len cap w W) => show Calls Tryz.prog 27 #[.pointer (some ⟨g, 0, none⟩), .int .i64 4] W (NxS 4 g a len cap W) from nx_any 4 (by decide) (by decide) g a len cap w W h)
 have H3 := hid (fun (W : World) (h : Sr g a len cap w W) => show Calls Tryz.prog 27 #[.pointer (some ⟨g, 0, none⟩), .int .i64 3] W (NxS 3 g a len cap W) from nx_any 3 (by decide) (by decide) g a len cap w W h)
 have H8 := hid (fun (W : World) (h : Sr g a len cap w W) => show Calls Tryz.prog 27 #[.pointer (some ⟨g, 0, none⟩), .int .i64 8] W (NxS 8 g a len cap W) from nx_any 8 (by decide) (by decide) g a len cap w W h)
 have HH := hid h
 have HBB := hid hB
 have HGB := hid hg
 have HGD := hid HGD
 have HAA := hid ha
 have HD := hid hd
 have hp2 : [0].length + 1 ≤ 2 ^ (d + 1 + 1) := by
  have := Nat.pow_le_pow_right (n := 2) (by omega) (show 1 ≤ d + 1 + 1 by omega)
  simpa using this
 obtain ⟨D, hD⟩ : ∃ D, d + 1 = D := ⟨_, rfl⟩
 have hgt : (D : Int) > 0 := by omega
 have hwd : IntKind.i64.wrap ((D : Int) - 1) = (d : Int) := by rw [IntWalk.i64_in _ (by omega)]; omega
 rw [hD] at hp2 ⊢
 have HDD := hid hD
 clear h hB hg hd hD ha
 go_enter Tryz.func26, Tryz.ntmps26
 go_upto_region 3 with (go_at_call 27; refine (H4.out _ HH.out).mono ?_; rintro e w1 ⟨r, rfl, hr, hS1⟩; have HS1 := hid hS1; have Hr := hid hr; clear hS1 hr)
 have hr4 := Hr.out
 by_cases r0 : r = 0
 ·subst r0
  obtain ⟨g9, hg9⟩ : ∃ g9, w1.heap.size = g9 := ⟨_, rfl⟩
  obtain ⟨w9, hw9⟩ : ∃ w9, w1.alloc (.cells #[.int .i64 3, .string ⟨#[]⟩, .string ⟨#[]⟩] 63) = w9 := ⟨_, rfl⟩
  have HO9 := hid (show OwnN g9 w9 (.slice (some ⟨g9, 0, none⟩) 1 1) [ndP] by
   rw [← hw9, ← hg9]
   exact OwnN.one (x := ndP) (World.alloc_heap_new _ _))
  have HS9 := hid (show Sr g a len cap w w9 by rw [← hw9]; exact HS1.out.alloc _)
  have HG9 := hid (show g9 < w9.heap.size ∧ w.heap.size ≤ g9 ∧ g < g9 from ⟨by rw [← hw9, ← hg9]; simp, by rw [← hg9]; exact HS1.out.2.2.size, by rw [← hg9]; exact HS1.out.lt⟩)
  go_wp2_with (first | (go_at_call 26; refine (HGD.out _ (HS4.out)).mono ?_; rintro e w5 ⟨v5, L5, T5, rfl, hN5, hT5, hl5, hz5, hS5, -⟩; have HN5 := hid hN5; have HT5 := hid hT5; have HL5 := hid hl5; have HZ5 := hid hz5; obtain ⟨a5, c5, rfl⟩ := hN5.form; have HO5 := hid (OwnN.grown HO4.out hS5.2.2 (HG9.out.2.2)); have HM5 := hid hS5.2.2.size; have HS5 := hid (HS4.out.tr hS5); clear hN5 hT5 hl5 hz5 hS5) | (go_at_call 26; refine (HGD.out _ (HS9.out)).mono ?_; rintro e w3 ⟨v3, L3, T3, rfl, hN3, hT3, hl3, hz3, hS3, -⟩; have HN3 := hid hN3; have HT3 := hid hT3; have HL3 := hid hl3; have HZ3 := hid hz3; obtain ⟨a3, c3, rfl⟩ := hN3.form; have HS3 := hid (HS9.out.tr hS3); have HO3 := hid (OwnN.grown HO9.out hS3.2.2 (HG9.out.2.2)); have HM3 := hid hS3.2.2.size; clear hN3 hT3 hl3 hz3 hS3) | (at_builtin; refine wpList_app _ rfl _ _ rfl g9 _ ([ndP] ++ L3) rfl HO5.out (by simp) _ L5 rfl (NdN.mono HN5.out (Nat.zero_le B)) (by have := HL3.out; have := HL5.out; have := HD.out; simp only [List.length_append, List.length_cons, List.length_nil]; omega) (by have := HG9.out; have := HM3.out; have := HM4.out; have := HM5.out; omega) ?_; intro av6 cv6 w6 hO6 hg6; have HO6 := hid hO6; obtain ⟨g6, hf6, hge6⟩ := form_blk HO5.out (by simp); have hg6' : w5.grownBy w6 (some g6) := (by have h : w5.grownBy w6 (Value.slice av4 ([ndP].length + L3.length) cv4).ownBlock := hg6; rw [hf6] at h; exact h); have HS6 := hid (HS5.out.app hg6' (by have := HG9.out.2.1; omega) (by have := HG9.out; omega) (fun b o l e => by have := HAA.out b o l e; have := HG9.out; omega)); clear hO6 hg6 hg6' hf6) | (at_builtin; refine wpList_app _ rfl _ _ rfl g9 _ [ndP] rfl HO3.out (by simp) _ L3 rfl (NdN.mono HN3.out (Nat.zero_le B)) (by have := HL3.out; have := HD.out; simp only [List.length_cons, List.length_nil]; omega) (by have := HG9.out; have := HM3.out; omega) ?_; intro av4 cv4 w4 hO4 hg4; have HO4 := hid hO4; have hg4' : w3.grownBy w4 (some g9) := hg4; have HS4 := hid (HS3.out.app hg4' HG9.out.2.1 (by have := HG9.out; omega) (fun b o l e => by have := HAA.out b o l e; have := HG9.out; omega)); have HM4 := hid hg4.size; clear hO4 hg4 hg4'))
  refine bodyPost_ret (v := .slice av6 (([ndP] ++ L3).length + L5.length) cv6) (by simp [results, Tryz.results26, go_sem]) rfl ?_
  obtain ⟨T, hT⟩ := Shp.pair (x := ndP) rfl HT3.out HT5.out
  have hlp : ([ndP] ++ L3).length + L5.length = (ndP :: (L3 ++ L5)).length := by simp; omega
  have hO := HO6.out
  rw [hlp, show [ndP] ++ L3 ++ L5 = ndP :: (L3 ++ L5) by simp] at hO
  rw [hlp]
  refine ⟨_, ndP :: (L3 ++ L5), T, rfl, PeF.NdN.mono (OwnN.ndn hO (by simp)) (by have := HG9.out; have := HBB.out; omega), hT, ?_, ?_, HS6.out, own_mono hO (by have := HG9.out; have := HBB.out; omega)⟩
  ·have h3 := HL3.out
   have h5 := HL5.out
   rw [← HDD.out, Nat.pow_succ]
   simp only [List.length_cons, List.length_append]
   omega
  ·intro y hy
   rcases List.mem_cons.1 hy with rfl | hy
   ·exact ⟨Nat.zero_le _, Nat.zero_le _⟩
   ·rcases List.mem_append.1 hy with hy | hy
    ·exact HZ3.out y hy
    ·exact HZ5.out y hy
 ·by_cases r1 : r = 1
  ·subst r1
   go_upto_region 6 with fail
   go_region_law (first | (go_simp; go_at_call 27; refine (H3.out _ HS1.out.drew).mono ?_; rintro e w2 ⟨r2, rfl, hr2, hS2⟩; have HS2 := hid (HS1.out.drew.tr hS2); have hr2i : (r2 : Int) < 3 := (by omega); have hr20 : (0 : Int) ≤ (r2 : Int) := (by omega); have hTV := (fun V : World => tabMv V r2 hr2); have HR2 := hid hr2; clear hS2 hr2) | (go_simp; go_at_call 27; refine (H3.out _ (by first | exact (HS1.out.alloc _).drew | exact HS1.out.drew.alloc _)).mono ?_; rintro e w2 ⟨r2, rfl, hr2, hS2⟩; have hcx : w2.cell? ⟨w1.heap.size, r2, none⟩ = some (.string (tmv r2)) := (tabMk w1 w2 g r2 HS1.out.lt (by first | exact hS2.2.2 | exact gr_undrew hS2.2.2) hr2); have HLT := hid (show w1.heap.size < w2.heap.size ∧ w1.heap.size ≠ g from ⟨by have h := hS2.2.2.size; simp at h; omega, by have := HS1.out.lt; omega⟩); have HCX := hid hcx; have HS2 := hid (Sr.tr (by first | exact (HS1.out.alloc _).drew | exact HS1.out.drew.alloc _) hS2); have hr2i : (r2 : Int) < 3 := (by omega); have hr20 : (0 : Int) ≤ (r2 : Int) := (by omega); have HR2 := hid hr2; clear hS2 hr2) | (go_simp; go_at_call 26; refine (HGD.out _ (by first | exact HS2.out | exact HS2.out.alloc _ | exact (HS2.out.alloc _).alloc _)).mono ?_; rintro e w3 ⟨v3, L3, T3, rfl, hN3, hT3, hl3, hz3, hS3, -⟩; have HN3 := hid hN3; have HT3 := hid hT3; have HL3 := hid hl3; have HZ3 := hid hz3; have HS3 := hid (Sr.tr (by first | exact HS2.out | exact HS2.out.alloc _ | exact (HS2.out.alloc _).alloc _) hS3); obtain ⟨a3, c3, rfl⟩ := hN3.form; (first | (have hcx3 : w3.cell? ⟨w1.heap.size, r2, none⟩ = some (.string (tmv r2)) := (by first | exact (hS3.cellk HLT.out.2 HLT.out.1).trans HCX.out | exact (hS3.cellk HLT.out.2 (by have := HLT.out.1; simp; omega)).trans (al_cell HCX.out HLT.out.1 _))) | (have hcx3 : w3.cell? ⟨w2.heap.size, r2, none⟩ = some (.string (tmv r2)) := (by exact (hS3.cellk (by have := HS2.out.lt; omega) (by simp)).trans (tabMv w2 r2 HR2.out))) | skip); (first | (have HO3 := hid (OwnN.grown (own_base w2 HS2.out.2.2.size 4 (tmv r2)) hS3.2.2 HH.out.lt)) | (have HO3 := hid (OwnN.grown (show OwnN w.heap.size ((w2.alloc (.cells #[.string ⟨#[90]⟩, .string ⟨#[68]⟩, .string ⟨#[70]⟩] 9)).alloc (.cells #[.int .i64 4, .string ⟨#[]⟩, .string (tmv r2)] 63)) (.slice (some ⟨w2.heap.size + 1, 0, none⟩) 1 1) [⟨4, ⟨#[]⟩, tmv r2⟩] from (by have h := own_base (w2.alloc (.cells #[.string ⟨#[90]⟩, .string ⟨#[68]⟩, .string ⟨#[70]⟩] 9)) (HS2.out.alloc _).2.2.size 4 (tmv r2); simp only [World.size_alloc] at h; exact h)) hS3.2.2 HH.out.lt)) | skip); clear hN3 hT3 hl3 hz3 hS3) | (refine step_app _ (by rfl) _ _ (by rfl) w.heap.size _ [⟨4, ⟨#[]⟩, tmv r2⟩] (by rfl) (by first | exact HO3.out | exact own_base w3 HS3.out.2.2.size 4 (tmv r2) | (have h := own_base (w3.alloc (.cells #[.string ⟨#[90]⟩, .string ⟨#[68]⟩, .string ⟨#[70]⟩] 9)) (HS3.out.alloc _).2.2.size 4 (tmv r2); simp only [World.size_alloc] at h; exact h)) (by simp) _ L3 (by rfl) (by first | exact NdN.mono HN3.out (Nat.zero_le B) | exact NdN.mono (NdN.below HN3.out ((Below.refl _ _).alloc (Nat.le_refl _) _)) (Nat.zero_le B) | exact NdN.mono (NdN.below HN3.out (((Below.refl _ _).alloc (Nat.le_refl _) _).alloc (by simp) _)) (Nat.zero_le B)) (by have := HL3.out; have := HD.out; simp only [List.length_cons, List.length_nil]; omega) (by first | exact HS3.out.2.2.size | exact (HS3.out.alloc _).2.2.size | exact ((HS3.out.alloc _).alloc _).2.2.size) ?_; intro av6 cv6 w6 hO6 hg6; have HO6 := hid hO6; have HS6 := hid (Sr.app' (by first | exact HS3.out | exact HS3.out.alloc _ | exact (HS3.out.alloc _).alloc _) HH.out (by first | exact HO3.out | exact own_base w3 HS3.out.2.2.size 4 (tmv r2) | (have h := own_base (w3.alloc (.cells #[.string ⟨#[90]⟩, .string ⟨#[68]⟩, .string ⟨#[70]⟩] 9)) (HS3.out.alloc _).2.2.size 4 (tmv r2); simp only [World.size_alloc] at h; exact h)) (by simp) hg6 HAA.out); clear hO6 hg6))
   all_goals
    go_wp2_with fail
    refine bodyPost_ret (v := .slice av6 ([(⟨4, ⟨#[]⟩, tmv r2⟩ : Nd)].length + L3.length) cv6) (by simp [results, Tryz.results26, go_sem]) rfl ?_
    obtain ⟨T, hT⟩ : ∃ T, Shp ((⟨4, ⟨#[]⟩, tmv r2⟩ : Nd) :: L3) T [] := Shp.quo (x := ⟨4, ⟨#[]⟩, tmv r2⟩) rfl HT3.out
    have hlp : [(⟨4, ⟨#[]⟩, tmv r2⟩ : Nd)].length + L3.length = ((⟨4, ⟨#[]⟩, tmv r2⟩ : Nd) :: L3).length := by simp; omega
    have hO := HO6.out
    rw [hlp, show [(⟨4, ⟨#[]⟩, tmv r2⟩ : Nd)] ++ L3 = (⟨4, ⟨#[]⟩, tmv r2⟩ : Nd) :: L3 by simp] at hO
    rw [hlp]
    refine ⟨_, _, T, rfl, PeF.NdN.mono (OwnN.ndn hO (by simp)) HBB.out, hT, ?_, ?_, HS6.out, own_mono hO HBB.out⟩
    ·have h3 := HL3.out
     have hp := Nat.pow_le_pow_right (n := 2) (by omega) (show 1 ≤ d + 1 by omega)
     rw [← HDD.out, Nat.pow_succ]
     simp only [List.length_cons]
     omega
    ·intro y hy
     rcases List.mem_cons.1 hy with rfl | hy
     ·exact ⟨Nat.zero_le _, tmv_size _⟩
     ·exact HZ3.out y hy
  ·by_cases r2 : r = 2
   ·subst r2
    go_upto_region 8 with fail
    go_region_law (first | (go_simp; go_at_call 27; refine (H3.out _ HS1.out.drew).mono ?_; rintro e w2 ⟨r2, rfl, hr2, hS2⟩; have HS2 := hid (HS1.out.drew.tr hS2); have hr2i : (r2 : Int) < 3 := (by omega); have hr20 : (0 : Int) ≤ (r2 : Int) := (by omega); have hTV := (fun V : World => tabMv V r2 hr2); have HR2 := hid hr2; clear hS2 hr2) | (go_simp; go_at_call 27; refine (H3.out _ (by first | exact (HS1.out.alloc _).drew | exact HS1.out.drew.alloc _)).mono ?_; rintro e w2 ⟨r2, rfl, hr2, hS2⟩; have hcx : w2.cell? ⟨w1.heap.size, r2, none⟩ = some (.string (tmv r2)) := (tabMk w1 w2 g r2 HS1.out.lt (by first | exact hS2.2.2 | exact gr_undrew hS2.2.2) hr2); have HLT := hid (show w1.heap.size < w2.heap.size ∧ w1.heap.size ≠ g from ⟨by have h := hS2.2.2.size; simp at h; omega, by have := HS1.out.lt; omega⟩); have HCX := hid hcx; have HS2 := hid (Sr.tr (by first | exact (HS1.out.alloc _).drew | exact HS1.out.drew.alloc _) hS2); have hr2i : (r2 : Int) < 3 := (by omega); have hr20 : (0 : Int) ≤ (r2 : Int) := (by omega); have HR2 := hid hr2; clear hS2 hr2) | (go_simp; go_at_call 26; refine (HGD.out _ (by first | exact HS2.out | exact HS2.out.alloc _ | exact (HS2.out.alloc _).alloc _)).mono ?_; rintro e w3 ⟨v3, L3, T3, rfl, hN3, hT3, hl3, hz3, hS3, -⟩; have HN3 := hid hN3; have HT3 := hid hT3; have HL3 := hid hl3; have HZ3 := hid hz3; have HS3 := hid (Sr.tr (by first | exact HS2.out | exact HS2.out.alloc _ | exact (HS2.out.alloc _).alloc _) hS3); obtain ⟨a3, c3, rfl⟩ := hN3.form; (first | (have hcx3 : w3.cell? ⟨w1.heap.size, r2, none⟩ = some (.string (tmv r2)) := (by first | exact (hS3.cellk HLT.out.2 HLT.out.1).trans HCX.out | exact (hS3.cellk HLT.out.2 (by have := HLT.out.1; simp; omega)).trans (al_cell HCX.out HLT.out.1 _))) | (have hcx3 : w3.cell? ⟨w2.heap.size, r2, none⟩ = some (.string (tmv r2)) := (by exact (hS3.cellk (by have := HS2.out.lt; omega) (by simp)).trans (tabMv w2 r2 HR2.out))) | skip); (first | (have HO3 := hid (OwnN.grown (own_base w2 HS2.out.2.2.size 5 (tmv r2)) hS3.2.2 HH.out.lt)) | (have HO3 := hid (OwnN.grown (show OwnN w.heap.size ((w2.alloc (.cells #[.string ⟨#[90]⟩, .string ⟨#[68]⟩, .string ⟨#[70]⟩] 9)).alloc (.cells #[.int .i64 5, .string ⟨#[]⟩, .string (tmv r2)] 63)) (.slice (some ⟨w2.heap.size + 1, 0, none⟩) 1 1) [⟨5, ⟨#[]⟩, tmv r2⟩] from (by have h := own_base (w2.alloc (.cells #[.string ⟨#[90]⟩, .string ⟨#[68]⟩, .string ⟨#[70]⟩] 9)) (HS2.out.alloc _).2.2.size 5 (tmv r2); simp only [World.size_alloc] at h; exact h)) hS3.2.2 HH.out.lt)) | skip); clear hN3 hT3 hl3 hz3 hS3) | (refine step_app _ (by rfl) _ _ (by rfl) w.heap.size _ [⟨5, ⟨#[]⟩, tmv r2⟩] (by rfl) (by first | exact HO3.out | exact own_base w3 HS3.out.2.2.size 5 (tmv r2) | (have h := own_base (w3.alloc (.cells #[.string ⟨#[90]⟩, .string ⟨#[68]⟩, .string ⟨#[70]⟩] 9)) (HS3.out.alloc _).2.2.size 5 (tmv r2); simp only [World.size_alloc] at h; exact h)) (by simp) _ L3 (by rfl) (by first | exact NdN.mono HN3.out (Nat.zero_le B) | exact NdN.mono (NdN.below HN3.out ((Below.refl _ _).alloc (Nat.le_refl _) _)) (Nat.zero_le B) | exact NdN.mono (NdN.below HN3.out (((Below.refl _ _).alloc (Nat.le_refl _) _).alloc (by simp) _)) (Nat.zero_le B)) (by have := HL3.out; have := HD.out; simp only [List.length_cons, List.length_nil]; omega) (by first | exact HS3.out.2.2.size | exact (HS3.out.alloc _).2.2.size | exact ((HS3.out.alloc _).alloc _).2.2.size) ?_; intro av6 cv6 w6 hO6 hg6; have HO6 := hid hO6; have HS6 := hid (Sr.app' (by first | exact HS3.out | exact HS3.out.alloc _ | exact (HS3.out.alloc _).alloc _) HH.out (by first | exact HO3.out | exact own_base w3 HS3.out.2.2.size 5 (tmv r2) | (have h := own_base (w3.alloc (.cells #[.string ⟨#[90]⟩, .string ⟨#[68]⟩, .string ⟨#[70]⟩] 9)) (HS3.out.alloc _).2.2.size 5 (tmv r2); simp only [World.size_alloc] at h; exact h)) (by simp) hg6 HAA.out); clear hO6 hg6))
    all_goals
     go_wp2_with fail
     refine bodyPost_ret (v := .slice av6 ([(⟨5, ⟨#[]⟩, tmv r2⟩ : Nd)].length + L3.length) cv6) (by simp [results, Tryz.results26, go_sem]) rfl ?_
     obtain ⟨T, hT⟩ : ∃ T, Shp ((⟨5, ⟨#[]⟩, tmv r2⟩ : Nd) :: L3) T [] := ⟨_, .pt (x := ⟨5, ⟨#[]⟩, tmv r2⟩) rfl HT3.out⟩
     have hlp : [(⟨5, ⟨#[]⟩, tmv r2⟩ : Nd)].length + L3.length = ((⟨5, ⟨#[]⟩, tmv r2⟩ : Nd) :: L3).length := by simp; omega
     have hO := HO6.out
     rw [hlp, show [(⟨5, ⟨#[]⟩, tmv r2⟩ : Nd)] ++ L3 = (⟨5, ⟨#[]⟩, tmv r2⟩ : Nd) :: L3 by simp] at hO
     rw [hlp]
     refine ⟨_, _, T, rfl, PeF.NdN.mono (OwnN.ndn hO (by simp)) HBB.out, hT, ?_, ?_, HS6.out, own_mono hO HBB.out⟩
     ·have h3 := HL3.out
      have hp := Nat.pow_le_pow_right (n := 2) (by omega) (show 1 ≤ d + 1 by omega)
      rw [← HDD.out, Nat.pow_succ]
      simp only [List.length_cons]
      omega
     ·intro y hy
      rcases List.mem_cons.1 hy with rfl | hy
      ·exact ⟨Nat.zero_le _, tmv_size _⟩
      ·exact HZ3.out y hy
   ·obtain rfl : r = 3 := by omega
    go_upto_region 10 with (go_at_call 27; refine (H4.out _ HS1.out).mono ?_; rintro e w5 ⟨q, rfl, hq, hS5⟩; have HS5 := hid (HS1.out.tr hS5); have Hq := hid hq; clear hS5 hq)
    have hr4 := Hq.out
    by_cases q0 : q = 0
    ·subst q0
     go_wp2_with (go_at_call 27; refine (H4.out _ (HS5.out.alloc _)).mono ?_; rintro e w2 ⟨r2, rfl, hr2, hS2⟩; have HS2 := hid hS2; have Hr2 := hid hr2; obtain ⟨x, hx, hcx⟩ := tabA w5 w2 g r2 HS5.out.lt hS2.2.2 hr2; have HX := hid hx; have hr2i : (r2 : Int) < 4 := (by omega); have hr20 : (0 : Int) ≤ (r2 : Int) := (by omega); clear hx; clear hS2 hr2)
     refine bodyPost_ret (v := .slice (some ⟨w2.heap.size, 0, none⟩) 1 1) (by simp [results, Tryz.results26, go_sem]) rfl ?_
     have hS := (HS5.out.alloc (.cells #[.string ⟨#[97]⟩, .string ⟨#[98]⟩, .string ⟨#[103]⟩, .string ⟨#[122]⟩] 9)).tr HS2.out
     have hN := NdN.one (B := B) w2 (Nat.le_trans HBB.out hS.2.2.size) ⟨2, x, ⟨#[]⟩⟩
     exact ⟨_, [⟨2, x, ⟨#[]⟩⟩], _, rfl, hN, .lf (by simp), hp2, (fun y hy => by have e : y = ⟨2, x, ⟨#[]⟩⟩ := (by simpa using hy); rw [e]; exact ⟨HX.out, Nat.zero_le _⟩), hS.alloc _, own_mono (OwnN.one (x := ⟨2, x, ⟨#[]⟩⟩) (World.alloc_heap_new w2 _)) (Nat.le_trans HBB.out hS.2.2.size)⟩
    ·by_cases q1 : q = 1
     ·subst q1
      go_wp2_with (go_at_call 27; refine (H4.out _ (HS5.out.alloc _)).mono ?_; rintro e w2 ⟨r2, rfl, hr2, hS2⟩; have HS2 := hid hS2; have Hr2 := hid hr2; obtain ⟨x, hx, hcx⟩ := tabB w5 w2 g r2 HS5.out.lt hS2.2.2 hr2; have HX := hid hx; have hr2i : (r2 : Int) < 4 := (by omega); have hr20 : (0 : Int) ≤ (r2 : Int) := (by omega); clear hx; clear hS2 hr2)
      refine bodyPost_ret (v := .slice (some ⟨w2.heap.size, 0, none⟩) 1 1) (by simp [results, Tryz.results26, go_sem]) rfl ?_
      have hS := (HS5.out.alloc (.cells #[.string ⟨#[50, 32, 51, 59, 32, 98, 94, 97, 61, 98, 98]⟩, .string ⟨#[49]⟩, .string ⟨#[50, 32, 50, 59, 32, 97, 94, 50, 61, 98]⟩, .string ⟨#[51, 32, 50, 32, 50, 59, 32, 98, 94, 97, 61, 99, 59, 32, 99, 94, 97, 61, 98, 99]⟩] 9)).tr HS2.out
      have hN := NdN.one (B := B) w2 (Nat.le_trans HBB.out hS.2.2.size) ⟨1, x, ⟨#[]⟩⟩
      exact ⟨_, [⟨1, x, ⟨#[]⟩⟩], _, rfl, hN, .lf (by simp), hp2, (fun y hy => by have e : y = ⟨1, x, ⟨#[]⟩⟩ := (by simpa using hy); rw [e]; exact ⟨HX.out, Nat.zero_le _⟩), hS.alloc _, own_mono (OwnN.one (x := ⟨1, x, ⟨#[]⟩⟩) (World.alloc_heap_new w2 _)) (Nat.le_trans HBB.out hS.2.2.size)⟩
     ·have f0 : ((q : Int) == 0) = false := beq_eq_false_iff_ne.2 (by omega)
      have f1 : ((q : Int) == 1) = false := beq_eq_false_iff_ne.2 (by omega)
      go_wp2_with (go_at_call 27; refine (H8.out _ (HS5.out.alloc _)).mono ?_; rintro e w2 ⟨r2, rfl, hr2, hS2⟩; have HS2 := hid hS2; have Hr2 := hid hr2; obtain ⟨x, hx, hcx⟩ := tabC w5 w2 g r2 HS5.out.lt hS2.2.2 hr2; have HX := hid hx; have hr2i : (r2 : Int) < 8 := (by omega); have hr20 : (0 : Int) ≤ (r2 : Int) := (by omega); clear hx; clear hS2 hr2)
      refine bodyPost_ret (v := .slice (some ⟨w2.heap.size, 0, none⟩) 1 1) (by simp [results, Tryz.results26, go_sem]) rfl ?_
      have hS := (HS5.out.alloc (.cells #[.string ⟨#[68, 56]⟩, .string ⟨#[67, 50]⟩, .string ⟨#[65, 52]⟩, .string ⟨#[83, 51]⟩, .string ⟨#[81, 56]⟩, .string ⟨#[67, 50, 120, 67, 50, 58, 67, 52]⟩, .string ⟨#[83, 76, 50, 51]⟩, .string ⟨#[49]⟩] 9)).tr HS2.out
      have hN := NdN.one (B := B) w2 (Nat.le_trans HBB.out hS.2.2.size) ⟨0, x, ⟨#[]⟩⟩
      exact ⟨_, [⟨0, x, ⟨#[]⟩⟩], _, rfl, hN, .lf (by simp), hp2, (fun y hy => by have e : y = ⟨0, x, ⟨#[]⟩⟩ := (by simpa using hy); rw [e]; exact ⟨HX.out, Nat.zero_le _⟩), hS.alloc _, own_mono (OwnN.one (x := ⟨0, x, ⟨#[]⟩⟩) (World.alloc_heap_new w2 _)) (Nat.le_trans HBB.out hS.2.2.size)⟩
theorem good_any (B g : Nat) (hg : g < B) (a : Option Addr) (len cap : Nat) (w0 : World) (ha : ∀ b o, 0 < len → a = some ⟨b, o, none⟩ → b < w0.heap.size) : ∀ (d : Nat), 2 ^ (d + 1) ≤ 2000 → ∀ (w : World), B ≤ w.heap.size → Sr g a len cap w0 w →
  Calls Tryz.prog 26 #[.pointer (some ⟨g, 0, none⟩), .int .i64 (d : Int)] w (GdR d B g a len cap w)
 | 0 => fun _ w hB h => good_leaf B g hg a len cap w hB ⟨h.1, h.2.1, gr_refl _ _⟩
 | d + 1 => fun hd w hB h => by
  have h2 : 2 ^ (d + 1) ≤ 1000 := by rw [Nat.pow_succ] at hd; omega
  have hd9 : d ≤ 1000 := by have := Nat.lt_two_pow_self (n := d + 1); omega
  exact good_step d h2 hd9 B g hg a len cap w hB ⟨h.1, h.2.1, gr_refl _ _⟩ (fun b o l e => Nat.lt_of_lt_of_le (ha b o l e) h.2.2.size) (fun W hW => good_any B g hg a len cap w0 ha d (by omega) W (Nat.le_trans hB hW.2.2.size) (h.tr hW))
end Go.Proofs.YtbamkklhkhglnaaGreatDoor.PeU
namespace Go.Proofs.YtbamkklhkhglnaaGreatDoor.PeV
open Go.RowKit Go.Lib Go.Proofs.YtbamkklhkhglnaaGreatDoor Tow CyA CyB CyC LbC LbD LbN PeA PeB PpA PeE PeF PeT PeU

theorem tabV (l : List ByteArray) (t : TypeId) (V : World) (r : Nat) (hr : r < l.length) : (V.alloc (.cells (l.map Value.string).toArray t)).cell? ⟨V.heap.size, r, none⟩ = some (.string (l.getD r ⟨#[]⟩)) := by
 rw [cell_of_row _ _ _ _ _ (0, 0) (World.alloc_heap_new _ _)]
 simp [hr, List.getD]
theorem tab_size (l : List ByteArray) (n : Nat) (h : ∀ x ∈ l, x.size ≤ n) (r : Nat) : (l.getD r ⟨#[]⟩).size ≤ n := by
 rw [List.getD_eq_getElem?_getD]
 cases e : l[r]? with
 | none => exact Nat.zero_le _
 | some x => exact h x (List.mem_of_getElem? e)
theorem kept {W W' : World} {g r : Nat} {u : Value} {o : Obj} (hg : g < W.heap.size) (hb : (W.alloc o).grownBy W' (some g)) (h : (W.alloc o).cell? ⟨W.heap.size, r, none⟩ = some u) : W'.cell? ⟨W.heap.size, r, none⟩ = some u := by
 rw [(Keep.grown hb (S := fun k => k ≠ g) (fun k hk e => hk (by injection e))).cell (by omega) (by simp)]
 exact h
def tD (r : Nat) : ByteArray := [(⟨#[48]⟩ : ByteArray), (⟨#[49]⟩ : ByteArray), (⟨#[32]⟩ : ByteArray), (⟨#[61]⟩ : ByteArray), (⟨#[59]⟩ : ByteArray), (⟨#[97]⟩ : ByteArray), (⟨#[66]⟩ : ByteArray), (⟨#[94]⟩ : ByteArray)].getD r ⟨#[]⟩
theorem tD_size (r : Nat) : (tD r).size ≤ 20 := tab_size _ 20 (by decide) r
theorem tD_new (V : World) (r : Nat) (hr : r < 8) : (V.alloc (.cells #[.string ⟨#[48]⟩, .string ⟨#[49]⟩, .string ⟨#[32]⟩, .string ⟨#[61]⟩, .string ⟨#[59]⟩, .string ⟨#[97]⟩, .string ⟨#[66]⟩, .string ⟨#[94]⟩] 9)).cell? ⟨V.heap.size, r, none⟩ = some (.string (tD r)) := tabV [(⟨#[48]⟩ : ByteArray), (⟨#[49]⟩ : ByteArray), (⟨#[32]⟩ : ByteArray), (⟨#[61]⟩ : ByteArray), (⟨#[59]⟩ : ByteArray), (⟨#[97]⟩ : ByteArray), (⟨#[66]⟩ : ByteArray), (⟨#[94]⟩ : ByteArray)] 9 V r hr
theorem tD_kept (W W' : World) (g r : Nat) (hg : g < W.heap.size) (hb : (W.alloc (.cells #[.string ⟨#[48]⟩, .string ⟨#[49]⟩, .string ⟨#[32]⟩, .string ⟨#[61]⟩, .string ⟨#[59]⟩, .string ⟨#[97]⟩, .string ⟨#[66]⟩, .string ⟨#[94]⟩] 9)).grownBy W' (some g)) (hr : r < 8) : W'.cell? ⟨W.heap.size, r, none⟩ = some (.string (tD r)) := kept hg hb (tD_new W r hr)
def tE (r : Nat) : ByteArray := [(⟨#[43]⟩ : ByteArray), (⟨#[47, 90]⟩ : ByteArray), (⟨#[40]⟩ : ByteArray), (⟨#[41]⟩ : ByteArray), (⟨#[123, 67, 50, 125]⟩ : ByteArray), (⟨#[90, 40]⟩ : ByteArray), (⟨#[91, 50]⟩ : ByteArray), (⟨#[97]⟩ : ByteArray), (⟨#[47]⟩ : ByteArray), (⟨#[123]⟩ : ByteArray)].getD r ⟨#[]⟩
theorem tE_size (r : Nat) : (tE r).size ≤ 20 := tab_size _ 20 (by decide) r
theorem tE_new (V : World) (r : Nat) (hr : r < 10) : (V.alloc (.cells #[.string ⟨#[43]⟩, .string ⟨#[47, 90]⟩, .string ⟨#[40]⟩, .string ⟨#[41]⟩, .string ⟨#[123, 67, 50, 125]⟩, .string ⟨#[90, 40]⟩, .string ⟨#[91, 50]⟩, .string ⟨#[97]⟩, .string ⟨#[47]⟩, .string ⟨#[123]⟩] 9)).cell? ⟨V.heap.size, r, none⟩ = some (.string (tE r)) := tabV [(⟨#[43]⟩ : ByteArray), (⟨#[47, 90]⟩ : ByteArray), (⟨#[40]⟩ : ByteArray), (⟨#[41]⟩ : ByteArray), (⟨#[123, 67, 50, 125]⟩ : ByteArray), (⟨#[90, 40]⟩ : ByteArray), (⟨#[91, 50]⟩ : ByteArray), (⟨#[97]⟩ : ByteArray), (⟨#[47]⟩ : ByteArray), (⟨#[123]⟩ : ByteArray)] 9 V r hr
theorem tE_kept (W W' : World) (g r : Nat) (hg : g < W.heap.size) (hb : (W.alloc (.cells #[.string ⟨#[43]⟩, .string ⟨#[47, 90]⟩, .string ⟨#[40]⟩, .string ⟨#[41]⟩, .string ⟨#[123, 67, 50, 125]⟩, .string ⟨#[90, 40]⟩, .string ⟨#[91, 50]⟩, .string ⟨#[97]⟩, .string ⟨#[47]⟩, .string ⟨#[123]⟩] 9)).grownBy W' (some g)) (hr : r < 10) : W'.cell? ⟨W.heap.size, r, none⟩ = some (.string (tE r)) := kept hg hb (tE_new W r hr)
def tF (r : Nat) : ByteArray := [(⟨#[]⟩ : ByteArray), (⟨#[40, 97, 41]⟩ : ByteArray), (⟨#[40, 40, 97, 43, 98, 41, 41, 43, 99]⟩ : ByteArray), (⟨#[97, 43, 40, 98, 43, 99, 41]⟩ : ByteArray), (⟨#[40, 97, 47, 90, 41, 47, 68]⟩ : ByteArray), (⟨#[123, 67, 50]⟩ : ByteArray), (⟨#[91, 50, 32, 50, 59, 32, 97, 94, 50, 61, 98, 93]⟩ : ByteArray), (⟨#[91, 50, 32, 51, 59, 32, 98, 94, 97, 61, 49, 93]⟩ : ByteArray), (⟨#[90, 32, 97]⟩ : ByteArray), (⟨#[97, 32, 98]⟩ : ByteArray), (⟨#[40, 97, 43, 98, 41, 47, 70, 43, 90, 40, 40, 99, 41, 41]⟩ : ByteArray)].getD r ⟨#[]⟩
theorem tF_size (r : Nat) : (tF r).size ≤ 20 := tab_size _ 20 (by decide) r
theorem tF_new (V : World) (r : Nat) (hr : r < 11) : (V.alloc (.cells #[.string ⟨#[]⟩, .string ⟨#[40, 97, 41]⟩, .string ⟨#[40, 40, 97, 43, 98, 41, 41, 43, 99]⟩, .string ⟨#[97, 43, 40, 98, 43, 99, 41]⟩, .string ⟨#[40, 97, 47, 90, 41, 47, 68]⟩, .string ⟨#[123, 67, 50]⟩, .string ⟨#[91, 50, 32, 50, 59, 32, 97, 94, 50, 61, 98, 93]⟩, .string ⟨#[91, 50, 32, 51, 59, 32, 98, 94, 97, 61, 49, 93]⟩, .string ⟨#[90, 32, 97]⟩, .string ⟨#[97, 32, 98]⟩, .string ⟨#[40, 97, 43, 98, 41, 47, 70, 43, 90, 40, 40, 99, 41, 41]⟩] 9)).cell? ⟨V.heap.size, r, none⟩ = some (.string (tF r)) := tabV [(⟨#[]⟩ : ByteArray), (⟨#[40, 97, 41]⟩ : ByteArray), (⟨#[40, 40, 97, 43, 98, 41, 41, 43, 99]⟩ : ByteArray), (⟨#[97, 43, 40, 98, 43, 99, 41]⟩ : ByteArray), (⟨#[40, 97, 47, 90, 41, 47, 68]⟩ : ByteArray), (⟨#[123, 67, 50]⟩ : ByteArray), (⟨#[91, 50, 32, 50, 59, 32, 97, 94, 50, 61, 98, 93]⟩ : ByteArray), (⟨#[91, 50, 32, 51, 59, 32, 98, 94, 97, 61, 49, 93]⟩ : ByteArray), (⟨#[90, 32, 97]⟩ : ByteArray), (⟨#[97, 32, 98]⟩ : ByteArray), (⟨#[40, 97, 43, 98, 41, 47, 70, 43, 90, 40, 40, 99, 41, 41]⟩ : ByteArray)] 9 V r hr
theorem tF_kept (W W' : World) (g r : Nat) (hg : g < W.heap.size) (hb : (W.alloc (.cells #[.string ⟨#[]⟩, .string ⟨#[40, 97, 41]⟩, .string ⟨#[40, 40, 97, 43, 98, 41, 41, 43, 99]⟩, .string ⟨#[97, 43, 40, 98, 43, 99, 41]⟩, .string ⟨#[40, 97, 47, 90, 41, 47, 68]⟩, .string ⟨#[123, 67, 50]⟩, .string ⟨#[91, 50, 32, 50, 59, 32, 97, 94, 50, 61, 98, 93]⟩, .string ⟨#[91, 50, 32, 51, 59, 32, 98, 94, 97, 61, 49, 93]⟩, .string ⟨#[90, 32, 97]⟩, .string ⟨#[97, 32, 98]⟩, .string ⟨#[40, 97, 43, 98, 41, 47, 70, 43, 90, 40, 40, 99, 41, 41]⟩] 9)).grownBy W' (some g)) (hr : r < 11) : W'.cell? ⟨W.heap.size, r, none⟩ = some (.string (tF r)) := kept hg hb (tF_new W r hr)
def tG (r : Nat) : ByteArray := [(⟨#[]⟩ : ByteArray), (⟨#[47, 90]⟩ : ByteArray), (⟨#[47, 90, 47, 90, 47, 90, 47, 90, 47, 90, 47, 90]⟩ : ByteArray)].getD r ⟨#[]⟩
theorem tG_size (r : Nat) : (tG r).size ≤ 20 := tab_size _ 20 (by decide) r
theorem tG_new (V : World) (r : Nat) (hr : r < 3) : (V.alloc (.cells #[.string ⟨#[]⟩, .string ⟨#[47, 90]⟩, .string ⟨#[47, 90, 47, 90, 47, 90, 47, 90, 47, 90, 47, 90]⟩] 9)).cell? ⟨V.heap.size, r, none⟩ = some (.string (tG r)) := tabV [(⟨#[]⟩ : ByteArray), (⟨#[47, 90]⟩ : ByteArray), (⟨#[47, 90, 47, 90, 47, 90, 47, 90, 47, 90, 47, 90]⟩ : ByteArray)] 9 V r hr
theorem tG_kept (W W' : World) (g r : Nat) (hg : g < W.heap.size) (hb : (W.alloc (.cells #[.string ⟨#[]⟩, .string ⟨#[47, 90]⟩, .string ⟨#[47, 90, 47, 90, 47, 90, 47, 90, 47, 90, 47, 90]⟩] 9)).grownBy W' (some g)) (hr : r < 3) : W'.cell? ⟨W.heap.size, r, none⟩ = some (.string (tG r)) := kept hg hb (tG_new W r hr)
theorem nx_one (g : Nat) (a : Option Addr) (len cap : Nat) (w W : World) (h : Sr g a len cap w W) :
  Calls Tryz.prog 27 #[.pointer (some ⟨g, 0, none⟩), .int .i64 1] W (NxS 1 g a len cap W) := by
 have HH := hid h
 clear h
 go_enter Tryz.func27, Tryz.ntmps27
 go_wp2_with fail
 go_ret
 exact ⟨0, rfl, by decide, HH.out.1, HH.out.2.1, gr_refl _ _⟩
theorem nx_len (n : Nat) (hn : n ≤ 100000) (g : Nat) (a : Option Addr) (len cap : Nat) (w W : World) (h : Sr g a len cap w W) :
  Calls Tryz.prog 27 #[.pointer (some ⟨g, 0, none⟩), .int .i64 ((n : Int) + 1)] W (NxS (n + 1) g a len cap W) := by
 by_cases h0 : n = 0
 ·subst h0
  exact nx_one g a len cap w W h
 ·exact nx_any (n + 1) (by omega) (by omega) g a len cap w W h
def TxR (m g : Nat) (a : Option Addr) (len cap : Nat) (w : World) (e : Ending) (w' : World) : Prop := ∃ t : ByteArray, e = .returned (.string t) ∧ t.size ≤ m ∧ Sr g a len cap w w'
theorem ext_le (t : ByteArray) (i j : Nat) : (t.extract i j).size ≤ t.size := by rw [ByteArray.size_extract]; omega
theorem dam_any (t : ByteArray) (hz : t.size ≤ 10000) (g : Nat) (a : Option Addr) (len cap : Nat) (w : World) (h : Sr g a len cap w w) :
  Calls Tryz.prog 28 #[.pointer (some ⟨g, 0, none⟩), .string t] w (TxR 20100 g a len cap w) := by
 have H8 := hid (fun (W : World) (h : Sr g a len cap w W) => show Calls Tryz.prog 27 #[.pointer (some ⟨g, 0, none⟩), .int .i64 8] W (NxS 8 g a len cap W) from nx_any 8 (by decide) (by decide) g a len cap w W h)
 have HK := hid (fun (W : World) (h : Sr g a len cap w W) => nx_len t.size (by omega) g a len cap w W h)
 have HH := hid h
 have HZ := hid hz
 have hwk : IntKind.i64.wrap ((t.size : Int) + 1) = (t.size : Int) + 1 := IntWalk.i64_in _ (by omega)
 clear h
 go_enter Tryz.func28, Tryz.ntmps28
 go_upto_region 3 with (first | (go_at_call_of 27 t; refine (HK.out _ HH.out).mono ?_; rintro e w1 ⟨k, rfl, hk, hS1⟩; have HS1 := hid (hS1); have Hk := hid hk; clear hS1 hk) | (go_at_call 27; refine (H8.out _ HS1.out).mono ?_; rintro e w2 ⟨r, rfl, hr, hS2⟩; have HS2 := hid (HS1.out.tr hS2); have Hr := hid hr; clear hS2 hr))
 have hk := Hk.out
 have hki : (k : Int) ≤ (t.size : Int) := by omega
 have hk0 : (0 : Int) ≤ (k : Int) := by omega
 obtain ⟨ta, hta⟩ : ∃ ta, t.extract 0 k = ta := ⟨_, rfl⟩
 obtain ⟨tb, htb⟩ : ∃ tb, t.extract k t.size = tb := ⟨_, rfl⟩
 have HTT := hid (show ta.size ≤ 10000 ∧ tb.size ≤ 10000 from ⟨by rw [← hta]; exact Nat.le_trans (ext_le _ _ _) hz, by rw [← htb]; exact Nat.le_trans (ext_le _ _ _) hz⟩)
 by_cases r0 : r = 0
 ·subst r0
  go_wp2_with fail
  go_ret
  exact ⟨_, rfl, by have := HTT.out; omega, HS2.out⟩
 by_cases r1 : r = 1
 ·subst r1
  go_upto_region 6 with fail
  go_region_law (first | (go_simp; go_at_call 27; refine (H8.out _ HS2.out.drew).mono ?_; rintro e wq ⟨q, rfl, hq, hSq⟩; have HSq := hid (HS2.out.drew.tr hSq); have hqi : (q : Int) < 8 := (by omega); have hq0 : (0 : Int) ≤ (q : Int) := (by omega); have hTV := (fun V : World => tD_new V q hq); have HQZ := hid (tD_size q); have c1 : (9223372036854775807 < ta.size + (tD q).size) = False := (eq_false (by have := tD_size q; have := HTT.out; omega)); have c2 : (9223372036854775807 < ta.size + (tD q).size + tb.size) = False := (eq_false (by have := tD_size q; have := HTT.out; omega)); clear hSq hq) | (go_simp; go_at_call 27; refine (H8.out _ (by first | exact (HS2.out.alloc _).drew | exact HS2.out.drew.alloc _)).mono ?_; rintro e wq ⟨q, rfl, hq, hSq⟩; have hcx : wq.cell? ⟨w2.heap.size, q, none⟩ = some (.string (tD q)) := (tD_kept w2 wq g q HS2.out.lt (by first | exact hSq.2.2 | exact gr_undrew hSq.2.2) hq); have HSq := hid (Sr.tr (by first | exact (HS2.out.alloc _).drew | exact HS2.out.drew.alloc _) hSq); have hqi : (q : Int) < 8 := (by omega); have hq0 : (0 : Int) ≤ (q : Int) := (by omega); have HQZ := hid (tD_size q); have c1 : (9223372036854775807 < ta.size + (tD q).size) = False := (eq_false (by have := tD_size q; have := HTT.out; omega)); have c2 : (9223372036854775807 < ta.size + (tD q).size + tb.size) = False := (eq_false (by have := tD_size q; have := HTT.out; omega)); clear hSq hq))
  all_goals
   go_wp2_with fail
   refine bodyPost_ret (v := .string (ta ++ tD q ++ tb)) (by simp [results, Tryz.results28, go_sem]) rfl ?_
   exact ⟨_, rfl, by have := HQZ.out; have := HTT.out; simp only [ByteArray.size_append]; omega, by first | exact HSq.out | exact HSq.out.alloc _⟩
 have e0 : ((r : Int) == 0) = false := beq_eq_false_iff_ne.2 (by omega)
 have e1 : ((r : Int) == 1) = false := beq_eq_false_iff_ne.2 (by omega)
 by_cases r2 : r = 2
 ·subst r2
  by_cases hkt : k < t.size
  ·have hkn : decide (k < t.size) = true := decide_eq_true hkt
   have hk1 : (k : Int) + 1 ≤ (t.size : Int) := by omega
   have hk10 : (0 : Int) ≤ (k : Int) + 1 := by omega
   have hwk1 : IntKind.i64.wrap ((k : Int) + 1) = (k : Int) + 1 := IntWalk.i64_in _ (by omega)
   obtain ⟨tc, htc⟩ : ∃ tc, t.extract (k + 1) t.size = tc := ⟨_, rfl⟩
   have HTC := hid (show tc.size ≤ 10000 by rw [← htc]; exact Nat.le_trans (ext_le _ _ _) hz)
   have c1 : (9223372036854775807 < ta.size + tc.size) = False := eq_false (by have := HTT.out; have := HTC.out; omega)
   go_upto_region 9 with fail
   go_region
   all_goals
    go_wp2_with fail
    refine bodyPost_ret (v := .string (ta ++ tc)) (by simp [results, Tryz.results28, go_sem]) rfl ?_
    exact ⟨_, rfl, by have := HTT.out; have := HTC.out; simp only [ByteArray.size_append]; omega, HS2.out.drew⟩
  ·have hkn : decide (k < t.size) = false := decide_eq_false hkt
   go_wp2_with fail
   go_ret
   exact ⟨_, rfl, by omega, HS2.out⟩
 ·have e2 : ((r : Int) == 2) = false := beq_eq_false_iff_ne.2 (by omega)
  go_wp2_with fail
  go_ret
  exact ⟨_, rfl, by omega, HS2.out⟩
theorem Sr.below {g len cap : Nat} {a : Option Addr} {w W W' : World} (h : Sr g a len cap w W) (hb : Below W.heap.size W W') : Sr g a len cap w W' := by
 obtain ⟨i, s, h1, h2⟩ := h.1
 exact ⟨⟨i, s, (hb.block g h.lt).trans h1, h2⟩, h.2.1.keep (Keep.of_below hb), gr_tr h.2.2 (ImplB.grown_below hb)⟩
theorem rd0_lt {w : World} {a : Option Addr} {len : Nat} (h : Rd0 w a len) : ∀ b o, 0 < len → a = some ⟨b, o, none⟩ → b < w.heap.size := fun b o hl e => by
 obtain ⟨b', o', z, e', hb, _⟩ := h 0 hl
 rw [e] at e'
 injection e' with e'
 injection e' with e1 e2
 omega
theorem costs_le (L : List Nd) (h : ∀ x ∈ L, x.t.size ≤ 40 ∧ x.m.size ≤ 40) : costs L ≤ 83 * L.length := by
 induction L with
 | nil => simp [costs]
 | cons x L ih =>
  rw [costs_cons, List.length_cons]
  have h1 := h x (by simp)
  have h2 := ih (fun y hy => h y (by simp [hy]))
  unfold cost
  omega
def strOf : Value → Nat
 | .string u => 290 - u.size
 | _ => 0
def DpR (w : World) (e : Ending) (w' : World) : Prop := ∃ t : ByteArray, e = .returned (.string t) ∧ t.size ≤ 100000 ∧ Below w.heap.size w w'
theorem dpx_any (a : Option Addr) (len cap : Nat) (hl : len ≤ 4096) (w : World) (hR : Rd0 w a len) :
  Calls Tryz.prog 7 #[.slice a len cap] w (DpR w) := by
 have HF := hid (from_any w a len cap hl hR)
 have HR0 := hid hR
 clear hR hl
 go_enter Tryz.func7, Tryz.ntmps7
 go_upto_region 2 with (go_at_call 24; refine HF.out.mono ?_; rintro e w1 ⟨g, rfl, hgw, hS1, hb1⟩; have HS1 := hid (show Sr g a len cap w1 w1 from ⟨hS1, HR0.out.rd hb1 hgw, gr_refl _ _⟩); have HB1 := hid hb1; have HGW := hid hgw; clear hS1 hb1 hgw)
 have HBL := hid (fun (W : World) (h : Sr g a len cap w1 W) => show Below w.heap.size w W from HB1.out.grown h.2.2 HB1.out.size (fun k hk => by have := HGW.out; injection hk; omega))
 have HA1 := hid (show ∀ b o, 0 < len → a = some ⟨b, o, none⟩ → b < w1.heap.size from fun b o l e => Nat.lt_of_lt_of_le (rd0_lt HR0.out b o l e) HB1.out.size)
 have H3 := hid (fun (W : World) (h : Sr g a len cap w1 W) => show Calls Tryz.prog 27 #[.pointer (some ⟨g, 0, none⟩), .int .i64 3] W (NxS 3 g a len cap W) from nx_any 3 (by decide) (by decide) g a len cap w1 W h)
 have H6 := hid (fun (W : World) (h : Sr g a len cap w1 W) => show Calls Tryz.prog 27 #[.pointer (some ⟨g, 0, none⟩), .int .i64 6] W (NxS 6 g a len cap W) from nx_any 6 (by decide) (by decide) g a len cap w1 W h)
 have H10 := hid (fun (W : World) (h : Sr g a len cap w1 W) => show Calls Tryz.prog 27 #[.pointer (some ⟨g, 0, none⟩), .int .i64 10] W (NxS 10 g a len cap W) from nx_any 10 (by decide) (by decide) g a len cap w1 W h)
 have H11 := hid (fun (W : World) (h : Sr g a len cap w1 W) => show Calls Tryz.prog 27 #[.pointer (some ⟨g, 0, none⟩), .int .i64 11] W (NxS 11 g a len cap W) from nx_any 11 (by decide) (by decide) g a len cap w1 W h)
 have HGD := hid (fun (r : Nat) (hr : r < 3) (W : World) (h : Sr g a len cap w1 W) => show Calls Tryz.prog 26 #[.pointer (some ⟨g, 0, none⟩), .int .i64 (1 + (r : Int))] W (GdR (r + 1) (g + 1) g a len cap W) from by
  have hp : 2 ^ (r + 1 + 1) ≤ 2000 := Nat.le_trans (Nat.pow_le_pow_right (by omega) (show r + 1 + 1 ≤ 4 by omega)) (by decide)
  have h' := good_any (g + 1) g (by omega) a len cap w1 HA1.out (r + 1) hp W h.lt h
  rw [show ((r + 1 : Nat) : Int) = 1 + (r : Int) by push_cast; omega] at h'
  exact h')
 have HWR := hid (fun (r : Nat) (hr : r < 3) => show IntKind.i64.wrap (1 + (r : Int)) = 1 + (r : Int) from IntWalk.i64_in _ (by omega))
 have HPR := hid (fun (L : List Nd) (v : Value) (T : List UInt8) (W : World) (hl : L.length ≤ 16) (hz : ∀ x ∈ L, x.t.size ≤ 40 ∧ x.m.size ≤ 40) (hT : Shp L T []) (hN : NdS W v L) => show Calls Tryz.prog 25 #[v, .int .i64 0] W (PrS T L.length W) from spr_any L v (by omega) (by have := costs_le L hz; omega) hT W 0 rfl hN)
 have HTZ := hid (fun (L : List Nd) (T : List UInt8) (hl : L.length ≤ 16) (hz : ∀ x ∈ L, x.t.size ≤ 40 ∧ x.m.size ≤ 40) (hT : Shp L T []) => show (ba T).size ≤ 2000 from by have h1 := hT.cost; have := costs_le L hz; rw [ba_size]; simp [costs] at h1; unfold costs at this; omega)
 go_upto_region 3 with (first | (go_at_call 26; refine (HGD.out r0 Hr0.out _ HS2.out).mono ?_; rintro e w3 ⟨v3, L3, T3, rfl, hN3, hT3, hl3, hz3, hS3, -⟩; obtain ⟨a3, c3, rfl⟩ := hN3.form; have hl16 : L3.length ≤ 16 := (by have h1 := Nat.pow_le_pow_right (n := 2) (by omega) (show r0 + 1 + 1 ≤ 4 by have := Hr0.out; omega); omega); have HPP := hid (HPR.out L3 _ T3 w3 hl16 hz3 hT3 hN3.nds); have HT3 := hid (HTZ.out L3 T3 hl16 hz3 hT3); have HS3 := hid (HS2.out.tr hS3); clear hN3 hT3 hl3 hz3 hS3 hl16) | (go_at_call 25; refine HPP.out.mono ?_; rintro e w4 ⟨rfl, hb4⟩; have HS4 := hid (Sr.below HS3.out hb4); clear hb4) | (go_at_call 27; refine (H3.out _ HS1.out).mono ?_; rintro e w2 ⟨r0, rfl, hr0, hS2⟩; have HS2 := hid (hS2); have Hr0 := hid hr0; have hwr := HWR.out r0 hr0; clear hS2 hr0))
 obtain ⟨t, ht⟩ : ∃ t, ba T3 = t := ⟨_, rfl⟩
 rw [ht] at HT3
 (try simp only [ht])
 clear ht
 go_upto_region 4 with (go_at_call 27; refine (H6.out _ HS4.out).mono ?_; rintro e w5 ⟨r, rfl, hr, hS5⟩; have HS5 := hid (HS4.out.tr hS5); have Hr := hid hr; clear hS5 hr)
 have hz := HT3.out
 have HSZ := hid (show Sr g a len cap w5 w5 from ⟨HS5.out.1, HS5.out.2.1, gr_refl _ _⟩)
 by_cases r0' : r = 0
 ·subst r0'
  have HDM := hid (dam_any t (by omega) g a len cap w5 HSZ.out)
  go_wp2_with (go_at_call 28; refine HDM.out.mono ?_; rintro e w6 ⟨u, rfl, hu, hS6⟩; have HS6 := hid (HS5.out.tr hS6); have HU := hid hu; clear hS6 hu)
  go_ret
  exact ⟨_, rfl, by have := HU.out; omega, HBL.out _ HS6.out⟩
 by_cases r1 : r = 1
 ·subst r1
  have HK := hid (nx_len t.size (by omega) g a len cap w1 w5 HS5.out)
  have hwk : IntKind.i64.wrap ((t.size : Int) + 1) = (t.size : Int) + 1 := IntWalk.i64_in _ (by omega)
  go_upto_region 8 with (go_at_call 27; refine HK.out.mono ?_; rintro e w6 ⟨k, rfl, hk, hS6⟩; have HS6 := hid (HS5.out.tr hS6); have HK6 := hid hk; clear hS6 hk)
  have hk := HK6.out
  have hki : (k : Int) ≤ (t.size : Int) := by omega
  have hk0 : (0 : Int) ≤ (k : Int) := by omega
  obtain ⟨ta, hta⟩ : ∃ ta, t.extract 0 k = ta := ⟨_, rfl⟩
  obtain ⟨tb, htb⟩ : ∃ tb, t.extract k t.size = tb := ⟨_, rfl⟩
  have HTT := hid (show ta.size ≤ 10000 ∧ tb.size ≤ 10000 from ⟨by rw [← hta]; exact Nat.le_trans (ext_le _ _ _) (by omega), by rw [← htb]; exact Nat.le_trans (ext_le _ _ _) (by omega)⟩)
  go_region_law (first | (go_simp; go_at_call 27; refine (H10.out _ HS6.out.drew).mono ?_; rintro e wq ⟨q, rfl, hq, hSq⟩; have HSq := hid (HS6.out.drew.tr hSq); have hqi : (q : Int) < 10 := (by omega); have hq0 : (0 : Int) ≤ (q : Int) := (by omega); have hTV := (fun V : World => tE_new V q hq); have HQZ := hid (tE_size q); have c1 : (9223372036854775807 < ta.size + (tE q).size) = False := (eq_false (by have := tE_size q; have := HTT.out; omega)); have c2 : (9223372036854775807 < ta.size + (tE q).size + tb.size) = False := (eq_false (by have := tE_size q; have := HTT.out; omega)); clear hSq hq) | (go_simp; go_at_call 27; refine (H10.out _ (by first | exact (HS6.out.alloc _).drew | exact HS6.out.drew.alloc _)).mono ?_; rintro e wq ⟨q, rfl, hq, hSq⟩; have hcx : wq.cell? ⟨w6.heap.size, q, none⟩ = some (.string (tE q)) := (tE_kept w6 wq g q HS6.out.lt (by first | exact hSq.2.2 | exact gr_undrew hSq.2.2) hq); have HSq := hid (Sr.tr (by first | exact (HS6.out.alloc _).drew | exact HS6.out.drew.alloc _) hSq); have hqi : (q : Int) < 10 := (by omega); have hq0 : (0 : Int) ≤ (q : Int) := (by omega); have HQZ := hid (tE_size q); have c1 : (9223372036854775807 < ta.size + (tE q).size) = False := (eq_false (by have := tE_size q; have := HTT.out; omega)); have c2 : (9223372036854775807 < ta.size + (tE q).size + tb.size) = False := (eq_false (by have := tE_size q; have := HTT.out; omega)); clear hSq hq))
  all_goals
   go_wp2_with fail
   refine bodyPost_ret (v := .string (ta ++ tE q ++ tb)) (by simp [results, Tryz.results7, go_sem]) rfl ?_
   exact ⟨_, rfl, by have := HQZ.out; have := HTT.out; simp only [ByteArray.size_append]; omega, by first | exact HBL.out _ HSq.out | exact HBL.out _ (HSq.out.alloc _)⟩
 have e0 : ((r : Int) == 0) = false := beq_eq_false_iff_ne.2 (by omega)
 have e1 : ((r : Int) == 1) = false := beq_eq_false_iff_ne.2 (by omega)
 by_cases r2 : r = 2
 ·subst r2
  go_wp2_with (go_at_call 27; refine (H11.out _ (HS5.out.alloc _)).mono ?_; rintro e w6 ⟨q, rfl, hq, hS6⟩; have hcx := tF_kept w5 w6 g q HS5.out.lt hS6.2.2 hq; have HS6 := hid ((HS5.out.alloc _).tr hS6); have hqi : (q : Int) < 11 := (by omega); have hq0 : (0 : Int) ≤ (q : Int) := (by omega); clear hS6 hq)
  go_ret
  exact ⟨_, rfl, by have := tF_size q; omega, HBL.out _ HS6.out⟩
 have e2 : ((r : Int) == 2) = false := beq_eq_false_iff_ne.2 (by omega)
 by_cases r3 : r = 3
 ·subst r3
  go_wp2_with fail
  go_loop [4] (fun tv => ∃ u : ByteArray, tv = .string u ∧ u.size ≤ 2000) (fun tv => strOf tv)
  case atStart => exact ⟨t, rfl, hz⟩
  case round =>
   obtain ⟨u, rfl, hu⟩ := hrel
   by_cases hlt : u.size < 290
   ·have hli : (u.size : Int) < 290 := by omega
    have c1 : (9223372036854775807 < 1 + u.size) = False := eq_false (by omega)
    have c2 : (9223372036854775807 < 1 + u.size + 1) = False := eq_false (by omega)
    go_wp2_with fail
    go_round
    case rel => exact ⟨_, rfl, by simp only [ByteArray.size_append]; show 1 + u.size + 1 ≤ 2000; omega⟩
    case measure =>
     simp only [strOf, ByteArray.size_append]
     show 290 - (1 + u.size + 1) < 290 - u.size
     omega
   ·have hli : ¬ (u.size : Int) < 290 := by omega
    go_wp2_with (go_at_call 27; refine (H3.out _ (HS5.out.alloc _)).mono ?_; rintro e w6 ⟨q, rfl, hq, hS6⟩; have hcx := tG_kept w5 w6 g q HS5.out.lt hS6.2.2 hq; have HS6 := hid ((HS5.out.alloc _).tr hS6); have hqi : (q : Int) < 3 := (by omega); have hq0 : (0 : Int) ≤ (q : Int) := (by omega); have c1 : (9223372036854775807 < u.size + (tG q).size) = False := (eq_false (by have := tG_size q; omega)); clear hS6 hq)
    go_ret
    exact ⟨_, rfl, by have := tG_size q; simp only [ByteArray.size_append]; omega, HBL.out _ HS6.out⟩
 ·have e3 : ((r : Int) == 3) = false := beq_eq_false_iff_ne.2 (by omega)
  go_wp2_with fail
  go_ret
  exact ⟨_, rfl, by omega, HBL.out _ HS5.out⟩
end Go.Proofs.YtbamkklhkhglnaaGreatDoor.PeV
namespace Go.Proofs.YtbamkklhkhglnaaGreatDoor.PpB
open Go.RowKit Go.Lib Go.Proofs.YtbamkklhkhglnaaGreatDoor LbC LbN PeA PeB PeN

theorem Out.uniq {t : List UInt8} {L L' : List Nd} {p p' c c' : Int} (h : Out t L p c) (h' : Out t L' p' c') : L = L' ∧ p = p' ∧ c = c' := by
 cases h with
 | long h => cases h' <;> first | exact ⟨rfl, rfl, rfl⟩ | contradiction
 | err h hr =>
  cases h' with
  | long h' => contradiction
  | err h' hr' => have := hr.uniq hr'; injection this with e; subst e; exact ⟨rfl, rfl, rfl⟩
  | rest h' hr' _ => have := hr.uniq hr'; injection this
  | many h' hr' _ _ => have := hr.uniq hr'; injection this
  | good h' hr' _ _ => have := hr.uniq hr'; injection this
 | rest h hr hq =>
  cases h' with
  | long h' => contradiction
  | err h' hr' => have := hr.uniq hr'; injection this
  | rest h' hr' _ => have := hr.uniq hr'; injection this with e; injection e with e1 e2; subst e1; subst e2; exact ⟨rfl, rfl, rfl⟩
  | many h' hr' hq' _ => have := hr.uniq hr'; injection this with e; injection e with e1 e2; subst e2; contradiction
  | good h' hr' hq' _ => have := hr.uniq hr'; injection this with e; injection e with e1 e2; subst e2; contradiction
 | many h hr hq hl =>
  cases h' with
  | long h' => contradiction
  | err h' hr' => have := hr.uniq hr'; injection this
  | rest h' hr' hq' => have := hr.uniq hr'; injection this with e; injection e with e1 e2; subst e2; contradiction
  | many h' hr' hq' _ => exact ⟨rfl, rfl, rfl⟩
  | good h' hr' hq' hl' => have := hr.uniq hr'; injection this with e; injection e with e1 e2; subst e1; contradiction
 | good h hr hq hl =>
  cases h' with
  | long h' => contradiction
  | err h' hr' => have := hr.uniq hr'; injection this
  | rest h' hr' hq' => have := hr.uniq hr'; injection this with e; injection e with e1 e2; subst e2; contradiction
  | many h' hr' hq' hl' => have := hr.uniq hr'; injection this with e; injection e with e1 e2; subst e1; contradiction
  | good h' hr' hq' hl' => have := hr.uniq hr'; injection this with e; injection e with e1 e2; subst e1; subst e2; exact ⟨rfl, rfl, rfl⟩
theorem Out.len {t : List UInt8} {L : List Nd} {p c : Int} (h : Out t L p c) : c = 0 ∨ c = 3 ∨ c = 6 := by cases h <;> simp
theorem Out.place {t : List UInt8} {L : List Nd} {p : Int} (h : Out t L p 6) : ∃ q : Nat, p = (q : Int) := by cases h <;> exact ⟨_, rfl⟩
end Go.Proofs.YtbamkklhkhglnaaGreatDoor.PpB
namespace Go.Proofs.YtbamkklhkhglnaaGreatDoor.PfA
open Go.RowKit Go.Lib Go.Proofs.YtbamkklhkhglnaaGreatDoor Tow CyA CyB LbC LbD LbN PeA PeB PeE PpA PeT

def NdC (W : World) (v : Value) (L : List Nd) : Prop := NdS W v L ∧ ∀ a n c, v = .slice a n c → n ≤ c
theorem NdC.below {W W' : World} {v : Value} {L : List Nd} (h : NdC W v L) (hb : Below W.heap.size W W') : NdC W' v L := ⟨h.1.below hb, h.2⟩
theorem NdN.ndc {B : Nat} {W : World} {v : Value} {L : List Nd} (h : NdN B W v L) : NdC W v L := ⟨h.nds, h.cap_⟩
theorem NdC.cons {w : World} {v : Value} {x : Nd} {r : List Nd} (h : NdC w v (x :: r)) : ∃ b o c, v = .slice (some ⟨b, o, none⟩) (r.length + 1) c ∧ r.length + 1 ≤ c ∧ b < w.heap.size ∧
  (w.cell? ⟨b, o, none⟩ = some (.int .i64 x.k) ∧ w.cell? ⟨b, o + 1, none⟩ = some (.string x.t) ∧ w.cell? ⟨b, o + 2, none⟩ = some (.string x.m)) ∧
  (∀ a, r = [] → NdC w (.slice a r.length (c - 1)) r) ∧ (c ≠ 1 → NdC w (.slice (some ⟨b, o + 3, none⟩) r.length (c - 1)) r) := by
 obtain ⟨b, o, c, e, h2, h3, h4, h5⟩ := h.1.at_ 0 x rfl
 rw [List.length_cons] at e
 have hc := h.2 _ _ _ e
 have hz : 0 * 3 = 0 := rfl
 rw [show o + 0 * 3 = o by omega] at h3 h4 h5
 refine ⟨b, o, c, e, hc, h2, ⟨h3, h4, h5⟩, fun a hr => ?_, fun hc1 => ?_⟩
 ·subst hr
  exact ⟨⟨⟨_, _, rfl⟩, fun i y hy => by simp at hy⟩, fun a' n c' e' => by cases e'; simp⟩
 ·refine ⟨⟨⟨_, _, rfl⟩, fun i y hy => ?_⟩, fun a' n c' e' => by cases e'; omega⟩
  obtain ⟨b', o', c', e', k2, k3, k4, k5⟩ := h.1.at_ (i + 1) y (by simpa using hy)
  rw [e] at e'
  simp only [Value.slice.injEq, Option.some.injEq, Addr.mk.injEq, and_true, true_and] at e'
  obtain ⟨⟨rfl, rfl⟩, _⟩ := e'
  refine ⟨b, o + 3, _, rfl, k2, ?_, ?_, ?_⟩
  ·rw [show o + 3 + i * 3 = o + (i + 1) * 3 by omega]; exact k3
  ·rw [show o + 3 + i * 3 + 1 = o + (i + 1) * 3 + 1 by omega]; exact k4
  ·rw [show o + 3 + i * 3 + 2 = o + (i + 1) * 3 + 2 by omega]; exact k5
def XtR (T : List UInt8) (e : List Nd) (w : World) (en : Ending) (w' : World) : Prop := ∃ v, en = .returned (.tuple #[.string (ba T), v]) ∧ NdC w' v e ∧ Below w.heap.size w w'
theorem NdC.form {w : World} {v : Value} {L : List Nd} (h : NdC w v L) : ∃ a c, v = .slice a L.length c := h.1.form
theorem xt_lf0 (v : Value) (w : World) (x : Nd) (r : List Nd) (h : NdC w v (x :: r)) (hn : r.length ≤ 100000000) (hk : x.k = 0) (hz : x.t.size ≤ 1000000000000) :
  Calls Tryz.prog 33 #[v] w (XtR (leaf x) r w) := by
 obtain ⟨b, o, c, rfl, hc, hbl, ⟨q0, q1, q2⟩, H0, Hc⟩ := h.cons
 obtain ⟨g0, hg0⟩ : ∃ g0, w.heap.size = g0 := ⟨_, rfl⟩
 have hbg : b < g0 := by omega
 obtain ⟨n, hnr⟩ : ∃ n, r.length = n := ⟨_, rfl⟩
 have HN := hid hnr
 rw [hnr] at hc hn H0 Hc ⊢
 have hn1 : (1 : Int) ≤ (n : Int) + 1 := by omega
 obtain ⟨ra, hra⟩ : ∃ ra, (if c = 1 then some (⟨b, o, none⟩ : Addr) else some ⟨b, o + 3, none⟩) = ra := ⟨_, rfl⟩
 have HR := hid (show NdC w (.slice ra n (c - 1)) r from by
  rw [← hra]
  by_cases hc1 : c = 1
  ·rw [if_pos hc1]
   exact H0 _ (List.eq_nil_of_length_eq_zero (by rw [HN.out]; omega))
  ·rw [if_neg hc1]
   exact Hc hc1)
 obtain ⟨w1, hw1⟩ : ∃ w1, (w.alloc (.cells #[.int .i64 x.k, .string x.t, .string x.m] 63)).drew = w1 := ⟨_, rfl⟩
 have HB1 := hid (show Below w.heap.size w w1 by rw [← hw1]; exact ((Below.refl _ _).alloc (Nat.le_refl _) _).drew)
 have HX := hid (fun (W : World) (hb : Below w1.heap.size w1 W) => show g0 < W.heap.size ∧ W.cell? ⟨g0, 0, none⟩ = some (.int .i64 x.k) ∧ W.cell? ⟨g0, 1, none⟩ = some (.string x.t) ∧ W.cell? ⟨g0, 2, none⟩ = some (.string x.m) from by
  have hrow : w1.heap[g0]? = some (.cells #[.int .i64 x.k, .string x.t, .string x.m] 63 (0, 0)) := by rw [← hw1, ← hg0]; exact World.alloc_heap_new w _
  have hgl := (Array.getElem?_eq_some_iff.1 hrow).1
  exact ⟨Nat.lt_of_lt_of_le hgl hb.size, row3' (blk' hb hgl hrow)⟩)
 have s1 : (9223372036854775807 < 1 + x.t.size) = False := eq_false (by omega)
 have s2 : (9223372036854775807 < 1 + x.t.size + 1) = False := eq_false (by omega)
 have HL := hid (show leaf x = 123 :: (tx x ++ [125]) by unfold leaf; rw [if_pos hk])
 rw [hk] at HX q0 hw1
 clear h H0 Hc hnr
 go_enter Tryz.func33, Tryz.ntmps33
 go_wp2_with fail
 go_region
 (try simp only [hra, hw1, hg0])
 clear hra hw1 hg0 q0 q1 q2
 obtain ⟨hgl, r0, r1, r2⟩ := HX.out w1 (Below.refl _ _)
 go_wp2_with fail
 refine bodyPost_ret (v := .tuple #[.string (ba (leaf x)), .slice ra n (c - 1)]) (by simp [results, Tryz.results33, go_sem]; rw [HL.out]; exact (eq_ba (by simp [app_data, ba_data])).symm) rfl ?_
 exact ⟨_, rfl, HR.out.below HB1.out, HB1.out⟩
theorem xt_lf1 (v : Value) (w : World) (x : Nd) (r : List Nd) (h : NdC w v (x :: r)) (hn : r.length ≤ 100000000) (hk : x.k = 1) (hz : x.t.size ≤ 1000000000000) :
  Calls Tryz.prog 33 #[v] w (XtR (leaf x) r w) := by
 obtain ⟨b, o, c, rfl, hc, hbl, ⟨q0, q1, q2⟩, H0, Hc⟩ := h.cons
 obtain ⟨g0, hg0⟩ : ∃ g0, w.heap.size = g0 := ⟨_, rfl⟩
 have hbg : b < g0 := by omega
 obtain ⟨n, hnr⟩ : ∃ n, r.length = n := ⟨_, rfl⟩
 have HN := hid hnr
 rw [hnr] at hc hn H0 Hc ⊢
 have hn1 : (1 : Int) ≤ (n : Int) + 1 := by omega
 obtain ⟨ra, hra⟩ : ∃ ra, (if c = 1 then some (⟨b, o, none⟩ : Addr) else some ⟨b, o + 3, none⟩) = ra := ⟨_, rfl⟩
 have HR := hid (show NdC w (.slice ra n (c - 1)) r from by
  rw [← hra]
  by_cases hc1 : c = 1
  ·rw [if_pos hc1]
   exact H0 _ (List.eq_nil_of_length_eq_zero (by rw [HN.out]; omega))
  ·rw [if_neg hc1]
   exact Hc hc1)
 obtain ⟨w1, hw1⟩ : ∃ w1, (w.alloc (.cells #[.int .i64 x.k, .string x.t, .string x.m] 63)).drew = w1 := ⟨_, rfl⟩
 have HB1 := hid (show Below w.heap.size w w1 by rw [← hw1]; exact ((Below.refl _ _).alloc (Nat.le_refl _) _).drew)
 have HX := hid (fun (W : World) (hb : Below w1.heap.size w1 W) => show g0 < W.heap.size ∧ W.cell? ⟨g0, 0, none⟩ = some (.int .i64 x.k) ∧ W.cell? ⟨g0, 1, none⟩ = some (.string x.t) ∧ W.cell? ⟨g0, 2, none⟩ = some (.string x.m) from by
  have hrow : w1.heap[g0]? = some (.cells #[.int .i64 x.k, .string x.t, .string x.m] 63 (0, 0)) := by rw [← hw1, ← hg0]; exact World.alloc_heap_new w _
  have hgl := (Array.getElem?_eq_some_iff.1 hrow).1
  exact ⟨Nat.lt_of_lt_of_le hgl hb.size, row3' (blk' hb hgl hrow)⟩)
 have s1 : (9223372036854775807 < 1 + x.t.size) = False := eq_false (by omega)
 have s2 : (9223372036854775807 < 1 + x.t.size + 1) = False := eq_false (by omega)
 have HL := hid (show leaf x = 91 :: (tx x ++ [93]) by unfold leaf; rw [if_neg (by omega), if_pos hk])
 rw [hk] at HX q0 hw1
 clear h H0 Hc hnr
 go_enter Tryz.func33, Tryz.ntmps33
 go_wp2_with fail
 go_region
 (try simp only [hra, hw1, hg0])
 clear hra hw1 hg0 q0 q1 q2
 obtain ⟨hgl, r0, r1, r2⟩ := HX.out w1 (Below.refl _ _)
 go_wp2_with fail
 refine bodyPost_ret (v := .tuple #[.string (ba (leaf x)), .slice ra n (c - 1)]) (by simp [results, Tryz.results33, go_sem]; rw [HL.out]; exact (eq_ba (by simp [app_data, ba_data])).symm) rfl ?_
 exact ⟨_, rfl, HR.out.below HB1.out, HB1.out⟩
theorem xt_lf2 (v : Value) (w : World) (x : Nd) (r : List Nd) (h : NdC w v (x :: r)) (hn : r.length ≤ 100000000) (hk : x.k = 2) (hz : x.t.size ≤ 1000000000000) :
  Calls Tryz.prog 33 #[v] w (XtR (leaf x) r w) := by
 obtain ⟨b, o, c, rfl, hc, hbl, ⟨q0, q1, q2⟩, H0, Hc⟩ := h.cons
 obtain ⟨g0, hg0⟩ : ∃ g0, w.heap.size = g0 := ⟨_, rfl⟩
 have hbg : b < g0 := by omega
 obtain ⟨n, hnr⟩ : ∃ n, r.length = n := ⟨_, rfl⟩
 have HN := hid hnr
 rw [hnr] at hc hn H0 Hc ⊢
 have hn1 : (1 : Int) ≤ (n : Int) + 1 := by omega
 obtain ⟨ra, hra⟩ : ∃ ra, (if c = 1 then some (⟨b, o, none⟩ : Addr) else some ⟨b, o + 3, none⟩) = ra := ⟨_, rfl⟩
 have HR := hid (show NdC w (.slice ra n (c - 1)) r from by
  rw [← hra]
  by_cases hc1 : c = 1
  ·rw [if_pos hc1]
   exact H0 _ (List.eq_nil_of_length_eq_zero (by rw [HN.out]; omega))
  ·rw [if_neg hc1]
   exact Hc hc1)
 obtain ⟨w1, hw1⟩ : ∃ w1, (w.alloc (.cells #[.int .i64 x.k, .string x.t, .string x.m] 63)).drew = w1 := ⟨_, rfl⟩
 have HB1 := hid (show Below w.heap.size w w1 by rw [← hw1]; exact ((Below.refl _ _).alloc (Nat.le_refl _) _).drew)
 have HX := hid (fun (W : World) (hb : Below w1.heap.size w1 W) => show g0 < W.heap.size ∧ W.cell? ⟨g0, 0, none⟩ = some (.int .i64 x.k) ∧ W.cell? ⟨g0, 1, none⟩ = some (.string x.t) ∧ W.cell? ⟨g0, 2, none⟩ = some (.string x.m) from by
  have hrow : w1.heap[g0]? = some (.cells #[.int .i64 x.k, .string x.t, .string x.m] 63 (0, 0)) := by rw [← hw1, ← hg0]; exact World.alloc_heap_new w _
  have hgl := (Array.getElem?_eq_some_iff.1 hrow).1
  exact ⟨Nat.lt_of_lt_of_le hgl hb.size, row3' (blk' hb hgl hrow)⟩)
 have s1 : (9223372036854775807 < 1 + x.t.size) = False := eq_false (by omega)
 have s2 : (9223372036854775807 < 1 + x.t.size + 1) = False := eq_false (by omega)
 have HL := hid (show leaf x = tx x by unfold leaf; rw [if_neg (by omega), if_neg (by omega)])
 rw [hk] at HX q0 hw1
 clear h H0 Hc hnr
 go_enter Tryz.func33, Tryz.ntmps33
 go_wp2_with fail
 go_region
 (try simp only [hra, hw1, hg0])
 clear hra hw1 hg0 q0 q1 q2
 obtain ⟨hgl, r0, r1, r2⟩ := HX.out w1 (Below.refl _ _)
 go_wp2_with fail
 refine bodyPost_ret (v := .tuple #[.string (ba (leaf x)), .slice ra n (c - 1)]) (by simp [results, Tryz.results33, go_sem]; rw [HL.out]; exact (eq_ba (by simp [app_data, ba_data])).symm) rfl ?_
 exact ⟨_, rfl, HR.out.below HB1.out, HB1.out⟩
theorem xt_pr (v : Value) (w : World) (x : Nd) (r : List Nd) (h : NdC w v (x :: r)) (hn : r.length ≤ 100000000) (hk : x.k = 3) (y : Nd) (m e : List Nd) (a b2 : List UInt8) (hz : a.length + b2.length + 2 ≤ 1000000000000) (H1 : ∀ W u, Below w.heap.size w W → NdC W u r → Calls Tryz.prog 33 #[u] W (XtR a (y :: m) W)) (H2 : ∀ W u, NdC W u (y :: m) → Calls Tryz.prog 48 #[u] W (XtR (grp y b2) e W)) :
  Calls Tryz.prog 33 #[v] w (XtR (a ++ 43 :: grp y b2) e w) := by
 obtain ⟨b, o, c, rfl, hc, hbl, ⟨q0, q1, q2⟩, H0, Hc⟩ := h.cons
 obtain ⟨g0, hg0⟩ : ∃ g0, w.heap.size = g0 := ⟨_, rfl⟩
 have hbg : b < g0 := by omega
 obtain ⟨n, hnr⟩ : ∃ n, r.length = n := ⟨_, rfl⟩
 have HN := hid hnr
 rw [hnr] at hc hn H0 Hc ⊢
 have hn1 : (1 : Int) ≤ (n : Int) + 1 := by omega
 obtain ⟨ra, hra⟩ : ∃ ra, (if c = 1 then some (⟨b, o, none⟩ : Addr) else some ⟨b, o + 3, none⟩) = ra := ⟨_, rfl⟩
 have HR := hid (show NdC w (.slice ra n (c - 1)) r from by
  rw [← hra]
  by_cases hc1 : c = 1
  ·rw [if_pos hc1]
   exact H0 _ (List.eq_nil_of_length_eq_zero (by rw [HN.out]; omega))
  ·rw [if_neg hc1]
   exact Hc hc1)
 obtain ⟨w1, hw1⟩ : ∃ w1, (w.alloc (.cells #[.int .i64 x.k, .string x.t, .string x.m] 63)).drew = w1 := ⟨_, rfl⟩
 have HB1 := hid (show Below w.heap.size w w1 by rw [← hw1]; exact ((Below.refl _ _).alloc (Nat.le_refl _) _).drew)
 have HX := hid (fun (W : World) (hb : Below w1.heap.size w1 W) => show g0 < W.heap.size ∧ W.cell? ⟨g0, 0, none⟩ = some (.int .i64 x.k) ∧ W.cell? ⟨g0, 1, none⟩ = some (.string x.t) ∧ W.cell? ⟨g0, 2, none⟩ = some (.string x.m) from by
  have hrow : w1.heap[g0]? = some (.cells #[.int .i64 x.k, .string x.t, .string x.m] 63 (0, 0)) := by rw [← hw1, ← hg0]; exact World.alloc_heap_new w _
  have hgl := (Array.getElem?_eq_some_iff.1 hrow).1
  exact ⟨Nat.lt_of_lt_of_le hgl hb.size, row3' (blk' hb hgl hrow)⟩)
 have hgz := grp_len y b2
 obtain ⟨gb, hgb⟩ : ∃ gb, grp y b2 = gb := ⟨_, rfl⟩
 rw [hgb] at H2 hgz ⊢
 obtain ⟨sa, hsa⟩ : ∃ sa, ba a = sa := ⟨_, rfl⟩
 obtain ⟨sb, hsb⟩ : ∃ sb, ba gb = sb := ⟨_, rfl⟩
 have hza : sa.size + sb.size ≤ 1000000000000 := by rw [← hsa, ← hsb]; show a.length + gb.length ≤ _; omega
 have H1 := hid (fun (W : World) (hb : Below w.heap.size w W) => show Calls Tryz.prog 33 #[.slice ra n (c - 1)] W (fun en w' => ∃ u, en = .returned (.tuple #[.string sa, u]) ∧ NdC w' u (y :: m) ∧ Below W.heap.size W w') from by have h := H1 W _ hb (HR.out.below hb); unfold XtR at h; rw [hsa] at h; exact h)
 have H2 := hid (fun (W : World) (u : Value) (hu : NdC W u (y :: m)) => show Calls Tryz.prog 48 #[u] W (fun en w' => ∃ u, en = .returned (.tuple #[.string sb, u]) ∧ NdC w' u e ∧ Below W.heap.size W w') from by have h := H2 W u hu; unfold XtR at h; rw [hsb] at h; exact h)
 have HE := hid (show sa.data.toList = a ∧ sb.data.toList = gb from ⟨by rw [← hsa]; rfl, by rw [← hsb]; rfl⟩)
 have s3 : (9223372036854775807 < sa.size + 1) = False := eq_false (by omega)
 have s4 : (9223372036854775807 < sa.size + 1 + sb.size) = False := eq_false (by omega)
 rw [hk] at HX q0 hw1
 clear hsa hsb hza hgz hgb
 clear h H0 Hc hnr
 go_enter Tryz.func33, Tryz.ntmps33
 go_wp2_with fail
 go_region
 (try simp only [hra, hw1, hg0])
 clear hra hw1 hg0 q0 q1 q2
 obtain ⟨hgl, r0, r1, r2⟩ := HX.out w1 (Below.refl _ _)
 go_wp2_with (first | (go_at_call 33; refine (H1.out _ HB1.out).mono ?_; rintro en w2 ⟨u2, rfl, hn2, hb2⟩; have HN2 := hid hn2; have HB2 := hid (HB1.out.trans (hb2.mono HB1.out.size)); obtain ⟨a2, c2, rfl⟩ := hn2.form; clear hn2 hb2) | (go_at_call 48; refine (H2.out _ _ HN2.out).mono ?_; rintro en w3 ⟨u3, rfl, hn3, hb3⟩; have HN3 := hid hn3; have HB3 := hid (HB2.out.trans (hb3.mono HB2.out.size)); obtain ⟨a3, c3, rfl⟩ := hn3.form; clear hn3 hb3))
 refine bodyPost_ret (v := .tuple #[.string (ba (a ++ 43 :: gb)), .slice a3 e.length c3]) (by simp [results, Tryz.results33, go_sem]; exact (eq_ba (by simp [app_data, ba_data, HE.out.1, HE.out.2])).symm) rfl ?_
 exact ⟨_, rfl, HN3.out, HB3.out⟩
theorem xt_qt (v : Value) (w : World) (x : Nd) (r : List Nd) (h : NdC w v (x :: r)) (hn : r.length ≤ 100000000) (hk : x.k = 4) (y : Nd) (e : List Nd) (ga : List UInt8) (hz : ga.length + x.m.size ≤ 1000000000000) (H2 : ∀ W u, Below w.heap.size w W → NdC W u r → Calls Tryz.prog 48 #[u] W (XtR ga e W)) :
  Calls Tryz.prog 33 #[v] w (XtR (ga ++ 47 :: mk x) e w) := by
 obtain ⟨b, o, c, rfl, hc, hbl, ⟨q0, q1, q2⟩, H0, Hc⟩ := h.cons
 obtain ⟨g0, hg0⟩ : ∃ g0, w.heap.size = g0 := ⟨_, rfl⟩
 have hbg : b < g0 := by omega
 obtain ⟨n, hnr⟩ : ∃ n, r.length = n := ⟨_, rfl⟩
 have HN := hid hnr
 rw [hnr] at hc hn H0 Hc ⊢
 have hn1 : (1 : Int) ≤ (n : Int) + 1 := by omega
 obtain ⟨ra, hra⟩ : ∃ ra, (if c = 1 then some (⟨b, o, none⟩ : Addr) else some ⟨b, o + 3, none⟩) = ra := ⟨_, rfl⟩
 have HR := hid (show NdC w (.slice ra n (c - 1)) r from by
  rw [← hra]
  by_cases hc1 : c = 1
  ·rw [if_pos hc1]
   exact H0 _ (List.eq_nil_of_length_eq_zero (by rw [HN.out]; omega))
  ·rw [if_neg hc1]
   exact Hc hc1)
 obtain ⟨w1, hw1⟩ : ∃ w1, (w.alloc (.cells #[.int .i64 x.k, .string x.t, .string x.m] 63)).drew = w1 := ⟨_, rfl⟩
 have HB1 := hid (show Below w.heap.size w w1 by rw [← hw1]; exact ((Below.refl _ _).alloc (Nat.le_refl _) _).drew)
 have HX := hid (fun (W : World) (hb : Below w1.heap.size w1 W) => show g0 < W.heap.size ∧ W.cell? ⟨g0, 0, none⟩ = some (.int .i64 x.k) ∧ W.cell? ⟨g0, 1, none⟩ = some (.string x.t) ∧ W.cell? ⟨g0, 2, none⟩ = some (.string x.m) from by
  have hrow : w1.heap[g0]? = some (.cells #[.int .i64 x.k, .string x.t, .string x.m] 63 (0, 0)) := by rw [← hw1, ← hg0]; exact World.alloc_heap_new w _
  have hgl := (Array.getElem?_eq_some_iff.1 hrow).1
  exact ⟨Nat.lt_of_lt_of_le hgl hb.size, row3' (blk' hb hgl hrow)⟩)
 obtain ⟨sb, hsb⟩ : ∃ sb, ba ga = sb := ⟨_, rfl⟩
 obtain ⟨sm, hsm⟩ : ∃ sm, x.m = sm := ⟨_, rfl⟩
 have hza : sb.size + sm.size ≤ 1000000000000 := by rw [← hsb, ← hsm]; exact hz
 have H2 := hid (fun (W : World) (hb : Below w.heap.size w W) => show Calls Tryz.prog 48 #[.slice ra n (c - 1)] W (fun en w' => ∃ u, en = .returned (.tuple #[.string sb, u]) ∧ NdC w' u e ∧ Below W.heap.size W w') from by have h := H2 W _ hb (HR.out.below hb); unfold XtR at h; rw [hsb] at h; exact h)
 have HE := hid (show sb.data.toList = ga ∧ mk x = sm.data.toList from ⟨by rw [← hsb]; rfl, by rw [← hsm]⟩)
 have s3 : (9223372036854775807 < sb.size + 1) = False := eq_false (by omega)
 have s4 : (9223372036854775807 < sb.size + 1 + sm.size) = False := eq_false (by omega)
 rw [hk] at HX q0 hw1
 rw [hsm] at HX q2 hw1
 clear hsb hsm hza
 clear h H0 Hc hnr
 go_enter Tryz.func33, Tryz.ntmps33
 go_wp2_with fail
 go_region
 (try simp only [hra, hw1, hg0])
 clear hra hw1 hg0 q0 q1 q2
 obtain ⟨hgl, r0, r1, r2⟩ := HX.out w1 (Below.refl _ _)
 go_wp2_with (go_at_call 48; refine (H2.out _ HB1.out).mono ?_; rintro en w2 ⟨u2, rfl, hn2, hb2⟩; have HN2 := hid hn2; have HB2 := hid (HB1.out.trans (hb2.mono HB1.out.size)); obtain ⟨a2, c2, rfl⟩ := hn2.form; clear hgl r0 r1 r2; obtain ⟨hgl, r0, r1, r2⟩ := HX.out w2 hb2; clear hn2 hb2)
 refine bodyPost_ret (v := .tuple #[.string (ba (ga ++ 47 :: mk x)), .slice a2 e.length c2]) (by simp [results, Tryz.results33, go_sem]; rw [HE.out.2]; exact (eq_ba (by simp [app_data, ba_data, HE.out.1])).symm) rfl ?_
 exact ⟨_, rfl, HN2.out, HB2.out⟩
theorem xt_pt (v : Value) (w : World) (x : Nd) (r : List Nd) (h : NdC w v (x :: r)) (hn : r.length ≤ 100000000) (hk : x.k = 5) (e : List Nd) (a : List UInt8) (hz : a.length + x.m.size ≤ 1000000000000) (H1 : ∀ W u, Below w.heap.size w W → NdC W u r → Calls Tryz.prog 33 #[u] W (XtR a e W)) :
  Calls Tryz.prog 33 #[v] w (XtR (mk x ++ 40 :: (a ++ [41])) e w) := by
 obtain ⟨b, o, c, rfl, hc, hbl, ⟨q0, q1, q2⟩, H0, Hc⟩ := h.cons
 obtain ⟨g0, hg0⟩ : ∃ g0, w.heap.size = g0 := ⟨_, rfl⟩
 have hbg : b < g0 := by omega
 obtain ⟨n, hnr⟩ : ∃ n, r.length = n := ⟨_, rfl⟩
 have HN := hid hnr
 rw [hnr] at hc hn H0 Hc ⊢
 have hn1 : (1 : Int) ≤ (n : Int) + 1 := by omega
 obtain ⟨ra, hra⟩ : ∃ ra, (if c = 1 then some (⟨b, o, none⟩ : Addr) else some ⟨b, o + 3, none⟩) = ra := ⟨_, rfl⟩
 have HR := hid (show NdC w (.slice ra n (c - 1)) r from by
  rw [← hra]
  by_cases hc1 : c = 1
  ·rw [if_pos hc1]
   exact H0 _ (List.eq_nil_of_length_eq_zero (by rw [HN.out]; omega))
  ·rw [if_neg hc1]
   exact Hc hc1)
 obtain ⟨w1, hw1⟩ : ∃ w1, (w.alloc (.cells #[.int .i64 x.k, .string x.t, .string x.m] 63)).drew = w1 := ⟨_, rfl⟩
 have HB1 := hid (show Below w.heap.size w w1 by rw [← hw1]; exact ((Below.refl _ _).alloc (Nat.le_refl _) _).drew)
 have HX := hid (fun (W : World) (hb : Below w1.heap.size w1 W) => show g0 < W.heap.size ∧ W.cell? ⟨g0, 0, none⟩ = some (.int .i64 x.k) ∧ W.cell? ⟨g0, 1, none⟩ = some (.string x.t) ∧ W.cell? ⟨g0, 2, none⟩ = some (.string x.m) from by
  have hrow : w1.heap[g0]? = some (.cells #[.int .i64 x.k, .string x.t, .string x.m] 63 (0, 0)) := by rw [← hw1, ← hg0]; exact World.alloc_heap_new w _
  have hgl := (Array.getElem?_eq_some_iff.1 hrow).1
  exact ⟨Nat.lt_of_lt_of_le hgl hb.size, row3' (blk' hb hgl hrow)⟩)
 obtain ⟨sb, hsb⟩ : ∃ sb, ba a = sb := ⟨_, rfl⟩
 obtain ⟨sm, hsm⟩ : ∃ sm, x.m = sm := ⟨_, rfl⟩
 have hza : sb.size + sm.size ≤ 1000000000000 := by rw [← hsb, ← hsm]; exact hz
 have H1 := hid (fun (W : World) (hb : Below w.heap.size w W) => show Calls Tryz.prog 33 #[.slice ra n (c - 1)] W (fun en w' => ∃ u, en = .returned (.tuple #[.string sb, u]) ∧ NdC w' u e ∧ Below W.heap.size W w') from by have h := H1 W _ hb (HR.out.below hb); unfold XtR at h; rw [hsb] at h; exact h)
 have HE := hid (show sb.data.toList = a ∧ mk x = sm.data.toList from ⟨by rw [← hsb]; rfl, by rw [← hsm]⟩)
 have s3 : (9223372036854775807 < sm.size + 1) = False := eq_false (by omega)
 have s4 : (9223372036854775807 < sm.size + 1 + sb.size) = False := eq_false (by omega)
 have s5 : (9223372036854775807 < sm.size + 1 + sb.size + 1) = False := eq_false (by omega)
 rw [hk] at HX q0 hw1
 rw [hsm] at HX q2 hw1
 clear hsb hsm hza
 clear h H0 Hc hnr
 go_enter Tryz.func33, Tryz.ntmps33
 go_wp2_with fail
 go_region
 (try simp only [hra, hw1, hg0])
 clear hra hw1 hg0 q0 q1 q2
 obtain ⟨hgl, r0, r1, r2⟩ := HX.out w1 (Below.refl _ _)
 go_wp2_with (go_at_call 33; refine (H1.out _ HB1.out).mono ?_; rintro en w2 ⟨u2, rfl, hn2, hb2⟩; have HN2 := hid hn2; have HB2 := hid (HB1.out.trans (hb2.mono HB1.out.size)); obtain ⟨a2, c2, rfl⟩ := hn2.form; clear hgl r0 r1 r2; obtain ⟨hgl, r0, r1, r2⟩ := HX.out w2 hb2; clear hn2 hb2)
 refine bodyPost_ret (v := .tuple #[.string (ba (mk x ++ 40 :: (a ++ [41]))), .slice a2 e.length c2]) (by simp [results, Tryz.results33, go_sem]; rw [HE.out.2]; exact (eq_ba (by simp [app_data, ba_data, HE.out.1])).symm) rfl ?_
 exact ⟨_, rfl, HN2.out, HB2.out⟩
theorem gt_of (v : Value) (w : World) (y : Nd) (r e : List Nd) (a : List UInt8) (h : NdC w v (y :: r)) (hz : a.length ≤ 1000000000000) (H1 : Calls Tryz.prog 33 #[v] w (XtR a e w)) :
  Calls Tryz.prog 48 #[v] w (XtR (grp y a) e w) := by
 obtain ⟨b, o, c, rfl, hc, hbl, ⟨q0, q1, q2⟩, -, -⟩ := h.cons
 obtain ⟨sa, hsa⟩ : ∃ sa, ba a = sa := ⟨_, rfl⟩
 have hza : sa.size ≤ 1000000000000 := by rw [← hsa]; exact hz
 obtain ⟨n, hnr⟩ : ∃ n, r.length = n := ⟨_, rfl⟩
 rw [hnr] at H1 ⊢
 have H1 := hid (show Calls Tryz.prog 33 #[.slice (some ⟨b, o, none⟩) (n + 1) c] w (fun en w' => ∃ u, en = .returned (.tuple #[.string sa, u]) ∧ NdC w' u e ∧ Below w.heap.size w w') from by unfold XtR at H1; rw [hsa] at H1; exact H1)
 have HE := hid (show sa.data.toList = a by rw [← hsa]; rfl)
 have HQ := hid (fun (W : World) (hb : Below w.heap.size w W) => show W.cell? ⟨b, o, none⟩ = some (.int .i64 y.k) ∧ b < W.heap.size from ⟨(hb.cell (p := ⟨b, _, none⟩) hbl).trans q0, Nat.lt_of_lt_of_le hbl hb.size⟩)
 have s1 : (9223372036854775807 < 1 + sa.size) = False := eq_false (by omega)
 have s2 : (9223372036854775807 < 1 + sa.size + 1) = False := eq_false (by omega)
 clear h hc hbl q0 q1 q2 hsa hza hnr
 go_enter Tryz.func48, Tryz.ntmps48
 go_upto_region 2 with (go_at_call 33; refine H1.out.mono ?_; rintro en w2 ⟨u2, rfl, hn2, hb2⟩; have HN2 := hid hn2; have HB2 := hid hb2; obtain ⟨a2, c2, rfl⟩ := hn2.form; clear hn2 hb2)
 obtain ⟨k0, kl⟩ := HQ.out w2 HB2.out
 by_cases e3 : y.k = 3
 ·have HG := hid (show grp y a = 40 :: (a ++ [41]) from if_pos e3)
  rw [e3] at k0
  clear e3
  go_wp2_with fail
  refine bodyPost_ret (v := .tuple #[.string (ba (grp y a)), .slice a2 e.length c2]) (by simp [results, Tryz.results48, go_sem]; rw [HG.out]; exact (eq_ba (by simp [app_data, ba_data, HE.out])).symm) rfl ?_
  exact ⟨_, rfl, HN2.out, HB2.out⟩
 ·have HG := hid (show grp y a = a from if_neg e3)
  have e4 : (y.k == 3) = false := beq_eq_false_iff_ne.2 e3
  clear e3
  go_wp2_with fail
  refine bodyPost_ret (v := .tuple #[.string (ba (grp y a)), .slice a2 e.length c2]) (by simp [results, Tryz.results48, go_sem]; rw [HG.out]; exact (eq_ba (by simp [app_data, ba_data, HE.out])).symm) rfl ?_
  exact ⟨_, rfl, HN2.out, HB2.out⟩
theorem xt_any {M e : List Nd} {T : List UInt8} (hS : Shp M T e) (hz : costs M ≤ 100000000000) (hn : M.length ≤ 100000000) : ∀ (w : World) (v : Value), NdC w v M → Calls Tryz.prog 33 #[v] w (XtR T e w) := by
 induction hS with
 | @lf x r h =>
  intro w v hv
  rw [costs_cons] at hz
  unfold cost at hz
  rw [List.length_cons] at hn
  rcases h with h | h | h
  ·exact xt_lf0 v w x r hv (by omega) h (by omega)
  ·exact xt_lf1 v w x r hv (by omega) h (by omega)
  ·exact xt_lf2 v w x r hv (by omega) h (by omega)
 | @pr x y r m e a b hk h1 h2 ih1 ih2 =>
  intro w v hv
  have hc1 := h1.cost
  have hc2 := h2.cost
  have hp := h1.pos
  rw [costs_cons] at hz
  rw [List.length_cons] at hn
  have hgr : ∀ W u, NdC W u (y :: m) → Calls Tryz.prog 48 #[u] W (XtR (grp y b) e W) := fun W u hu => gt_of u W y m e b hu (by omega) (ih2 (by omega) (by omega) W u hu)
  exact xt_pr v w x r hv (by omega) hk y m e a b (by omega) (fun W u _ hu => ih1 (by omega) (by omega) W u hu) hgr
 | @qt x y r e a hk h1 ih =>
  intro w v hv
  have hc1 := h1.cost
  have hgl := grp_len y a
  rw [costs_cons] at hz
  unfold cost at hz
  rw [List.length_cons] at hn
  exact xt_qt v w x (y :: r) hv (by omega) hk y e (grp y a) (by omega) (fun W u _ hu => gt_of u W y r e a hu (by omega) (ih (by omega) (by omega) W u hu))
 | @pt x r e a hk h1 ih =>
  intro w v hv
  have hc1 := h1.cost
  rw [costs_cons] at hz
  unfold cost at hz
  rw [List.length_cons] at hn
  exact xt_pt v w x r hv (by omega) hk e a (by omega) (fun W u _ hu => ih (by omega) (by omega) W u hu)
end Go.Proofs.YtbamkklhkhglnaaGreatDoor.PfA
namespace Go.Proofs.YtbamkklhkhglnaaGreatDoor.PfB
open Go.RowKit Go.Lib Go.Proofs.YtbamkklhkhglnaaGreatDoor Tow CyA CyB LbC LbD LbN PeA PeB PeE PpA PeT PfA TrA

theorem exs_all : ∀ (l : List Int) (o : Int), exs l o = true → ∀ k ∈ l, 0 ≤ k
 | [], _, _, k, hk => absurd hk (by simp)
 | a :: l, o, h, k, hk => by
  rw [exs] at h
  split at h
  ·exact absurd h (by simp)
  ·rename_i hb
   rcases List.mem_cons.1 hk with rfl | hk
   ·omega
   ·exact exs_all l _ h k hk
theorem nds_at {w : World} {a : Option Addr} {n c : Nat} {L : List Nd} (h : NdS w (.slice a n c) L) {W : World} (hb : Below w.heap.size w W) {i : Nat} {x : Nd} (hx : L[i]? = some x) :
  ∃ b o, a = some ⟨b, o, none⟩ ∧ b < W.heap.size ∧ W.cell? ⟨b, o + i * 3, none⟩ = some (.int .i64 x.k) ∧ W.cell? ⟨b, o + i * 3 + 1, none⟩ = some (.string x.t) ∧ W.cell? ⟨b, o + i * 3 + 2, none⟩ = some (.string x.m) := by
 obtain ⟨b, o, c', h1, h2, h3, h4, h5⟩ := (h.below hb).at_ i x hx
 have : a = some ⟨b, o, none⟩ := (Value.slice.inj h1).1
 exact ⟨b, o, this, h2, h3, h4, h5⟩
theorem ex_costs {L : List Nd} (h : isEx L = true) (hz : Szs L) : costs L ≤ 100000000000 ∧ L.length ≤ 30 := by
 have hl := (isEx_len h).2
 refine ⟨?_, hl⟩
 have hops : ∀ x ∈ L, 0 ≤ x.ops := fun x hx => by
  unfold isEx at h
  rw [Bool.and_eq_true] at h
  exact exs_all _ _ h.2 _ (List.mem_map_of_mem hx)
 have hm : ∀ x ∈ L, x.m.size ≤ 1 := fun x hx => by
  rw [← mk_len]
  rcases ops_cases x (hops x hx) with (h1 | h1 | h1) | h1 | h1
  ·rw [h1.2.2]; simp
  ·rw [h1.2.2]; simp
  ·rw [h1.2.2]; simp
  ·rw [h1.2.2]; simp
  ·have h2 := h1.2.2
   unfold isMk at h2
   simp only [Bool.or_eq_true, beq_iff_eq] at h2
   rcases h2 with (h2 | h2) | h2 <;> rw [h2] <;> simp
 have key : ∀ M : List Nd, (∀ x ∈ M, x ∈ L) → costs M ≤ 200000000 * M.length := by
  intro M
  induction M with
  | nil => intro _; simp [costs]
  | cons x M ih =>
   intro hM
   rw [costs_cons, List.length_cons]
   have h1 := hz x (hM x (by simp))
   have h2 := hm x (hM x (by simp))
   have h3 := ih (fun y hy => hM y (by simp [hy]))
   unfold cost
   omega
 have := key L (fun x hx => hx)
 omega
def ExR (L : List Nd) (w : World) (e : Ending) (w' : World) : Prop := ∃ (T : List UInt8) (c : Int), e = .returned (.tuple #[.string (ba T), .int .i64 c]) ∧ Below w.heap.size w w' ∧ ((isEx L = true ∧ c = 0 ∧ Prn L T []) ∨ (isEx L = false ∧ c = 1 ∧ T = []))
theorem iet_any (L : List Nd) (v : Value) (w : World) (h : NdC w v L) (hz : Szs L) (hn : L.length ≤ 1000) (hv : Vars w) :
  Calls Tryz.prog 11 #[v] w (ExR L w) := by
 have HI := LbK.isx_any L v w h.1 hz (by omega) hv
 have HH := hid h
 cases hx : isEx L with
 | false =>
  rw [hx] at HI
  have HI := hid HI
  have HX := hid hx
  clear h hz hv hx
  obtain ⟨a, c, rfl⟩ := HH.out.form
  go_enter Tryz.func11, Tryz.ntmps11
  go_wp2_with (go_at_call 32; refine HI.out.mono ?_; rintro e w1 ⟨rfl, hb1⟩; have HB1 := hid hb1; clear hb1)
  refine bodyPost_ret (v := .tuple #[.string (ba []), .int .i64 1]) (by simp [results, Tryz.results11, go_sem, ba]) rfl ?_
  exact ⟨[], 1, rfl, HB1.out, .inr ⟨HX.out, rfl, rfl⟩⟩
 | true =>
  rw [hx] at HI
  have HI := hid HI
  have HX := hid hx
  obtain ⟨T, hT⟩ := isEx_prn hx
  have HT := hid hT
  have HC := hid (ex_costs hx hz)
  clear h hz hv hx hT
  obtain ⟨a, c, rfl⟩ := HH.out.form
  have HXT := hid (fun (W : World) (hb : Below w.heap.size w W) => xt_any (Shp.of HT.out) HC.out.1 (by have := HC.out.2; omega) W _ (HH.out.below hb))
  go_enter Tryz.func11, Tryz.ntmps11
  go_wp2_with (first | (go_at_call 32; refine HI.out.mono ?_; rintro e w1 ⟨rfl, hb1⟩; have HB1 := hid hb1; clear hb1) | (go_at_call 33; refine (HXT.out _ HB1.out).mono ?_; rintro e w2 ⟨u2, rfl, hn2, hb2⟩; obtain ⟨a2, c2, rfl⟩ := hn2.form; have HB2 := hid (HB1.out.trans (hb2.mono HB1.out.size)); clear hn2 hb2))
  refine bodyPost_ret (v := .tuple #[.string (ba T), .int .i64 0]) (by simp [results, Tryz.results11, go_sem]) rfl ?_
  exact ⟨T, 0, rfl, HB2.out, .inl ⟨HX.out, rfl, HT.out⟩⟩
theorem set_any (L : List Nd) (v : Value) (w : World) (h : NdC w v L) (hz : Szs L) (hn : L.length ≤ 1000) :
  Calls Tryz.prog 12 #[v] w (ExR L w) := by
 have HI := LbL.sx_any L v w h.1 hz (by omega)
 have HH := hid h
 cases hx : isEx L with
 | false =>
  rw [hx] at HI
  have HI := hid HI
  have HX := hid hx
  clear h hz hx
  obtain ⟨a, c, rfl⟩ := HH.out.form
  go_enter Tryz.func12, Tryz.ntmps12
  go_wp2_with (go_at_call 34; refine HI.out.mono ?_; rintro e w1 ⟨rfl, hb1⟩; have HB1 := hid hb1; clear hb1)
  refine bodyPost_ret (v := .tuple #[.string (ba []), .int .i64 1]) (by simp [results, Tryz.results12, go_sem, ba]) rfl ?_
  exact ⟨[], 1, rfl, HB1.out, .inr ⟨HX.out, rfl, rfl⟩⟩
 | true =>
  rw [hx] at HI
  have HI := hid HI
  have HX := hid hx
  obtain ⟨T, hT⟩ := isEx_prn hx
  have HT := hid hT
  have HC := hid (ex_costs hx hz)
  clear h hz hx hT
  obtain ⟨a, c, rfl⟩ := HH.out.form
  have HXT := hid (fun (W : World) (hb : Below w.heap.size w W) => show Calls Tryz.prog 25 #[.slice a L.length c, .int .i64 0] W (PrS T L.length W) from spr_any L _ (by have := HC.out.2; omega) HC.out.1 (Shp.of HT.out) W 0 rfl (HH.out.1.below hb))
  go_enter Tryz.func12, Tryz.ntmps12
  go_wp2_with (first | (go_at_call 34; refine HI.out.mono ?_; rintro e w1 ⟨rfl, hb1⟩; have HB1 := hid hb1; clear hb1) | (go_at_call 25; refine (HXT.out _ HB1.out).mono ?_; rintro e w2 ⟨rfl, hb2⟩; have HB2 := hid (HB1.out.trans (hb2.mono HB1.out.size)); clear hb2))
  refine bodyPost_ret (v := .tuple #[.string (ba T), .int .i64 0]) (by simp [results, Tryz.results12, go_sem]) rfl ?_
  exact ⟨T, 0, rfl, HB2.out, .inl ⟨HX.out, rfl, HT.out⟩⟩
theorem iie_any (L : List Nd) (v : Value) (w : World) (h : NdS w v L) (hz : Szs L) (hn : L.length ≤ 1000) (hv : Vars w) :
  Calls Tryz.prog 14 #[v] w (BxR (isEx L) w) := by
 have HI := hid (LbK.isx_any L v w h hz (by omega) hv)
 obtain ⟨a, c, rfl⟩ := h.form
 clear h hz hv
 go_enter Tryz.func14, Tryz.ntmps14
 go_wp2_with (go_at_call 32; refine HI.out.mono ?_; rintro e w1 ⟨rfl, hb1⟩; have HB1 := hid hb1; clear hb1)
 go_ret
 exact ⟨rfl, HB1.out⟩
theorem like_any (L : List Nd) (v1 v2 : Value) (w : World) (h1 : NdS w v1 L) (h2 : NdS w v2 L) (hl : L.length ≤ 100000000) :
  Calls Tryz.prog 13 #[v1, v2] w (fun e w' => e = .returned (.bool true) ∧ Below w.heap.size w w') := by
 obtain ⟨a1, c1, rfl⟩ := h1.form
 obtain ⟨a2, c2, rfl⟩ := h2.form
 obtain ⟨n, hn⟩ : ∃ n, L.length = n := ⟨_, rfl⟩
 have HN := hid hn
 rw [hn] at h1 h2 hl ⊢
 have HA1 := hid (fun (W : World) (hb : Below w.heap.size w W) (i : Nat) (x : Nd) (hx : L[i]? = some x) => nds_at h1 hb hx)
 have HA2 := hid (fun (W : World) (hb : Below w.heap.size w W) (i : Nat) (x : Nd) (hx : L[i]? = some x) => nds_at h2 hb hx)
 have hl9 : (n : Int) ≤ 9223372036854775807 := by omega
 clear h1 h2 hn hl
 go_enter Tryz.func13, Tryz.ntmps13
 go_wp2_with fail
 go_loopw [5] (fun iv wr => ∃ (i : Nat), i ≤ n ∧ iv = .int .i64 (i : Int) ∧ Hid (Below w.heap.size w wr)) (fun iv _ => n - (intOf iv).toNat)
 case atStart => exact ⟨0, Nat.zero_le _, rfl, hid (Below.refl _ _)⟩
 case round =>
  obtain ⟨i, hi, rfl, HB⟩ := hrel
  by_cases hlt : i < n
  ·have hki : (i : Int) < (n : Int) := by omega
   have hi64 : (i : Int) + 1 ≤ 9223372036854775807 := by omega
   obtain ⟨x, hx⟩ : ∃ x, L[i]? = some x := ⟨_, List.getElem?_eq_getElem (by rw [HN.out]; exact hlt)⟩
   obtain ⟨b1, o1, rfl, hb1, p0, p1, p2⟩ := HA1.out wr HB.out i x hx
   obtain ⟨b2, o2, rfl, hb2, q0, q1, q2⟩ := HA2.out wr HB.out i x hx
   clear hx
   go_upto_region 6 with fail
   go_region
   all_goals
    go_wp2_with fail
    go_roundw
    case rel => exact ⟨i + 1, by omega, by go_num, hid HB.out.drew⟩
    case measure => simp [intOf]; omega
  ·obtain rfl : n = i := by omega
   have hki : ¬ (n : Int) < (n : Int) := by omega
   go_wp2_with fail
   go_ret
   exact ⟨rfl, HB.out⟩
end Go.Proofs.YtbamkklhkhglnaaGreatDoor.PfB
namespace Go.Proofs.YtbamkklhkhglnaaGreatDoor.PfC
open Go.RowKit Go.Lib Go.Proofs.YtbamkklhkhglnaaGreatDoor Tow CyA CyB CyC LbC LbD LbN PeA PeB PpA PeE PeF PeQ PeT PeU PfA

def tH (r : Nat) : ByteArray := [(⟨#[90]⟩ : ByteArray), (⟨#[]⟩ : ByteArray), (⟨#[78]⟩ : ByteArray)].getD r ⟨#[]⟩
theorem tH_size (r : Nat) : (tH r).size ≤ 20 := PeV.tab_size _ 20 (by decide) r
theorem tH_kept (W W' : World) (g r : Nat) (hg : g < W.heap.size) (hb : (W.alloc (.cells #[.string ⟨#[90]⟩, .string ⟨#[]⟩, .string ⟨#[78]⟩] 9)).grownBy W' (some g)) (hr : r < 3) : W'.cell? ⟨W.heap.size, r, none⟩ = some (.string (tH r)) := PeV.kept hg hb (PeV.tabV [(⟨#[90]⟩ : ByteArray), (⟨#[]⟩ : ByteArray), (⟨#[78]⟩ : ByteArray)] 9 W r hr)
def tI (r : Nat) : ByteArray := [(⟨#[]⟩ : ByteArray), (⟨#[67, 57, 57]⟩ : ByteArray), (⟨#[65]⟩ : ByteArray), (⟨#[50, 59, 32, 98, 94, 97, 61, 98]⟩ : ByteArray), (⟨#[50, 32, 51, 59, 32, 98, 94, 97, 61, 49]⟩ : ByteArray)].getD r ⟨#[]⟩
theorem tI_size (r : Nat) : (tI r).size ≤ 20 := PeV.tab_size _ 20 (by decide) r
theorem tI_kept (W W' : World) (g r : Nat) (hg : g < W.heap.size) (hb : (W.alloc (.cells #[.string ⟨#[]⟩, .string ⟨#[67, 57, 57]⟩, .string ⟨#[65]⟩, .string ⟨#[50, 59, 32, 98, 94, 97, 61, 98]⟩, .string ⟨#[50, 32, 51, 59, 32, 98, 94, 97, 61, 49]⟩] 9)).grownBy W' (some g)) (hr : r < 5) : W'.cell? ⟨W.heap.size, r, none⟩ = some (.string (tI r)) := PeV.kept hg hb (PeV.tabV [(⟨#[]⟩ : ByteArray), (⟨#[67, 57, 57]⟩ : ByteArray), (⟨#[65]⟩ : ByteArray), (⟨#[50, 59, 32, 98, 94, 97, 61, 98]⟩ : ByteArray), (⟨#[50, 32, 51, 59, 32, 98, 94, 97, 61, 49]⟩ : ByteArray)] 9 W r hr)
theorem ndc_set : ∀ (L : List Nd) (i : Nat) (x : Nd), L[i]? = some x → ∀ u : ByteArray, ∀ z : Int, (ndc L).set (i * 3) (.int .i64 z) = ndc (L.set i ⟨z, x.t, x.m⟩) ∧ (ndc L).set (i * 3 + 1) (.string u) = ndc (L.set i ⟨x.k, u, x.m⟩) ∧ (ndc L).set (i * 3 + 2) (.string u) = ndc (L.set i ⟨x.k, x.t, u⟩)
 | [], i, x, h, _, _ => by simp at h
 | y :: L, 0, x, h, u, z => by
  obtain rfl : y = x := by simpa using h
  exact ⟨rfl, rfl, rfl⟩
 | y :: L, i + 1, x, h, u, z => by
  obtain ⟨h1, h2, h3⟩ := ndc_set L i x (by simpa using h) u z
  have e : ∀ (v : Value) (j : Nat), (ndc (y :: L)).set (i * 3 + j + 1 + 1 + 1) v = [.int .i64 y.k, .string y.t, .string y.m] ++ (ndc L).set (i * 3 + j) v := fun v j => rfl
  refine ⟨?_, ?_, ?_⟩
  ·have h4 := e (.int .i64 z) 0
   rw [show i * 3 + 0 = i * 3 from rfl, h1] at h4
   rw [show (i + 1) * 3 = i * 3 + 1 + 1 + 1 by omega]
   exact h4
  ·have h4 := e (.string u) 1
   rw [h2] at h4
   rw [show (i + 1) * 3 + 1 = i * 3 + 1 + 1 + 1 + 1 by omega]
   exact h4
  ·have h4 := e (.string u) 2
   rw [h3] at h4
   rw [show (i + 1) * 3 + 2 = i * 3 + 2 + 1 + 1 + 1 by omega]
   exact h4
theorem OwnN.nc {B : Nat} {W : World} {v : Value} {L : List Nd} (h : OwnN B W v L) (h0 : 0 < L.length) : NdC W v L := NdN.ndc (OwnN.ndn h (List.length_pos_iff.1 h0))
theorem OwnN.open_ {B : Nat} {W : World} {v : Value} {L : List Nd} (h : OwnN B W v L) (h0 : 0 < L.length) : ∃ g c, v = .slice (some ⟨g, 0, none⟩) L.length c ∧ B ≤ g ∧ g < W.heap.size ∧ L.length ≤ c := by
 obtain ⟨g, c, e, h1, h2⟩ := World.ownsRow.form h h0
 refine ⟨g, c, e, h1, h2, ?_⟩
 rcases h.2 with ⟨_, h3⟩ | ⟨g', c', cur, e', _, _, hc, _⟩
 ·omega
 ·rw [e] at e'
  injection e' with _ _ e3
  omega
theorem NdC.take {W : World} {a : Option Addr} {n c : Nat} {L : List Nd} (h : NdC W (.slice a n c) L) (hn : L.length = n) (k : Nat) (hk : k ≤ n) : NdC W (.slice a k c) (L.take k) := by
 have hl : (L.take k).length = k := by rw [List.length_take]; omega
 refine ⟨⟨⟨a, c, by rw [hl]⟩, fun i x hx => ?_⟩, fun a' n' c' e => by cases e; have := h.2 _ _ _ rfl; omega⟩
 have hi := (List.getElem?_eq_some_iff.1 hx).1
 obtain ⟨b, o, c', e, h2, h3⟩ := h.1.at_ i x (by rw [List.getElem?_take_of_lt (by omega)] at hx; exact hx)
 simp only [Value.slice.injEq] at e
 obtain ⟨rfl, _, rfl⟩ := e
 exact ⟨b, o, c, by rw [hl], h2, h3⟩
theorem NdC.drop {W : World} {b o n c : Nat} {L : List Nd} (h : NdC W (.slice (some ⟨b, o, none⟩) n c) L) (hn : L.length = n) (k : Nat) (hk : k ≤ n) : NdC W (.slice (some ⟨b, o + k * 3, none⟩) (n - k) (c - k)) (L.drop k) := by
 have hl : (L.drop k).length = n - k := by rw [List.length_drop, hn]
 have hc := h.2 _ _ _ rfl
 refine ⟨⟨⟨_, _, by rw [hl]⟩, fun i x hx => ?_⟩, fun a' n' c' e => by cases e; omega⟩
 rw [List.getElem?_drop] at hx
 obtain ⟨b', o', c', e, h2, h3, h4, h5⟩ := h.1.at_ (k + i) x hx
 simp only [Value.slice.injEq, Option.some.injEq, Addr.mk.injEq, and_true] at e
 obtain ⟨⟨rfl, rfl⟩, _, rfl⟩ := e
 refine ⟨b, o + k * 3, c - k, by rw [hl], h2, ?_, ?_, ?_⟩
 ·rw [show o + k * 3 + i * 3 = o + (k + i) * 3 by omega]; exact h3
 ·rw [show o + k * 3 + i * 3 + 1 = o + (k + i) * 3 + 1 by omega]; exact h4
 ·rw [show o + k * 3 + i * 3 + 2 = o + (k + i) * 3 + 2 by omega]; exact h5
def DlR (g : Nat) (a : Option Addr) (len cap : Nat) (w : World) (e : Ending) (w' : World) : Prop := ∃ v L, e = .returned v ∧ NdC w' v L ∧ L.length ≤ 100 ∧ (∀ x ∈ L, x.t.size ≤ 40) ∧ Sr g a len cap w w'
theorem set_sz {L : List Nd} {i : Nat} {y : Nd} (h : ∀ x ∈ L, x.t.size ≤ 40) (hy : y.t.size ≤ 40) : ∀ x ∈ L.set i y, x.t.size ≤ 40 := fun x hx => by
 rcases List.mem_or_eq_of_mem_set hx with h1 | h1
 ·exact h x h1
 ·rw [h1]; exact hy
def lenOf : Value → Nat
 | .slice _ n _ => 31 - n
 | _ => 0
theorem OwnN.put {B : Nat} {W : World} {g n c j : Nat} {L L' : List Nd} {u : Value} (h : OwnN B W (.slice (some ⟨g, 0, none⟩) n c) L) (hn : L.length = n) (hs : (ndc L).set j u = ndc L') (hl : L'.length = L.length) : OwnN B (W.setCell ⟨g, j, none⟩ u) (.slice (some ⟨g, 0, none⟩) n c) L' := by
 unfold OwnN at h ⊢
 rw [hn] at h
 have h1 := (World.ownsRow.stored h j u).1
 rw [hl, hn, ← hs]
 exact h1
theorem OwnN.al {B : Nat} {W : World} {v : Value} {L : List Nd} (h : OwnN B W v L) (o : Obj) : OwnN B (W.alloc o) v L := ownsRow_keep h (S := fun _ => True) ((Keep.refl _ _).alloc o) (fun _ _ => trivial)
theorem OwnN.cell {B : Nat} {W : World} {g n c : Nat} {L : List Nd} (h : OwnN B W (.slice (some ⟨g, 0, none⟩) n c) L) (hn : L.length = n) (j : Nat) (hj : j < n * 3) : (∃ u, W.cell? ⟨g, j, none⟩ = some u) ∧ W.frozen? ⟨g, j, none⟩ = false ∧ g < W.heap.size := by
 unfold OwnN at h
 rw [hn] at h
 refine ⟨⟨_, (h.cellAt j hj).trans (List.getElem?_eq_getElem (by rw [h.1]; exact hj))⟩, h.frozenAt j, (h.lt g rfl).2⟩
theorem drw_any (g : Nat) (a : Option Addr) (len cap : Nat) (w : World) (h : Sr g a len cap w w) (ha : ∀ b o, 0 < len → a = some ⟨b, o, none⟩ → b < w.heap.size) :
  Calls Tryz.prog 31 #[.pointer (some ⟨g, 0, none⟩)] w (DlR g a len cap w) := by
 have H3 := hid (fun (W : World) (h : Sr g a len cap w W) => show Calls Tryz.prog 27 #[.pointer (some ⟨g, 0, none⟩), .int .i64 3] W (NxS 3 g a len cap W) from nx_any 3 (by decide) (by decide) g a len cap w W h)
 have H5 := hid (fun (W : World) (h : Sr g a len cap w W) => show Calls Tryz.prog 27 #[.pointer (some ⟨g, 0, none⟩), .int .i64 5] W (NxS 5 g a len cap W) from nx_any 5 (by decide) (by decide) g a len cap w W h)
 have H30 := hid (fun (W : World) (h : Sr g a len cap w W) => show Calls Tryz.prog 27 #[.pointer (some ⟨g, 0, none⟩), .int .i64 30] W (NxS 30 g a len cap W) from nx_any 30 (by decide) (by decide) g a len cap w W h)
 have HGD := hid (fun (r : Nat) (hr : r < 3) (W : World) (h' : Sr g a len cap w W) => show Calls Tryz.prog 26 #[.pointer (some ⟨g, 0, none⟩), .int .i64 (1 + (r : Int))] W (GdR (r + 1) w.heap.size g a len cap W) from by
  have hp : 2 ^ (r + 1 + 1) ≤ 2000 := Nat.le_trans (Nat.pow_le_pow_right (by omega) (show r + 1 + 1 ≤ 4 by omega)) (by decide)
  have h2 := good_any w.heap.size g h.lt a len cap w ha (r + 1) hp W h'.2.2.size h'
  rw [show ((r + 1 : Nat) : Int) = 1 + (r : Int) by push_cast; omega] at h2
  exact h2)
 have HWR := hid (fun (r : Nat) (hr : r < 3) => show IntKind.i64.wrap (1 + (r : Int)) = 1 + (r : Int) from IntWalk.i64_in _ (by omega))
 have HH := hid h
 have HA := hid ha
 clear h ha
 go_enter Tryz.func31, Tryz.ntmps31
 go_upto_region 2 with (first | (go_at_call 26; refine (HGD.out r0 Hr0.out _ HS2.out).mono ?_; rintro e w3 ⟨v3, L3, T3, rfl, hN3, hT3, hl3, hz3, hS3, hO3⟩; have hl16 : L3.length ≤ 15 := (by have h1 := Nat.pow_le_pow_right (n := 2) (by omega) (show r0 + 1 + 1 ≤ 4 by have := Hr0.out; omega); omega); have HL3 := hid (show 0 < L3.length ∧ L3.length ≤ 15 from ⟨by obtain ⟨x, r, e⟩ := hT3.ne; rw [e]; simp, hl16⟩); have HZ3 := hid (fun x hx => (hz3 x hx).1); have HO3 := hid hO3; have HS3 := hid (HS2.out.tr hS3); obtain ⟨gl, cl, rfl, hgl1, hgl2, hcl⟩ := OwnN.open_ hO3 HL3.out.1; have HGL := hid (And.intro hgl1 hgl2); clear hN3 hT3 hl3 hz3 hS3 hO3 hl16 hgl1 hgl2) | (go_at_call 27; refine (H3.out _ HH.out).mono ?_; rintro e w2 ⟨r0, rfl, hr0, hS2⟩; have HS2 := hid (hS2); have Hr0 := hid hr0; have hwr := HWR.out r0 hr0; clear hS2 hr0))
 obtain ⟨n, hn⟩ : ∃ n, L3.length = n := ⟨_, rfl⟩
 have HN := hid hn
 rw [hn] at hcl HL3 HO3
 (try simp only [hn])
 clear hn
 go_upto_region 3 with (go_at_call 27; refine (H30.out _ HS3.out).mono ?_; rintro e w5 ⟨r, rfl, hr, hS5⟩; have HS5 := hid (HS3.out.tr hS5); have Hr := hid hr; have HO5 := hid (PeU.OwnN.grown HO3.out hS5.2.2 HH.out.lt); have HG5 := hid hS5.2.2.size; clear hS5 hr)
 have hn0 := HL3.out
 by_cases q0 : r = 0
 ·subst q0
  have HO6 := hid (OwnN.al HO5.out (.cells #[.int .i64 2, .string ⟨#[97]⟩, .string ⟨#[]⟩] 63))
  have HS6 := hid (HS5.out.alloc (.cells #[.int .i64 2, .string ⟨#[97]⟩, .string ⟨#[]⟩] 63))
  have HL6 := hid (show 0 < L3.length ∧ L3.length ≤ 15 by rw [HN.out]; exact HL3.out)
  go_wp2_with (at_builtin; refine wpList_app _ rfl _ _ rfl w.heap.size _ L3 rfl HO6.out HL6.out.1 _ [⟨2, ⟨#[97]⟩, ⟨#[]⟩⟩] rfl (PeF.NdN.mono (NdN.one w5 (Nat.le_refl _) ⟨2, ⟨#[97]⟩, ⟨#[]⟩⟩) (Nat.zero_le _)) (by have := HL6.out; simp only [List.length_cons, List.length_nil]; omega) HS6.out.2.2.size ?_; intro av cv w7 hO7 hg7; have HO7 := hid hO7; have HS7 := hid (Sr.app' HS6.out HH.out HO6.out HL6.out.1 hg7 HA.out); clear hO7 hg7)
  refine bodyPost_ret (v := .slice av (L3.length + [(⟨2, ⟨#[97]⟩, ⟨#[]⟩⟩ : Nd)].length) cv) (by simp [results, Tryz.results31, go_sem]) rfl ?_
  have hO := HO7.out
  rw [← List.length_append] at hO
  refine ⟨_, L3 ++ [⟨2, ⟨#[97]⟩, ⟨#[]⟩⟩], rfl, ?_, ?_, ?_, HS7.out⟩
  ·rw [← List.length_append]
   exact OwnN.nc hO (by simp)
  ·have := HL6.out; simp; omega
  ·intro x hx
   rcases List.mem_append.1 hx with hx | hx
   ·exact HZ3.out x hx
   ·obtain rfl : x = ⟨2, ⟨#[97]⟩, ⟨#[]⟩⟩ := by simpa using hx
    decide
 obtain ⟨m, hm⟩ : ∃ m, n = m + 1 := ⟨n - 1, by omega⟩
 subst hm
 have hsub : IntKind.i64.wrap (((m + 1 : Nat) : Int) - 1) = (m : Int) := by rw [IntWalk.i64_in _ (by omega)]; omega
 have hsub2 : IntKind.i64.wrap ((m : Int) + 1 - 1) = (m : Int) := by rw [IntWalk.i64_in _ (by omega)]; omega
 have e0 : ((r : Int) == 0) = false := beq_eq_false_iff_ne.2 (by omega)
 by_cases q1 : r = 1
 ·subst q1
  have hc0 : ¬ cl = 0 := by omega
  have hmc : (m : Int) ≤ (cl : Int) := by omega
  have hm0 : (0 : Int) ≤ (m : Int) := by omega
  go_wp2_with fail
  go_ret
  refine ⟨_, L3.take m, rfl, ?_, by rw [List.length_take]; omega, fun x hx => HZ3.out x (List.mem_of_mem_take hx), HS5.out⟩
  exact NdC.take (OwnN.nc HO5.out (by rw [HN.out]; omega)) HN.out m (by omega)
 have e1 : ((r : Int) == 1) = false := beq_eq_false_iff_ne.2 (by omega)
 obtain ⟨x0, hx0⟩ : ∃ x0, L3[0]? = some x0 := ⟨_, List.getElem?_eq_getElem (by rw [HN.out]; omega)⟩
 have HX0 := hid hx0
 obtain ⟨xm, hxm⟩ : ∃ xm, L3[m]? = some xm := ⟨_, List.getElem?_eq_getElem (by rw [HN.out]; omega)⟩
 have HXM := hid hxm
 clear hx0 hxm
 by_cases q2 : r = 2
 ·subst q2
  go_wp2_with (go_at_call 27; refine (H3.out _ (HS5.out.alloc _)).mono ?_; rintro e w6 ⟨q, rfl, hq, hS6⟩; have hcx := tH_kept w5 w6 g q HS5.out.lt hS6.2.2 hq; have HO6 := hid (PeU.OwnN.grown (OwnN.al HO5.out _) hS6.2.2 HH.out.lt); have HS6 := hid ((HS5.out.alloc _).tr hS6); have hqi : (q : Int) < 3 := (by omega); have hq0 : (0 : Int) ≤ (q : Int) := (by omega); obtain ⟨⟨u6, hu6⟩, hf6, hgl6⟩ := OwnN.cell HO6.out HN.out (2) (by omega); clear hS6 hq)
  go_ret
  have hs := ndc_set L3 0 x0 HX0.out (tH q) 0
  refine ⟨_, L3.set 0 ⟨x0.k, x0.t, tH q⟩, rfl, OwnN.nc (OwnN.put HO6.out HN.out hs.2.2 (by simp)) (by rw [List.length_set, HN.out]; omega), by rw [List.length_set, HN.out]; omega, set_sz HZ3.out (HZ3.out x0 (List.mem_of_getElem? HX0.out)), HS6.out.app (gr_set (i := 2) (gr_refl w6 (some gl)) _) (by have := HGL.out; omega) (by have := HGL.out; have := HH.out.lt; omega) (fun b o l e => by have := HA.out b o l e; have := HGL.out; omega)⟩
 have e2 : ((r : Int) == 2) = false := beq_eq_false_iff_ne.2 (by omega)
 by_cases q3 : r = 3
 ·subst q3
  go_wp2_with (go_at_call 27; refine (H5.out _ (HS5.out.alloc _)).mono ?_; rintro e w6 ⟨q, rfl, hq, hS6⟩; have hcx := tI_kept w5 w6 g q HS5.out.lt hS6.2.2 hq; have HO6 := hid (PeU.OwnN.grown (OwnN.al HO5.out _) hS6.2.2 HH.out.lt); have HS6 := hid ((HS5.out.alloc _).tr hS6); have hqi : (q : Int) < 5 := (by omega); have hq0 : (0 : Int) ≤ (q : Int) := (by omega); obtain ⟨⟨u6, hu6⟩, hf6, hgl6⟩ := OwnN.cell HO6.out HN.out (m * 3 + 1) (by omega); clear hS6 hq)
  go_ret
  have hs := ndc_set L3 m xm HXM.out (tI q) 0
  refine ⟨_, L3.set m ⟨xm.k, tI q, xm.m⟩, rfl, OwnN.nc (OwnN.put HO6.out HN.out hs.2.1 (by simp)) (by rw [List.length_set, HN.out]; omega), by rw [List.length_set, HN.out]; omega, set_sz HZ3.out (Nat.le_trans (tI_size q) (by decide)), HS6.out.app (gr_set (i := m * 3 + 1) (gr_refl w6 (some gl)) _) (by have := HGL.out; omega) (by have := HGL.out; have := HH.out.lt; omega) (fun b o l e => by have := HA.out b o l e; have := HGL.out; omega)⟩
 have e3 : ((r : Int) == 3) = false := beq_eq_false_iff_ne.2 (by omega)
 by_cases q4 : r = 4
 ·have e4t : ((r : Int) == 4) = true := by rw [q4]; rfl
  clear q4
  have HL0 := hid (show L3.length = m + 1 from HN.out)
  go_wp2_with fail
  go_loopw [3] (fun lv wr => ∃ (L : List Nd) (g4 c4 : Nat), lv = .slice (some ⟨g4, 0, none⟩) L.length c4 ∧ Hid (OwnN w.heap.size wr lv L ∧ 0 < L.length ∧ L.length ≤ 31 ∧ (∀ x ∈ L, x.t.size ≤ 40) ∧ Sr g a len cap w wr)) (fun lv _ => lenOf lv)
  case atStart => exact ⟨L3, gl, cl, by rw [HN.out], hid ⟨HO5.out, by rw [HN.out]; omega, by rw [HN.out]; omega, HZ3.out, HS5.out⟩⟩
  case round =>
   obtain ⟨L, g4, c4, rfl, hT⟩ := hrel
   obtain ⟨n4, hn4⟩ : ∃ n4, L.length = n4 := ⟨_, rfl⟩
   have HN4 := hid hn4
   have HO4 := hid hT.out.1
   have HS4 := hid hT.out.2.2.2.2
   have HZ4 := hid hT.out.2.2.2.1
   have HL4 := hid (And.intro hT.out.2.1 hT.out.2.2.1)
   have HC4 := hid (show n4 ≤ c4 ∧ w.heap.size ≤ g4 from by
    obtain ⟨g', c', e', h1, h2, h3⟩ := OwnN.open_ hT.out.1 hT.out.2.1
    injection e' with e1 e2 e3
    injection e1 with e1
    injection e1 with e1
    exact ⟨by rw [← hn4, e3]; exact h3, by rw [e1]; exact h1⟩)
   clear hT
   by_cases hlt : n4 < 31
   ·have hli : (n4 : Int) < 31 := by omega
    have HOB := hid (own_base wr HS4.out.2.2.size 4 ⟨#[90]⟩)
    have HND := hid (show NdN 0 (wr.alloc (.cells #[.int .i64 4, .string ⟨#[]⟩, .string ⟨#[90]⟩] 63)) (.slice (some ⟨g4, 0, none⟩) L.length c4) L from PeF.NdN.mono (PeF.NdN.below (PeF.OwnN.ndn HO4.out (List.length_pos_iff.1 HL4.out.1)) ((Below.refl _ _).alloc (Nat.le_refl _) _)) (Nat.zero_le _))
    rw [hn4] at HND ⊢
    go_wp2_with (at_builtin; refine wpList_app _ rfl _ _ rfl w.heap.size _ [⟨4, ⟨#[]⟩, ⟨#[90]⟩⟩] rfl HOB.out (by simp) _ L rfl HND.out (by have := HL4.out; simp only [List.length_cons, List.length_nil]; omega) (HS4.out.alloc _).2.2.size ?_; intro av cv w7 hO7 hg7; have HO7 := hid hO7; have HS7 := hid (Sr.app' (HS4.out.alloc _) HH.out HOB.out (by simp) hg7 HA.out); obtain ⟨g7, c7, e7, -, -, -⟩ := OwnN.open_ hO7 (by simp); have E7 := hid e7; clear hO7 hg7 e7)
    go_roundw
    case rel =>
     have hl : [(⟨4, ⟨#[]⟩, ⟨#[90]⟩⟩ : Nd)].length + L.length = ((⟨4, ⟨#[]⟩, ⟨#[90]⟩⟩ : Nd) :: L).length := by simp; omega
     have hO := HO7.out
     rw [hl] at hO
     have e8 := E7.out
     injection e8 with e9 _ _
     rw [e9] at hO ⊢
     refine ⟨(⟨4, ⟨#[]⟩, ⟨#[90]⟩⟩ : Nd) :: L, g7, cv, by rw [← hl, HN4.out]; rfl, hid ⟨?_, by simp, by simp only [List.length_cons]; have := HN4.out; omega, ?_, HS7.out⟩⟩
     ·have h2 : (1 : Nat) + n4 = ((⟨4, ⟨#[]⟩, ⟨#[90]⟩⟩ : Nd) :: L).length := by rw [← hl, HN4.out]; rfl
      first | exact hO | (rw [h2]; exact hO)
     ·intro x hx
      rcases List.mem_cons.1 hx with rfl | hx
      ·decide
      ·exact HZ4.out x hx
    case measure => simp only [lenOf]; have := HL4.out; have := HN4.out; first | omega | (simp; omega)
   ·have hli : ¬ (n4 : Int) < 31 := by omega
    rw [hn4]
    go_wp2_with (go_at_call 27; refine (H3.out _ HS4.out).mono ?_; rintro e w6 ⟨k, rfl, hk, hS6⟩; have HO6 := hid (PeU.OwnN.grown HO4.out hS6.2.2 HH.out.lt); have HS6 := hid (HS4.out.tr hS6); have hki : (k : Int) ≤ (n4 : Int) := (by omega); have hk0 : (0 : Int) ≤ (k : Int) := (by omega); have hck : ¬ c4 = k := (by have := HC4.out; omega); have HK := hid hk; clear hS6 hk)
    go_ret
    refine ⟨_, L.drop k, rfl, ?_, by rw [List.length_drop]; have := HL4.out; omega, fun x hx => HZ4.out x (List.mem_of_mem_drop hx), HS6.out⟩
    have h := NdC.drop (OwnN.nc HO6.out HL4.out.1) rfl k (by rw [HN4.out]; omega)
    rw [HN4.out, Nat.zero_add] at h
    exact h
 have e4 : ((r : Int) == 4) = false := beq_eq_false_iff_ne.2 (by omega)
 by_cases q5 : r = 5
 ·subst q5
  have HPK := hid (show Calls Tryz.prog 46 #[.pointer (some ⟨g, 0, none⟩), .slice (some ⟨w5.heap.size, 0, none⟩) 3 3] (w5.alloc (.cells #[.int .i64 (-1), .int .i64 6, .int .i64 3] 2)) (PickR [-1, 6, 3] g a len cap (w5.alloc (.cells #[.int .i64 (-1), .int .i64 6, .int .i64 3] 2))) from
   pick_any [-1, 6, 3] 3 rfl (by decide) (by decide) _ w5.heap.size g a len cap (lit_sl (L := [-1, 6, 3]) HS5.out.lt (by decide)) (HS5.out.alloc _).1 (HS5.out.alloc _).2.1)
  go_wp2_with (go_at_call 46; refine HPK.out.mono ?_; rintro e w6 ⟨z, -, rfl, hs6, hg6⟩; have HO6 := hid (PeU.OwnN.grown (OwnN.al HO5.out _) hg6 HH.out.lt); have HS6 := hid ((HS5.out.alloc _).next hs6 hg6); obtain ⟨⟨u6, hu6⟩, hf6, hgl6⟩ := OwnN.cell HO6.out HN.out 0 (by omega); clear hs6 hg6)
  go_ret
  have hs := ndc_set L3 0 x0 HX0.out ⟨#[]⟩ z
  refine ⟨_, L3.set 0 ⟨z, x0.t, x0.m⟩, rfl, OwnN.nc (OwnN.put HO6.out HN.out hs.1 (by simp)) (by rw [List.length_set, HN.out]; omega), by rw [List.length_set, HN.out]; omega, set_sz HZ3.out (HZ3.out x0 (List.mem_of_getElem? HX0.out)), HS6.out.app (gr_set (i := 0) (gr_refl w6 (some gl)) _) (by have := HGL.out; omega) (by have := HGL.out; have := HH.out.lt; omega) (fun b o l e => by have := HA.out b o l e; have := HGL.out; omega)⟩
 have e5 : ((r : Int) == 5) = false := beq_eq_false_iff_ne.2 (by omega)
 go_wp2_with fail
 go_ret
 exact ⟨_, L3, rfl, OwnN.nc HO5.out (by rw [HN.out]; omega), by rw [HN.out]; omega, HZ3.out, HS5.out⟩
def DeR (w : World) (e : Ending) (w' : World) : Prop := ∃ v L, e = .returned v ∧ NdC w' v L ∧ L.length ≤ 100 ∧ (∀ x ∈ L, x.t.size ≤ 40) ∧ Below w.heap.size w w'
theorem det_any (a : Option Addr) (len cap : Nat) (hl : len ≤ 4096) (w : World) (hR : Rd0 w a len) :
  Calls Tryz.prog 10 #[.slice a len cap] w (DeR w) := by
 have HF := hid (from_any w a len cap hl hR)
 have HR0 := hid hR
 clear hR hl
 go_enter Tryz.func10, Tryz.ntmps10
 go_wp2_with (first | (go_at_call 24; refine HF.out.mono ?_; rintro e w1 ⟨g, rfl, hgw, hS1, hb1⟩; have HS1 := hid (show Sr g a len cap w1 w1 from ⟨hS1, HR0.out.rd hb1 hgw, gr_refl _ _⟩); have HB1 := hid hb1; have HGW := hid hgw; have HDW := hid (drw_any g a len cap w1 HS1.out (fun b o l e => Nat.lt_of_lt_of_le (PeV.rd0_lt HR0.out b o l e) hb1.size)); clear hS1 hb1 hgw) | (go_at_call 31; refine HDW.out.mono ?_; rintro e w2 ⟨v2, L2, rfl, hn2, hl2, hz2, hs2⟩; obtain ⟨a2, c2, rfl⟩ := hn2.form; have HN2 := hid hn2; have HL2 := hid (And.intro hl2 hz2); have HS2 := hid hs2; clear hn2 hl2 hz2 hs2))
 go_ret
 exact ⟨_, L2, rfl, HN2.out, HL2.out.1, HL2.out.2, HB1.out.grown HS2.out.2.2 HB1.out.size (fun k hk => by have := HGW.out; injection hk; omega)⟩
end Go.Proofs.YtbamkklhkhglnaaGreatDoor.PfC
namespace Go.Proofs.YtbamkklhkhglnaaGreatDoor.PeW
open Go.RowKit Go.Lib Go.Proofs.YtbamkklhkhglnaaGreatDoor Tow CyA CyB CyC LbC LbD LbN PeA PeB PeD PeE PeN PpB TrA

theorem big_any (a : Option Addr) (len cap : Nat) (w : World) : Calls Tryz.prog 6 #[.slice a len cap] w (fun e w' => e = .returned (.bool (decide (4096 < len))) ∧ w' = w) := by
 by_cases h : 4096 < len
 ·have hd : (len : Int) > 4096 := by omega
  rw [decide_eq_true h]
  go_enter Tryz.func6, Tryz.ntmps6
  go_wp2_with fail
  go_ret
  exact ⟨rfl, rfl⟩
 ·have hd : ¬ (len : Int) > 4096 := by omega
  rw [decide_eq_false h]
  go_enter Tryz.func6, Tryz.ntmps6
  go_wp2_with fail
  go_ret
  exact ⟨rfl, rfl⟩
def TrueR (w : World) (e : Ending) (w' : World) : Prop := e = .returned (.bool true) ∧ Below w.heap.size w w'
end Go.Proofs.YtbamkklhkhglnaaGreatDoor.PeW
namespace Go.Proofs.YtbamkklhkhglnaaGreatDoor.CyO
open Go.RowKit Go.Proofs.YtbamkklhkhglnaaGreatDoor Go.ChangeShapes

theorem spot_of_cell {w : World} {a : Addr} {v : Value} (h : w.cell? a = some v) : a = ⟨a.block, a.off, none⟩ ∧ a.block < w.heap.size := by
 refine ⟨?_, World.block_lt_of_cell? w a h⟩
 unfold World.cell? at h
 split at h
 ·next c _ _ hb =>
  split at h
  ·cases h
  ·next hs =>
   cases a with
   | mk b o s =>
    cases s with
    | none => rfl
    | some s => simp at hs
 ·cases h
section
variable {H : Type} {enc : TypeId × Value → H} {w : World} {base : Nat} {spare : Nat → Bool} {held : Bool}
theorem sl_of_trod {α : Type} {E : World → Value → α → Prop} {S : Nat → Prop} {t e : TypeId} {fuel : Nat} {v : Value} {x : DataW H × List MemPlace} (ht : Tryz.prog.underlying t = some (.slice e)) (hc : Tryz.prog.cellsOf e = 1) (hS : ∀ b, base ≤ b → S b)
  (hE : ∀ (n : Nat) (u : Value) (y : DataW H × List MemPlace), DataW.trod enc Tryz.prog w base spare held n e [u] = some y → ∃ z : α, E w u z) (h : DataW.trod enc Tryz.prog w base spare held fuel t [v] = some x) : ∃ l : List α, SlG E S w v l := by
 rcases Go.Deep.open_slice1 ht hc h with ⟨hcs, _⟩ | ⟨a, len, cap, m, n, V, D, Pl, hcs, hb, hl, hm, hmm, rfl, hx⟩
 ·simp only [List.cons.injEq, and_true] at hcs
  subst hcs
  exact ⟨[], none, 0, rfl, Nat.le_refl _, Nat.zero_le _, fun _ => rfl, fun i x hx => by simp at hx⟩
 ·simp only [List.cons.injEq, and_true] at hcs
  subst hcs
  have hlm : len ≤ m := by rw [hmm]; split <;> omega
  have hz : ∀ i : Fin len, ∃ z, E w (V i.1) z := fun i => hE _ _ _ (hx i.1 (by have := i.2; omega)).2
  refine ⟨(List.finRange len).map fun i => Classical.choose (hz i), some a, cap, by simp, by simpa using hl, hm, by simp, fun i y hy => ?_⟩
  simp only [List.getElem?_map, Option.map_eq_some_iff] at hy
  obtain ⟨j, hj, rfl⟩ := hy
  have hjl := (List.getElem?_eq_some_iff.1 hj).1
  simp only [List.length_finRange] at hjl
  have hji : j.1 = i := by
   have := (List.getElem?_eq_some_iff.1 hj).2
   rw [← this]; simp
  have h0 := (hx 0 (by omega)).1
  rw [Addr.add_zero'] at h0
  have hs := spot_of_cell h0
  obtain ⟨ab, ao, asp⟩ := a
  simp only [Addr.mk.injEq, true_and] at hs
  obtain ⟨rfl, hlt⟩ := hs
  have hcell := (hx i (by omega)).1
  rw [addr_add] at hcell
  refine ⟨ab, ao, rfl, hS _ hb, hlt, V i, hcell, ?_⟩
  rw [← hji]
  exact Classical.choose_spec (hz j)
end
section
variable {H : Type} {enc : TypeId × Value → H} {w : World} {base : Nat} {spare : Nat → Bool} {held : Bool}
theorem byte_cell (n : Nat) (u : Value) (y : DataW H × List MemPlace) (h : DataW.trod enc Tryz.prog w base spare held n 5 [u] = some y) : ∃ z : Nat, u = .int .u8 (z : Int) ∧ z < 256 := by
 obtain ⟨z, h1, _, h2⟩ := DataW.trod_int Tryz.underlying5 h
 simp only [List.cons.injEq, and_true] at h1
 simp only [Lit.wf, Bool.and_eq_true, decide_eq_true_eq] at h2
 have h3 : IntKind.u8.min = 0 := rfl
 have h4 : IntKind.u8.max = 255 := rfl
 rw [h3, h4] at h2
 refine ⟨z.toNat, ?_, by omega⟩
 rw [h1, Int.toNat_of_nonneg h2.1]
theorem open_bytes {a : Option Addr} {len cap : Nat} {d : DataW H} {p : List MemPlace} (h : DataW.Trod enc Tryz.prog w base spare held 22 (.slice a len cap) d p) : CyC.Rd0 w a len := by
 obtain ⟨fuel, hf⟩ := h
 obtain ⟨l, hl⟩ := sl_of_trod (E := fun _ u (z : Nat) => u = .int .u8 (z : Int) ∧ z < 256) (S := fun _ => True) (v := .slice a len cap) Tryz.underlying22 (by kernel_rfl) (fun _ _ => trivial) (fun n u y hy => byte_cell n u y hy) hf
 intro i hi
 obtain ⟨ao, c', e, _, _, _, h4⟩ := hl
 obtain ⟨rfl, rfl, _⟩ : a = ao ∧ len = l.length ∧ cap = c' := by simpa using e
 obtain ⟨x, hx⟩ : ∃ x, l[i]? = some x := ⟨_, List.getElem?_eq_getElem hi⟩
 obtain ⟨b, o, e1, _, e3, u, e4, rfl, e5⟩ := h4 i x hx
 exact ⟨b, o, x, e1, e3, e4, e5⟩
end
end Go.Proofs.YtbamkklhkhglnaaGreatDoor.CyO
namespace Go.Proofs.YtbamkklhkhglnaaGreatDoor.PfD
open Go.RowKit Go.Lib Go.Proofs.YtbamkklhkhglnaaGreatDoor Tow CyA CyB CyC LbC LbD LbN PeA PeB PeC PeD PeE PeN PpB TrA PfA PfB

theorem Rds.le {t : List UInt8} {n : Nat} {L : List Nd} {i : Nat} {r : Rd} (h : Rds t n L i r) : i ≤ t.length → endR r ≤ t.length := by
 induction h with
 | fend h => intro hi; exact hi
 | fbr hb h hj ho => intro hi; have := clo_some hj; simp only [endR]; omega
 | fbn hb h hj => intro hi; exact hi
 | fbo hb h hj ho => intro hi; exact hi
 | flt h hl => intro hi; have := (List.getElem?_eq_some_iff.1 h).1; simp only [endR]; omega
 | fpo h h1 ih => intro hi; have := (List.getElem?_eq_some_iff.1 h).1; exact ih (by omega)
 | fmk h hm hp h1 ih => intro hi; have := (List.getElem?_eq_some_iff.1 hp).1; rw [endR_put]; exact ih (by omega)
 | fm1 h hm hp => intro hi; have := (List.getElem?_eq_some_iff.1 h).1; simp only [endR]; omega
 | fno h h1 h2 h3 h4 h5 => intro hi; exact hi
 | pok h1 h ih => intro hi; have := (List.getElem?_eq_some_iff.1 h).1; simp only [endR]; omega
 | pno h1 h ih => intro hi; exact ih hi
 | per h1 ih => intro hi; exact ih hi
 | ter h1 ih => intro hi; exact ih hi
 | tok h1 h2 ih1 ih2 => intro hi; exact ih2 (ih1 hi)
 | qno h => intro hi; exact hi
 | qok h hm hk h1 ih => intro hi; have := (List.getElem?_eq_some_iff.1 hm).1; exact ih (by omega)
 | qer h hm => intro hi; have := (List.getElem?_eq_some_iff.1 h).1; simp only [endR]; omega
 | der h1 ih => intro hi; exact ih hi
 | dok h1 h2 ih1 ih2 => intro hi; exact ih2 (ih1 hi)
 | sno h => intro hi; exact hi
 | sok h h1 h2 ih1 ih2 => intro hi; have := (List.getElem?_eq_some_iff.1 h).1; exact ih2 (ih1 (by omega))
 | ser h h1 ih => intro hi; have := (List.getElem?_eq_some_iff.1 h).1; exact ih (by omega)
theorem Out.fit {t : List UInt8} {L : List Nd} {p : Int} (h : Out t L p 0) : ∃ T, Prn L T [] ∧ T.length ≤ t.length ∧ L.length ≤ 30 ∧ isEx L = true := by
 generalize hc : (0 : Int) = c at h
 cases h with
 | long h => omega
 | err h hr => omega
 | rest h hr hq => omega
 | many h hr hq hl => omega
 | good h hr hq hl =>
  obtain ⟨T, h1, h2⟩ := (PeB.Rds.fit hr _ _ rfl).2.1 rfl
  have h3 := Rds.le hr (Nat.zero_le _)
  simp only [endR] at h3
  exact ⟨T, h1, by omega, by omega, h1.isEx (by omega)⟩
theorem Out.bad {t : List UInt8} {L : List Nd} {p c : Int} (h : Out t L p c) (hc : c ≠ 0) : L = [] := by
 cases h <;> first | rfl | exact absurd rfl hc
theorem Prn.sizes {L e : List Nd} {T : List UInt8} (h : Prn L T e) : ∃ pre, L = pre ++ e ∧ ∀ x ∈ pre, x.t.size ≤ T.length := by
 induction h with
 | @lf x r h =>
  refine ⟨[x], rfl, fun y hy => ?_⟩
  obtain rfl : y = x := by simpa using hy
  have ht : (tx y).length = y.t.size := by simp
  rw [← ht]
  unfold leaf
  split
  ·simp only [List.length_cons, List.length_append]; omega
  ·split
   ·simp only [List.length_cons, List.length_append]; omega
   ·exact Nat.le_refl _
 | @pr x y r m e a b h h1 h2 ih1 ih2 =>
  obtain ⟨p1, e1, s1⟩ := ih1
  obtain ⟨p2, e2, s2⟩ := ih2
  refine ⟨x :: (p1 ++ p2), by rw [e1, e2]; simp, fun z hz => ?_⟩
  have hg : b.length ≤ (PeB.grp y b).length := by unfold PeB.grp; split <;> simp; omega
  rcases List.mem_cons.1 hz with rfl | hz
  ·have ht : (tx z).length = z.t.size := by simp
   rw [← ht, h.2.1]
   exact Nat.zero_le _
  ·simp only [List.length_append, List.length_cons]
   rcases List.mem_append.1 hz with hz | hz
   ·have := s1 z hz; omega
   ·have := s2 z hz; omega
 | @qt x y r e a h hk h1 ih =>
  obtain ⟨p1, e1, s1⟩ := ih
  refine ⟨x :: p1, by rw [e1]; rfl, fun z hz => ?_⟩
  have hg : a.length ≤ (PeB.grp y a).length := by unfold PeB.grp; split <;> simp; omega
  rcases List.mem_cons.1 hz with rfl | hz
  ·have ht : (tx z).length = z.t.size := by simp
   rw [← ht, h.2.1]
   exact Nat.zero_le _
  ·have := s1 z hz
   simp only [List.length_append, List.length_cons]
   omega
 | @pt x r e a h hk h1 ih =>
  obtain ⟨p1, e1, s1⟩ := ih
  refine ⟨x :: p1, by rw [e1]; rfl, fun z hz => ?_⟩
  rcases List.mem_cons.1 hz with rfl | hz
  ·have ht : (tx z).length = z.t.size := by simp
   rw [← ht, h.2.1]
   exact Nat.zero_le _
  ·have := s1 z hz
   simp only [List.length_append, List.length_cons]
   omega
theorem Prn.szs {L : List Nd} {T : List UInt8} (h : Prn L T []) (ht : T.length ≤ 100000000) : Szs L := fun x hx => by
 obtain ⟨p, e, s⟩ := Prn.sizes h
 rw [List.append_nil] at e
 subst e
 exact Nat.le_trans (s x hx) ht
def ExO (L : List Nd) (T : List UInt8) (c : Int) : Prop := (isEx L = true ∧ c = 0 ∧ Prn L T []) ∨ (isEx L = false ∧ c = 1 ∧ T = [])
theorem ExO.uniq {L : List Nd} {T T' : List UInt8} {c c' : Int} (h : ExO L T c) (h' : ExO L T' c') : T = T' ∧ c = c' := by
 rcases h with ⟨h1, h2, h3⟩ | ⟨h1, h2, h3⟩ <;> rcases h' with ⟨k1, k2, k3⟩ | ⟨k1, k2, k3⟩
 ·exact ⟨(h3.uniq k3).1, by rw [h2, k2]⟩
 ·rw [h1] at k1; cases k1
 ·rw [h1] at k1; cases k1
 ·exact ⟨by rw [h3, k3], by rw [h2, k2]⟩
theorem ExO.back {L : List Nd} {T : List UInt8} (h : ExO L T 0) (hT : ¬ 300 < T.length) : Out T L 0 0 := by
 rcases h with ⟨h1, h2, h3⟩ | ⟨h1, h2, h3⟩
 ·exact .good hT (Prn.read h3) (by omega) (by have := (isEx_len h1).2; omega)
 ·omega
theorem ExO.of {L : List Nd} {T T' : List UInt8} {c : Int} (h : ExO L T c) (h' : Prn L T' []) (hx : isEx L = true) : T = T' ∧ c = 0 := by
 rcases h with ⟨h1, h2, h3⟩ | ⟨h1, h2, h3⟩
 ·exact ⟨(h3.uniq h').1, h2⟩
 ·rw [hx] at h1; cases h1
theorem Out.small {t : List UInt8} {L : List Nd} {p c : Int} (h : Out t L p c) : L.length ≤ 30 := by
 cases h <;> first | exact Nat.zero_le _ | omega
theorem law (a : Option Addr) (len cap : Nat) (w : World) (hR : Rd0 w a len) (hv : Vars w) :
  Calls Tryz.prog 4 #[.slice a len cap] w (PeW.TrueR w) := by
 have HBG := hid (PeW.big_any a len cap w)
 by_cases hbig : 4096 < len
 ·rw [decide_eq_true hbig] at HBG
  clear hR hv hbig
  go_enter Tryz.func4, Tryz.ntmps4
  go_wp2_with (go_at_call 6; refine HBG.out.mono ?_; rintro e w1 ⟨rfl, rfl⟩)
  go_ret
  exact ⟨rfl, Below.refl _ _⟩
 ·rw [decide_eq_false hbig] at HBG
  have HDE := hid (PfC.det_any a len cap (by omega) w hR)
  have HDP := hid (fun (W : World) (hb : Below w.heap.size w W) => PeV.dpx_any a len cap (by omega) W (fun i hi => by
   obtain ⟨b, o, z, h1, h2, h3, h4⟩ := hR i hi
   exact ⟨b, o, z, h1, Nat.lt_of_lt_of_le h2 hb.size, (hb.cell (p := ⟨b, _, none⟩) h2).trans h3, h4⟩))
  have HV := hid hv
  clear hR hv hbig
  go_enter Tryz.func4, Tryz.ntmps4
  go_upto_region 4 with (first | (go_at_call 6; refine HBG.out.mono ?_; rintro e w1 ⟨rfl, hw1⟩; have HW1 := hid hw1; clear hw1) | (go_at_call 10; rw [HW1.out]; refine HDE.out.mono ?_; rintro e w2 ⟨v2, L, rfl, hn2, hl2, hz2, hb2⟩; obtain ⟨a2, k2, rfl⟩ := hn2.form; have HN2 := hid hn2; have HB2 := hid hb2; have HL2 := hid (And.intro hl2 (show Szs L from fun x hx => Nat.le_trans (hz2 x hx) (by decide))); clear hn2 hl2 hz2 hb2))
  go_upto_region 5 with (go_at_call 11; refine (iet_any L _ w2 HN2.out HL2.out.2 (by have := HL2.out.1; omega) (HV.out.below HB2.out)).mono ?_; rintro e w3 ⟨T3, c3, rfl, hb3, hx3⟩; have HX3 := hid (show ExO L T3 c3 from hx3); have HB3 := hid (HB2.out.trans (hb3.mono HB2.out.size)); have HN3 := hid (HN2.out.below hb3); clear hb3 hx3)
  go_upto_region 6 with (go_at_call 12; refine (set_any L _ w3 HN3.out HL2.out.2 (by have := HL2.out.1; omega)).mono ?_; rintro e w4 ⟨T4, c4, rfl, hb4, hx4⟩; obtain ⟨rfl, rfl⟩ := ExO.uniq HX3.out hx4; have HB4 := hid (HB3.out.trans (hb4.mono HB3.out.size)); have HN4 := hid (HN3.out.below hb4); clear hb4 hx4)
  obtain ⟨s3, hs3⟩ : ∃ s3, ba T3 = s3 := ⟨_, rfl⟩
  have hsz : s3.size = T3.length := by rw [← hs3]; rfl
  have hsb : bs s3 = T3 := by rw [← hs3]; rfl
  (try simp only [hs3])
  clear hs3
  have hsk : (c3 = 0 ∧ T3.length ≤ 300) ∨ (c3 == 0) = false ∨ (c3 = 0 ∧ ¬ (s3.size : Int) ≤ 300) := by
   by_cases hc0 : c3 = 0
   ·by_cases hT : T3.length ≤ 300
    ·exact .inl ⟨hc0, hT⟩
    ·exact .inr (.inr ⟨hc0, by omega⟩)
   ·exact .inr (.inl (beq_eq_false_iff_ne.2 hc0))
  rcases hsk with ⟨rfl, hT3⟩ | e3 | ⟨rfl, hli⟩
  all_goals first
   | (
     have HOB := hid (ExO.back HX3.out (show ¬ 300 < T3.length by have := hT3; omega))
     have hli : (s3.size : Int) ≤ 300 := by omega
     have HSB := hid hsb
     clear hsz hsb hT3
     go_upto_region 10 with (go_at_call 8; refine (ipx_any s3 w4 (HV.out.below HB4.out)).mono ?_; rintro e w5 ⟨v5, L5, p5, c5, rfl, hO5, hN5, hb5⟩; rw [HSB.out] at hO5; obtain ⟨a5, k5, rfl⟩ := hN5.form; obtain ⟨rfl, rfl, rfl⟩ := Out.uniq HOB.out hO5; have HB5 := hid (HB4.out.trans (hb5.mono HB4.out.size)); have HLK5 := hid (like_any L _ _ w5 hN5.nds (HN4.out.below hb5).1 (by have := HL2.out.1; omega)); clear hO5 hN5 hb5)
     go_upto_region 12 with (go_at_call 13; refine HLK5.out.mono ?_; rintro e w7 ⟨rfl, hb7⟩; have HB7 := hid (HB5.out.trans (hb7.mono HB5.out.size)); clear hb7))
   | (
     have HB7 := HB4
     clear hsz hsb)
  all_goals
   go_upto_region 13 with (go_at_call 7; refine (HDP.out _ HB7.out).mono ?_; rintro e w8 ⟨t, rfl, ht, hb8⟩; have HB8 := hid (HB7.out.trans (hb8.mono HB7.out.size)); have HT := hid ht; clear hb8 ht)
   go_upto_region 14 with (go_at_call 8; refine (ipx_any t w8 (HV.out.below HB8.out)).mono ?_; rintro e w9 ⟨v9, L9, p9, c9, rfl, hO9, hN9, hb9⟩; obtain ⟨a9, k9, rfl⟩ := hN9.form; have HO9 := hid hO9; have HN9 := hid hN9; have HB9 := hid (HB8.out.trans (hb9.mono HB8.out.size)); clear hO9 hN9 hb9)
   go_upto_region 15 with (go_at_call 9; refine (PeS.spx_any t w9).mono ?_; rintro e wa ⟨va, La, pa, ca, rfl, hOa, hNa, hba⟩; obtain ⟨aa, ka, rfl⟩ := hNa.form; obtain ⟨rfl, rfl, rfl⟩ := Out.uniq HO9.out hOa; have HNA := hid hNa; have HN9' := hid (HN9.out.nds.below hba); have HBA := hid (HB9.out.trans (hba.mono HB9.out.size)); clear hOa hNa hba)
   have HLK := hid (like_any L9 _ _ wa HN9'.out HNA.out.nds (by have := Out.small HO9.out; omega))
   by_cases h0 : c9 = 0
   ·subst h0
    obtain ⟨TU, hTU, hTL, hL30, hEX⟩ := Out.fit HO9.out
    have HZU := hid (Prn.szs hTU (by rw [bs_len] at hTL; have := HT.out; omega))
    have HIE := hid (fun (W : World) (hb : Below wa.heap.size wa W) (hv : Vars W) => iet_any L9 _ W ((PfA.NdN.ndc HNA.out).below hb) HZU.out (by omega) hv)
    have HII := hid (fun (W : World) (hb : Below wa.heap.size wa W) (hv : Vars W) => iie_any L9 _ W (HNA.out.nds.below hb) HZU.out (by omega) hv)
    have HPU := hid (And.intro hTU hEX)
    have HTL := hid hTL
    rw [hEX] at HII
    clear hTU hTL hL30 hEX
    go_upto_region 20 with (first | (go_at_call 13; refine HLK.out.mono ?_; rintro e wb ⟨rfl, hbb⟩; have HBB := hid hbb; clear hbb) | (go_at_call 11; refine (HIE.out _ HBB.out (HV.out.below (HBA.out.trans (HBB.out.mono HBA.out.size)))).mono ?_; rintro e wc ⟨TC, cc, rfl, hbc, hxc⟩; obtain ⟨rfl, rfl⟩ := ExO.of hxc HPU.out.1 HPU.out.2; have HBC := hid (HBB.out.trans (hbc.mono HBB.out.size)); clear hbc hxc))
    have hul : ((ba TC).size : Int) ≤ (t.size : Int) := by have := HTL.out; rw [bs_len] at this; show ((TC.length : Nat) : Int) ≤ _; omega
    have hun : decide ((ba TC).size ≤ t.size) = true := decide_eq_true (by omega)
    obtain ⟨su, hsu⟩ : ∃ su, ba TC = su := ⟨_, rfl⟩
    rw [hsu] at hul hun
    (try simp only [hsu])
    clear hsu
    go_wp2_with (go_at_call 14; refine (HII.out _ HBC.out (HV.out.below (HBA.out.trans (HBC.out.mono HBA.out.size)))).mono ?_; rintro e wd ⟨rfl, hbd⟩; have HBD := hid (HBA.out.trans ((HBC.out.trans (hbd.mono HBC.out.size)).mono HBA.out.size)); clear hbd)
    go_ret
    exact ⟨rfl, HBD.out⟩
   ·have hL0 := Out.bad HO9.out h0
    have e9 : (c9 == 0) = false := beq_eq_false_iff_ne.2 h0
    have hl0 : L9.length = 0 := by rw [hL0]; rfl
    clear hL0 h0
    obtain ⟨n9, hn9⟩ : ∃ n9, L9.length = n9 := ⟨_, rfl⟩
    rw [hn9] at hl0
    subst hl0
    rw [hn9] at HLK ⊢
    clear hn9
    go_wp2_with (go_at_call 13; refine HLK.out.mono ?_; rintro e wb ⟨rfl, hbb⟩; have HBB := hid (HBA.out.trans (hbb.mono HBA.out.size)); clear hbb)
    go_ret
    exact ⟨rfl, HBB.out⟩
end Go.Proofs.YtbamkklhkhglnaaGreatDoor.PfD
