import Derived.Test.YtabkibmnghbahaaGreatImplH
import Derived.Test.YtabkibmnghbahaaGreatImplVW
import Derived.Test.YtabkibmnghbahaaGreatPlainA
import Derived.Test.YtabkibmnghbahaaGreatOwn2
namespace Go.Proofs.YtabkibmnghbahaaGreat.ImplI
open Go.RowKit Go.Proofs.YtabkibmnghbahaaGreat Go.Proofs.YtabkibmnghbahaaGreat.Tow Go.Proofs.YtabkibmnghbahaaGreat.TowD Go.Proofs.YtabkibmnghbahaaGreat.Val Go.Proofs.YtabkibmnghbahaaGreat.ImplV Go.Proofs.YtabkibmnghbahaaGreat.ImplW Go.Proofs.YtabkibmnghbahaaGreat.ImplH Go.Proofs.YtabkibmnghbahaaGreat.Grps
set_option linter.unusedVariables false
set_option linter.unusedSimpArgs false

/-- where the consistent tail begins -/
def FromR (T : Tw) (w : World) (e : Ending) (w' : World) : Prop := ∃ r : Nat, e = .returned (.int .i64 (r : Int)) ∧ (r = 0 ↔ Tow.Good T) ∧ Below w.heap.size w w'

set_option maxHeartbeats 1000000 in
theorem from_any (T : Tw) (hT : Wf T) (hs : Small T) (w : World) (b o : Nat) (hP : PtrP Any w b o (ofTw T)) :
    Calls Tryz.prog 45 #[.pointer (some ⟨b, o, none⟩)] w (FromR T w) := by
  have hs6 := hs.1
  have HP := Lib.hid hP
  obtain ⟨_, hbl, vO, vP, vC, hp0, hp1, hp2, hV⟩ := hP
  obtain ⟨aO, cO, aP, cP, aC, cC, rfl, rfl, rfl, hO1, hP1, hC1⟩ := hV.open
  have HF := Lib.hid (fun i L hL hg W hP => fault_any T hT hs i L hL hg W b o hP)
  clear hV hp1 hp2
  go_enter Tryz.func45, Tryz.ntmps45
  go_wp2_with fail
  clear hp0
  go_loopw [3] (fun i wr => ∃ k : Nat, k ≤ T.length ∧ i = .int .i64 (k : Int) ∧ Hid (Tow.Good (T.drop k)) ∧ Below w.heap.size w wr) (fun i _ => (intOf i).toNat)
  case atStart => exact ⟨T.length, Nat.le_refl _, rfl, Lib.hid (by rw [List.drop_length]; trivial), Below.refl _ _⟩
  case round =>
    obtain ⟨k, hk, rfl, hg, hb⟩ := hrel
    have HB := Lib.hid hb
    clear hb
    by_cases h0 : k = 0
    · subst h0
      go_wp2_with fail
      go_ret
      exact ⟨0, rfl, ⟨fun _ => hg.out, fun _ => rfl⟩, HB.out⟩
    · obtain ⟨i, rfl⟩ : ∃ i, k = i + 1 := ⟨k - 1, by omega⟩
      have hd : decide (((i + 1 : Nat) : Int) > 0) = true := by first | (simp; omega) | simp
      obtain ⟨L, hL⟩ : ∃ L, T[i]? = some L := ⟨_, List.getElem?_eq_getElem (by omega)⟩
      have HL := Lib.hid hL
      have HIF := Lib.hid (show Tow.Good (T.drop i) ↔ LvOk L (T.drop (i + 1)) from by
        rw [drop_cons' hL, Good_cons]
        exact ⟨fun h => h.2, fun h => ⟨hg.out, h⟩⟩)
      clear hL h0
      by_cases hok : LvOk L (T.drop (i + 1))
      · have HOK := Lib.hid hok
        clear hok
        go_wp2_with (go_at_call 77; refine (HF.out i L HL.out hg.out _ (HP.out.keep (Keep.of_below HB.out))).mono ?_; rintro e w1 ⟨k, l, a, b, rfl, hif, hbel⟩; obtain ⟨rfl, rfl, rfl, rfl⟩ := hif.2 HOK.out; replace hbel := Lib.hid hbel)
        go_roundw
        case rel => exact ⟨i, by omega, rfl, Lib.hid (HIF.out.2 HOK.out), HB.out.trans (hbel.out.mono HB.out.size)⟩
        case measure => simp [intOf] <;> omega
      · have HOK := Lib.hid hok
        clear hok
        go_wp2_with (go_at_call 77; refine (HF.out i L HL.out hg.out _ (HP.out.keep (Keep.of_below HB.out))).mono ?_; rintro e w1 ⟨k, l, a, b, rfl, hif, hbel⟩; replace hif := Lib.hid (fun h => HOK.out (hif.1 h)); replace hbel := Lib.hid hbel)
        all_goals first
          | (go_ret; exact ⟨i + 1, rfl, ⟨fun h => absurd h (by omega), fun h => absurd (HIF.out.1 (Good_drop h i)) HOK.out⟩, HB.out.trans (hbel.out.mono HB.out.size)⟩)
          | exact (hif.out ⟨by assumption, by assumption, by assumption, by assumption⟩).elim
          | trace_state

theorem ptr_of_box {w W : World} {vO vP vC : Value} {t : TypeId} {P : Pres} (h : ValP Any w vO vP vC P) (hb : Below (w.heap.size + 1) (w.alloc (.cells #[vO, vP, vC] t)) W) : PtrP Any W w.heap.size 0 P := by
  have hs := hb.size
  simp at hs
  obtain ⟨e0, e1, e2⟩ := box_cells hb
  exact ⟨trivial, by omega, vO, vP, vC, e0, e1, e2, h.keep (Keep.of_below (below_unboxed hb))⟩

set_option maxRecDepth 100000 in
set_option maxHeartbeats 1000000 in
theorem group_any (w : World) (vO vP vC : Value) (P : Pres) (hP : ValP Any w vO vP vC P) :
    Calls Tryz.prog 24 #[.agg #[vO, vP, vC]] w (ExB (Grp P) w) := by
  have HP := Lib.hid hP
  have HV := Lib.hid (fun W h => ImplW.isPres_any W vO vP vC P h)
  have HC := Lib.hid (fun T (hT : Wf T) (hs : Small T) W b o h => from_any T hT hs W b o h)
  clear hP
  have HB : Hid (Below w.heap.size w (w.alloc (.cells #[vO, vP, vC] 30))) := Lib.hid ((Below.refl _ _).alloc (by simp) _)
  by_cases hv : Valid P
  · obtain ⟨T, hT, hs, rfl⟩ := hv.tower
    have HVA := Lib.hid hv
    have HT := Lib.hid hT
    have HS := Lib.hid hs
    clear hv hT hs
    have HNG : Hid (¬ Tow.Good T → ¬ Grp (ofTw T)) := Lib.hid (fun hg h => hg h.good)
    go_enter Tryz.func24, Tryz.ntmps24
    go_wp2_with fail
    refine (HV.out _ (HP.out.keep (Keep.of_below HB.out))).mono ?_
    rintro e w1 ⟨r, rfl, hr, hb1⟩
    obtain rfl := hr.2 HVA.out
    have HB1' := Lib.hid ((Below.refl _ _).trans (hb1.mono (show w.heap.size + 1 ≤ _ by simp)))
    have HB1 := Lib.hid (below_unboxed HB1'.out)
    have hsz := HB1'.out.size
    simp at hsz
    clear hb1 hr
    go_wp2_with (go_at_call 45; refine (HC.out T HT.out HS.out _ _ _ (ptr_of_box HP.out HB1'.out)).mono ?_; rintro e w2 ⟨r, rfl, hr, hb2⟩; replace hb2 := Lib.hid hb2; by_cases hr0 : r = 0)
    · subst hr0
      have HG := Lib.hid (hr.1 rfl)
      clear hr
      go_wp2_with fail
      go_ret
      exact ExB_true ⟨T, HT.out, HS.out, rfl, HVA.out, HG.out⟩ (HB1.out.trans (hb2.out.mono HB1.out.size))
    · have HG := Lib.hid (show ¬ Tow.Good T from fun h => hr0 (hr.2 h))
      have hd : ((r : Int) == 0) = false := by simpa using hr0
      clear hr hr0
      go_wp2_with fail
      go_ret
      refine (show ∀ {v}, v = Value.bool false → ExB (Grp (ofTw T)) w (.returned v) w2 from fun hv => hv ▸ ExB_false (HNG.out HG.out) (HB1.out.trans (hb2.out.mono HB1.out.size))) (congrArg Value.bool hd)
  · have HN := Lib.hid hv
    have HNG : Hid (¬ Grp P) := Lib.hid (by rintro ⟨T', _, _, _, h, _⟩; exact HN.out h)
    clear hv
    go_enter Tryz.func24, Tryz.ntmps24
    go_wp2_with fail
    refine (HV.out _ (HP.out.keep (Keep.of_below HB.out))).mono ?_
    rintro e w1 ⟨r, rfl, hr, hb1⟩
    obtain rfl := (Bool.eq_false_iff.2 (fun h => HN.out (hr.1 h)))
    have HB1 := Lib.hid (HB.out.trans (hb1.mono (by simp)))
    clear hb1 hr
    go_wp2_with fail
    go_ret
    exact ExB_false HNG.out HB1.out
end Go.Proofs.YtabkibmnghbahaaGreat.ImplI

namespace Go.Proofs.YtabkibmnghbahaaGreat.ImplN
open Go.RowKit Go.Proofs.YtabkibmnghbahaaGreat Go.Proofs.YtabkibmnghbahaaGreat.Tow Go.Proofs.YtabkibmnghbahaaGreat.NumT Go.Proofs.YtabkibmnghbahaaGreat.ImplE
set_option linter.unusedVariables false
set_option linter.unusedSimpArgs false

abbrev Any : Nat → Prop := fun _ => True
theorem o_le {T : Tw} (hT : Wf T) (hz : sz T ≤ 729) {i : Nat} {L : Lv} (hL : T[i]? = some L) : 1 ≤ L.o ∧ L.o ≤ 729 := by
  have h2 := sz_drop_dvd T hT i
  have h1 := (lvl' hT hL).2.2.2.2
  have h4 := sz_pos (lvl' hT hL).1
  rw [sz_step hL] at h2
  have h3 : L.o * 1 ≤ L.o * sz (T.drop (i + 1)) := Nat.mul_le_mul_left _ h4
  omega
theorem pad_set (i a : Nat) (y : List Nat) : (pad (i + 1) y).set i a = pad i (a :: y) := by
  unfold pad
  rw [List.set_append_left _ _ (by simp), List.replicate_succ']
  simp [List.set_append]
theorem wrap_i64 {x : Int} (h1 : 0 ≤ x) (h2 : x ≤ 1000000) : wrap64 x = x := by unfold wrap64; omega
/-- an answer that is a number -/
def IntR (n : Nat) (w : World) (e : Ending) (w' : World) : Prop := e = .returned (.int .i64 (n : Int)) ∧ Below w.heap.size w w'

set_option maxHeartbeats 1000000 in
theorem order_any (T : Tw) (hT : Wf T) (hs : T.length ≤ 6) (hz : sz T ≤ 729) (w : World) (b o : Nat) (hP : PtrP Any w b o (ofTw T)) :
    Calls Tryz.prog 25 #[.pointer (some ⟨b, o, none⟩)] w (IntR (sz T) w) := by
  obtain ⟨_, hbl, vO, vP, vC, hp0, hp1, hp2, hV⟩ := hP
  obtain ⟨aO, cO, aP, cP, aC, cC, rfl, rfl, rfl, hO1, hP1, hC1⟩ := hV.open
  have HV := Lib.hid hV
  have HT := Lib.hid hT
  have HZ := Lib.hid hz
  clear hV hp1 hp2 hz hT
  go_enter Tryz.func25, Tryz.ntmps25
  go_wp2_with fail
  clear hp0
  go_loopw [3, 11] (fun q i wr => ∃ k : Nat, k ≤ T.length ∧ i = .int .i64 (k : Int) ∧ ∃ z : Int, q = .int .i64 z ∧ 0 ≤ z ∧ z ≤ 729 ∧ Hid (z * (sz (T.drop k) : Int) = (sz T : Int)) ∧ Below w.heap.size w wr) (fun _ i _ => T.length - (intOf i).toNat)
  case atStart => exact ⟨0, Nat.zero_le _, rfl, 1, rfl, by omega, by omega, Lib.hid (by simp), Below.refl _ _⟩
  case round =>
    obtain ⟨k, hk, rfl, z, rfl, hz1, hz2, hR, hb⟩ := hrel
    have HB := Lib.hid hb
    clear hb
    by_cases hlt : k < T.length
    · obtain ⟨L, hL⟩ : ∃ L, T[k]? = some L := ⟨_, List.getElem?_eq_getElem hlt⟩
      obtain ⟨bO, oO, rfl, _, hbO, hcO⟩ := (HV.out.keep (Keep.of_below HB.out)).ord hL
      have hd : decide ((k : Int) < (T.length : Int)) = true := by simp; omega
      have hE : z * (L.o : Int) * (sz (T.drop (k + 1)) : Int) = (sz T : Int) := by
        rw [← hR.out, sz_step hL]; push_cast; rw [Int.mul_assoc]
      have b1 : 0 ≤ z * (L.o : Int) := Int.mul_nonneg hz1 (by omega)
      have b2 : z * (L.o : Int) ≤ 729 := by
        have h1 := sz_pos (lvl' HT.out hL).1
        have h2 : z * (L.o : Int) * 1 ≤ z * (L.o : Int) * (sz (T.drop (k + 1)) : Int) := Int.mul_le_mul_of_nonneg_left (by omega) b1
        have h3 := HZ.out
        omega
      have HE := Lib.hid hE
      clear hE hL
      go_wp2_with fail
      go_roundw
      case rel => exact ⟨k + 1, by omega, by go_num, _, rfl, b1, b2, HE, HB.out⟩
      case measure => simp [intOf]; omega
    · obtain rfl : k = T.length := by omega
      have hd : decide ((T.length : Int) < (T.length : Int)) = false := by simp
      have hzz : z = (sz T : Int) := by have := hR.out; rw [sz_end] at this; simpa using this
      subst hzz
      go_wp2_with fail
      go_ret
      exact ⟨rfl, HB.out⟩

set_option maxHeartbeats 1000000 in
theorem number_any (T : Tw) (hT : Wf T) (hs : T.length ≤ 6) (hz : sz T ≤ 729) (w : World) (b o : Nat) (vx : Value) (x : List Nat) (hP : PtrP Any w b o (ofTw T)) (hx : SlI Any w vx (ints x)) (hE : El T x) :
    Calls Tryz.prog 79 #[.pointer (some ⟨b, o, none⟩), vx] w (IntR (num T x) w) := by
  obtain ⟨_, hbl, vO, vP, vC, hp0, hp1, hp2, hV⟩ := hP
  obtain ⟨aO, cO, aP, cP, aC, cC, rfl, rfl, rfl, hO1, hP1, hC1⟩ := hV.open
  obtain ⟨aX, cX, rfl, hcx⟩ := hx.open
  have hxl := El_length hE
  rw [hxl] at hcx hx ⊢
  have HC : Hid (∀ W, Below w.heap.size w W → W.cell? ⟨b, o, none⟩ = some (.slice aO T.length cO)) := Lib.hid (fun W h => ((h.cell (p := ⟨b, o, none⟩) hbl).trans hp0))
  have HV := Lib.hid hV
  have HX := Lib.hid hx
  have HT := Lib.hid hT
  have HZ := Lib.hid hz
  have HE := Lib.hid hE
  clear hV hp1 hp2 hz hT hE hx hp0
  go_enter Tryz.func79, Tryz.ntmps79
  go_wp2_with fail
  go_loopw [5, 10] (fun q i wr => ∃ k : Nat, k ≤ T.length ∧ i = .int .i64 (k : Int) ∧ ∃ z : Int, q = .int .i64 z ∧ 0 ≤ z ∧ Hid (z * (sz (T.drop k) : Int) + (num (T.drop k) (x.drop k) : Int) = (num T x : Int)) ∧ Below w.heap.size w wr) (fun _ i _ => T.length - (intOf i).toNat)
  case atStart => exact ⟨0, Nat.zero_le _, rfl, 0, rfl, by omega, Lib.hid (by simp), Below.refl _ _⟩
  case round =>
    obtain ⟨k, hk, rfl, z, rfl, hz1, hR, hb⟩ := hrel
    have HB := Lib.hid hb
    have hp0 := HC.out _ hb
    clear hb
    by_cases hlt : k < T.length
    · obtain ⟨L, hL⟩ : ∃ L, T[k]? = some L := ⟨_, List.getElem?_eq_getElem hlt⟩
      obtain ⟨a, ha⟩ : ∃ a, x[k]? = some a := ⟨_, List.getElem?_eq_getElem (by omega)⟩
      obtain ⟨bO, oO, rfl, _, hbO, hcO⟩ := (HV.out.keep (Keep.of_below HB.out)).ord hL
      obtain ⟨bX, oX, rfl, _, hbX, hcX⟩ := (HX.out.keep (Keep.of_below HB.out)).at ha
      have hd : decide ((k : Int) < (T.length : Int)) = true := by simp; omega
      have hE : (z * (L.o : Int) + (a : Int)) * (sz (T.drop (k + 1)) : Int) + (num (T.drop (k + 1)) (x.drop (k + 1)) : Int) = (num T x : Int) := by
        rw [← hR.out, sz_step hL, num_step hL ha]; push_cast; rw [Int.add_mul, Int.mul_assoc]; omega
      have b1 : 0 ≤ z * (L.o : Int) := Int.mul_nonneg hz1 (by omega)
      have b2 : z * (L.o : Int) + (a : Int) ≤ 729 := by
        have h1 := sz_pos (lvl' HT.out hL).1
        have h2 : (z * (L.o : Int) + (a : Int)) * 1 ≤ (z * (L.o : Int) + (a : Int)) * (sz (T.drop (k + 1)) : Int) := Int.mul_le_mul_of_nonneg_left (by omega) (by omega)
        have h3 := HZ.out
        have h4 := num_lt HE.out HT.out
        omega
      have HE2 := Lib.hid hE
      clear hE hL ha
      go_wp2_with fail
      go_roundw
      case rel => exact ⟨k + 1, by omega, by go_num, _, rfl, by omega, HE2, HB.out⟩
      case measure => simp [intOf]; omega
    · obtain rfl : k = T.length := by omega
      have hd : decide ((T.length : Int) < (T.length : Int)) = false := by simp
      have hzz : z = (num T x : Int) := by have := hR.out; rw [sz_end, num_end] at this; simpa using this
      subst hzz
      go_wp2_with fail
      go_ret
      exact ⟨rfl, HB.out⟩

set_option maxHeartbeats 1000000 in
theorem at_any (T : Tw) (hT : Wf T) (hs : T.length ≤ 6) (hz : sz T ≤ 729) (q : Nat) (hq : q ≤ 1000000) (w : World) (b o : Nat) (hP : PtrP Any w b o (ofTw T)) :
    Calls Tryz.prog 50 #[.pointer (some ⟨b, o, none⟩), .int .i64 (q : Int)] w (NewS (ints (at_ T q)) w) := by
  obtain ⟨_, hbl, vO, vP, vC, hp0, hp1, hp2, hV⟩ := hP
  obtain ⟨aO, cO, aP, cP, aC, cC, rfl, rfl, rfl, hO1, hP1, hC1⟩ := hV.open
  have hmk := mk22 T.length hs
  have HC : Hid (∀ W, Below w.heap.size w W → W.cell? ⟨b, o, none⟩ = some (.slice aO T.length cO)) := Lib.hid (fun W h => ((h.cell (p := ⟨b, o, none⟩) hbl).trans hp0))
  have HO1 := Lib.hid (Own.made (B := w.heap.size) w T.length (Nat.le_refl _) (by unfold maxLen; omega))
  have HB1 := Lib.hid ((Below.refl w.heap.size w).alloc (Nat.le_refl _) (.cells (madeCells #[.int .i64 0] T.length) 2))
  have HV := Lib.hid hV
  have HT := Lib.hid hT
  have HZ := Lib.hid hz
  have HQ := Lib.hid hq
  clear hV hp1 hp2 hz hT hq
  go_enter Tryz.func50, Tryz.ntmps50
  go_wp2_with fail
  clear hp0
  go_loopw [1, 6] (fun qv iv wr => ∃ k : Nat, k ≤ T.length ∧ iv = .int .i64 ((k : Int) - 1) ∧ ∃ z : Nat, qv = .int .i64 (z : Int) ∧ Hid (z = q / sz (T.drop k) ∧ z ≤ 1000000) ∧ ∃ x : List Nat, Own w.heap.size wr (.slice (some ⟨w.heap.size, 0, none⟩) T.length T.length) (ints x) ∧ Hid (x = pad k (at_ (T.drop k) q)) ∧ Below w.heap.size w wr) (fun _ iv _ => (intOf iv + 1).toNat)
  case atStart => exact ⟨T.length, Nat.le_refl _, rfl, q, rfl, Lib.hid ⟨by rw [sz_end]; simp, HQ.out⟩, one T, by have := HO1.out; rw [ints_replicate] at this; exact this, Lib.hid (by simp [at_, pad, one]), HB1.out⟩
  case round =>
    obtain ⟨k, hk, rfl, z, rfl, hzz, x, hox, hx, hb⟩ := hrel
    have HB := Lib.hid hb
    have HOX := Lib.hid hox
    have hp0 := HC.out _ hb
    have hp0s : ∀ u i, (wr.setCell ⟨w.heap.size, i, none⟩ u).cell? ⟨b, o, none⟩ = some (.slice aO T.length cO) := fun u i => HC.out _ (hb.setCell (p := ⟨w.heap.size, i, none⟩) (Nat.le_refl _) u)
    clear hb hox
    by_cases h0 : k = 0
    · subst h0
      have hd : decide (((0 : Nat) : Int) - 1 ≥ 0) = false := by decide
      go_wp2_with fail
      go_ret
      have hxx : x = at_ T q := by have := hx.out; simpa [pad] using this
      subst hxx
      have hl : (ints (at_ T q)).length = T.length := by rw [ints_length, at_length]
      refine ⟨w.heap.size, T.length, by rw [hl]; rfl, ?_, HB.out⟩
      rw [hl]
      exact HOX.out
    · obtain ⟨i, rfl⟩ : ∃ i, k = i + 1 := ⟨k - 1, by omega⟩
      obtain ⟨L, hL⟩ : ∃ L, T[i]? = some L := ⟨_, List.getElem?_eq_getElem (by omega)⟩
      have hii : (((i + 1 : Nat) : Int) - 1) = (i : Int) := by omega
      rw [hii]
      obtain ⟨bO, oO, rfl, _, hbO, hcO0⟩ := HV.out.ord hL
      have hcO : wr.cell? ⟨bO, oO + i, none⟩ = some (.int .i64 (L.o : Int)) := by rw [HB.out.cell hbO]; exact hcO0
      have hgw := HOX.out.lt
      have hng : bO ≠ w.heap.size := by omega
      have ho12 := o_le HT.out HZ.out hL
      have ho1 := ho12.1
      have hxl : x.length = T.length := by rw [hx.out, pad_length, at_length, List.length_drop]; omega
      obtain ⟨xi, hxi⟩ : ∃ a, x[i]? = some a := ⟨_, List.getElem?_eq_getElem (by omega)⟩
      obtain ⟨s1, f1⟩ := HOX.out.cell (j := i) (a := (xi : Int)) (by rw [ints_get, hxi]; rfl)
      have k1 : ∀ u, (wr.setCell ⟨w.heap.size, i, none⟩ u).cell? ⟨bO, oO + i, none⟩ = some (.int .i64 (L.o : Int)) := fun u => by rw [(HB.out.setCell (p := ⟨w.heap.size, i, none⟩) (Nat.le_refl _) u).cell hbO]; exact hcO0
      have k2 : ∀ u, (wr.setCell ⟨w.heap.size, i, none⟩ u).cell? ⟨b, o, none⟩ = some (.slice (some ⟨bO, oO, none⟩) T.length cO) := fun u => hp0s u i
      have hb1 : (0 : Int) ≤ (z : Int) % (L.o : Int) := Int.emod_nonneg _ (by omega)
      have hne : ((L.o : Int) == 0) = false := by simp; omega
      have HLL := Lib.hid hL
      have HQW := Lib.hid (show wrap64 ((z : Int) / (L.o : Int)) = (z : Int) / (L.o : Int) from by
        have h1 : (0 : Int) ≤ (z : Int) / (L.o : Int) := Int.ediv_nonneg (by omega) (by omega)
        have h2 : (z : Int) / (L.o : Int) ≤ (z : Int) := Int.ediv_le_self _ (by omega)
        have h3 := hzz.out.2
        exact wrap_i64 h1 (by omega))
      clear hL h0 hii hcO0 ho12 hp0s
      go_wp2_with fail
      go_roundw
      case rel =>
        refine ⟨i, by omega, rfl, z / L.o, by rw [HQW.out]; simp, Lib.hid ⟨?_, ?_⟩, pad i (at_ (T.drop i) q), ?_, Lib.hid rfl, HB.out.setCell (by simp) _⟩
        · rw [hzz.out.1, quo_step HLL.out]
        · exact Nat.le_trans (Nat.div_le_self _ _) hzz.out.2
        · have h := HOX.out.set_n i (z % L.o)
          have e : x.set i (z % L.o) = pad i (at_ (T.drop i) q) := by
            rw [hx.out, at_step HLL.out, hzz.out.1, pad_set]
          rw [e] at h
          simpa using h.1
      case measure => simp [intOf] <;> omega
end Go.Proofs.YtabkibmnghbahaaGreat.ImplN

namespace Go.Proofs.YtabkibmnghbahaaGreat.ImplO
open Go.RowKit Go.Proofs.YtabkibmnghbahaaGreat Go.Proofs.YtabkibmnghbahaaGreat.Tow Go.Proofs.YtabkibmnghbahaaGreat.NumT Go.Proofs.YtabkibmnghbahaaGreat.ImplN
set_option linter.unusedVariables false
set_option linter.unusedSimpArgs false

/-- all elements, in ascending order -/
def allE (T : Tw) (k : Nat) : List (List Nat) := (List.range k).map (at_ T)
theorem allE_succ (T : Tw) (k : Nat) : allE T (k + 1) = allE T k ++ [at_ T k] := by simp [allE, List.range_succ]
theorem allE_length (T : Tw) (k : Nat) : (allE T k).length = k := by simp [allE]

set_option maxRecDepth 100000 in
set_option maxHeartbeats 1000000 in
theorem all_any (T : Tw) (hT : Wf T) (hs : T.length ≤ 6) (hz : sz T ≤ 729) (w : World) (b o : Nat) (hP : PtrP Any w b o (ofTw T)) :
    Calls Tryz.prog 78 #[.pointer (some ⟨b, o, none⟩)] w (New2 22 2 (allE T (sz T)) w) := by
  obtain ⟨i0, hi, hz0, hz1, hz2⟩ := info_parts infoR
  have HO := Lib.hid (fun W h => order_any T hT hs hz W b o h)
  have HA := Lib.hid (fun q hq W h => at_any T hT hs hz q hq W b o h)
  have HP := Lib.hid hP
  have HZ := Lib.hid hz
  clear hP hT hz
  go_enter Tryz.func78, Tryz.ntmps78
  go_wp2_with fail
  refine (HO.out _ HP.out).mono ?_
  rintro e w0 ⟨rfl, hb0⟩
  have HB0 := Lib.hid hb0
  clear hb0
  go_wp2_with fail
  go_loopw [3, 7] (fun ov i wr => ∃ k : Nat, k ≤ sz T ∧ i = .int .i64 (k : Int) ∧ Hid (Own2 22 2 w.heap.size wr ov (allE T k)) ∧ Below w.heap.size w wr) (fun _ i _ => sz T - (intOf i).toNat)
  case atStart => exact ⟨0, Nat.zero_le _, rfl, Lib.hid (Own2.nil _ _ _ _), HB0.out⟩
  case round =>
    obtain ⟨k, hk, rfl, ho2, hb⟩ := hrel
    have HB := Lib.hid hb
    clear hb
    by_cases hlt : k < sz T
    · have hd : decide ((k : Int) < (sz T : Int)) = true := by simp; omega
      go_wp2_with fail
      refine (HA.out k (by have := HZ.out; omega) _ (HP.out.keep (Keep.of_below HB.out))).mono ?_
      rintro e w1 ⟨g, c, rfl, ho, hb1⟩
      have HB1 := Lib.hid (HB.out.trans (hb1.mono HB.out.size))
      have HR := Lib.hid (NewS.row (ho.mono (B' := w.heap.size) HB.out.size))
      obtain ⟨us, h1, h2, h4⟩ := ho2.out.of_below hb1
      have HU := Lib.hid (And.intro h2 h4)
      rw [allE_length] at h1
      clear ho hb1 h2 h4 ho2
      go_wp2_with (at_builtin; (refine wpList_append_own _ rfl _ _ 23 rfl w.heap.size 22 i0 (.slice none 0 0) 1 24 Tryz.underlying23 hi hz0 hz1 hz2 rfl (by decide) _ _ _ rfl (h1.alloc _) ⟨w1.heap.size, 0, none⟩ 1 1 [.slice (some ⟨g, 0, none⟩) (ints (at_ T k)).length c] rfl rfl ?c1 ?c2 ?c3 ?c4 ?c5 ?_))
      case c1 =>
        intro j u hj
        match j, hj with
        | 0, hj => simp at hj; subst hj; simp [Addr.add]
      case c2 => intro u hu; simp at hu; subst hu; rfl
      case c3 => have := HZ.out; unfold maxLen; omega
      case c4 => have := HZ.out; omega
      case c5 => have := HB1.out.size; simp; omega
      · intro v' w2 hown hgrow _
        have HN := Lib.hid (show Own2 22 2 w.heap.size w2 v' (allE T (k + 1)) from by
          rw [allE_succ]
          exact Own2.push (w := w1.alloc _) (us := us) (by decide) (allE_length T k) (h1.alloc _) HU.out.1 (fun i r u hr hu => (HU.out.2 i r u hr hu).keep (S := fun _ => True) ((Keep.refl _ _).alloc _) (fun _ _ => trivial)) (HR.out.keep (S := fun _ => True) ((Keep.refl _ _).alloc _) (fun _ _ => trivial)) hown hgrow)
        have HB2 := Lib.hid (show Below w.heap.size w w2 from (HB1.out.alloc (by have := HB1.out.size; omega) _).grown hgrow (by simp; have := HB1.out.size; omega) (fun g hg => (World.ownsRow.lt h1 g hg).1))
        have hk729 : (k : Int) ≤ 729 := by have := HZ.out; omega
        clear hown hgrow h1 HU HR
        go_wp2_with fail
        go_roundw
        case rel => exact ⟨k + 1, by omega, by go_num, HN, HB2.out⟩
        case measure => simp [intOf]; omega
    · obtain rfl : k = sz T := by omega
      have hd : decide ((sz T : Int) < (sz T : Int)) = false := by simp
      go_wp2_with fail
      go_ret
      exact ⟨_, rfl, ho2.out, HB.out⟩
end Go.Proofs.YtabkibmnghbahaaGreat.ImplO
