import Derived.Test.YtpdjpiabbciajaaDoorRecFmt
import Derived.Laws.IdiomStrings
import Derived.Below
namespace Go.Proofs.YtpdjpiabbciajaaDoor.RecWalks
open Go.RowKit Go.Proofs.YtpdjpiabbciajaaDoor.RecPlain
set_option linter.unusedVariables false
set_option linter.unusedSimpArgs false

/-- '[]byte(s)': a new block that holds the bytes. -/
theorem bytes_of (s : ByteArray) (w : World) : ∃ cap W1, (convert 9 42 (.string s)).run Tryd.prog w = .ok (.slice (some ⟨w.heap.size, 0, none⟩) s.size cap) W1 ∧ Below w.heap.size w W1 ∧
    ∀ k (hk : k < s.size), W1.cell? ⟨w.heap.size, k, none⟩ = some (.int .u8 s[k].toNat) := by
  refine ⟨_, _, run_bytes_of_string w 9 42 5 s Tryd.underlying9 Tryd.underlying42 Tryd.underlying5, (Below.refl _ _).drew.alloc (Nat.le_refl _) _, fun k hk => ?_⟩
  rw [show w.heap.size = w.drew.heap.size from rfl, World.cell?_alloc_mark, bytesRow_at s _ k hk]
  rfl

theorem step_eq (c b : Nat) (hc : c < 65521) (hb : b < 256) : ((31 * (c : Int) + (b : Int) + 1) % 65521) = ((chk1 c b : Nat) : Int) := by
  unfold chk1; omega

set_option maxRecDepth 100000 in
set_option maxHeartbeats 400000 in
theorem recordOf_any (s : ByteArray) (w : World) (hs : s.size ≤ 1000000000) (hT : w.cell? ⟨5, 15, none⟩ = some (.int .u8 4)) :
    Calls Tryd.prog 17 #[.string s] w fun e w' => e = .returned (.string ⟨(recList s.data.toList).toArray⟩) ∧ Below w.heap.size w w' := by
  obtain ⟨cap, W1, hcv, hb1, hc1⟩ := bytes_of s w
  have HB1 := Lib.hid hb1
  have HC1 := Lib.hid hc1
  have HT := Lib.hid (show W1.cell? ⟨5, 15, none⟩ = some (.int .u8 4) by rw [hb1.cell (p := ⟨5, 15, none⟩) (World.block_lt_of_cell? w _ hT)]; exact hT)
  clear hb1 hc1 hT
  go_enter Tryd.func17, Tryd.ntmps17
  go_wp2_with fail
  clear hcv
  go_loop [3, 5, 10] (fun c _ i => ∃ k : Nat, k ≤ s.size ∧ i = .int .i64 k ∧ c = .int .i64 (chk (s.data.toList.take k))) (fun _ _ i => s.size - (intOf i).toNat)
  case atStart => exact ⟨0, Nat.zero_le _, rfl, rfl⟩
  case round =>
    obtain ⟨k, hk, rfl, rfl⟩ := hrel
    have hc := chk_lt (s.data.toList.take k)
    by_cases hlt : k < s.size
    · have hcell := HC1.out k hlt
      have HS := Lib.hid (step_eq (chk (s.data.toList.take k)) s[k].toNat hc (UInt8.toNat_lt s[k]))
      have HS2 := Lib.hid ((congrArg chk (take_snoc s k hlt)).trans (chk_snoc _ _))
      have hb := UInt8.toNat_lt s[k]
      have hc' : (chk (s.data.toList.take k) : Int) < 65521 := by omega
      have hb' : (s[k].toNat : Int) < 256 := by omega
      go_wp2_with fail
      go_round
      case rel => exact ⟨k + 1, by omega, by go_num, by rw [HS2.out, ← HS.out]⟩
      case measure => simp [intOf]; omega
    · obtain rfl : k = s.size := by omega
      have htake : s.data.toList.take s.size = s.data.toList := List.take_of_length_le (Nat.le_refl _)
      rw [htake] at hc ⊢
      clear htake
      have hc' : (chk s.data.toList : Int) < 65521 := by omega
      go_wp2_with fail
      refine (RecFmt.fmt_hex (chk s.data.toList) hc _ HT.out).mono ?_; rintro e w' ⟨rfl, hb2⟩
      have HB2 := Lib.hid hb2
      clear hlt hk hb2
      generalize ht : fmtS (chk s.data.toList) = t
      have hz1 : 1 ≤ t.size := by rw [← ht, fmtS_size]; omega
      have hz2 : t.size ≤ 5 := by rw [← ht, fmtS_size]; omega
      have HE := Lib.hid ht.symm
      clear ht
      go_wp2_with fail
      go_ret
      exact ⟨congrArg (fun x => Ending.returned (Value.string x)) (rec_eq s t HE.out), HB1.out.trans (HB2.out.mono HB1.out.size)⟩

set_option maxRecDepth 100000 in
set_option maxHeartbeats 400000 in
theorem check_any (s : ByteArray) (w : World) (hs : s.size ≤ 1000000000) :
    Calls Tryd.prog 23 #[.string s] w fun e w' => e = .returned (.string (hexS (chk s.data.toList))) ∧ Below w.heap.size w w' := by
  go_enter Tryd.func23, Tryd.ntmps23
  go_wp2_with fail
  go_loop [3, 4] (fun c i => ∃ k : Nat, k ≤ s.size ∧ i = .int .i64 k ∧ c = .int .i64 (chk (s.data.toList.take k))) (fun _ i => s.size - (intOf i).toNat)
  case atStart => exact ⟨0, Nat.zero_le _, rfl, rfl⟩
  case round =>
    obtain ⟨k, hk, rfl, rfl⟩ := hrel
    have hc := chk_lt (s.data.toList.take k)
    by_cases hlt : k < s.size
    · have HS := Lib.hid (step_eq (chk (s.data.toList.take k)) s[k].toNat hc (UInt8.toNat_lt s[k]))
      have HS2 := Lib.hid ((congrArg chk (take_snoc s k hlt)).trans (chk_snoc _ _))
      have hb := UInt8.toNat_lt s[k]
      have hc' : (chk (s.data.toList.take k) : Int) < 65521 := by omega
      have hb' : (s[k].toNat : Int) < 256 := by omega
      go_wp2_with fail
      go_round
      case rel => exact ⟨k + 1, by omega, by go_num, by rw [HS2.out, ← HS.out]⟩
      case measure => simp [intOf]; omega
    · obtain rfl : k = s.size := by omega
      have htake : s.data.toList.take s.size = s.data.toList := List.take_of_length_le (Nat.le_refl _)
      rw [htake] at hc ⊢
      clear htake hk hlt
      have hc' : (chk s.data.toList : Int) < 65521 := by omega
      go_wp2_with fail
      have HC := Lib.hid hc
      have HQ : ∀ c, c = chk s.data.toList → Hid (_ = _) := fun c hcc => Lib.hid (hex4_eq c (by rw [hcc]; exact hc))
      have HQ' := Lib.hid HQ
      clear HQ
      generalize hcc : chk s.data.toList = c at hc hc' ⊢
      have HCC := Lib.hid hcc
      clear hcc
      go_quiet (fail)
      go_wp2_with fail
      go_ret
      exact ⟨congrArg (fun x => Ending.returned (Value.string x)) ((HQ'.out c HCC.out.symm).out.trans (congrArg hexS HCC.out.symm)), below_drewN (Below.refl _ _) nq⟩

set_option maxRecDepth 100000 in
set_option maxHeartbeats 400000 in
theorem record_any (s : ByteArray) (w : World) (hs : s.size ≤ 1000000000) :
    Calls Tryd.prog 16 #[.string s] w fun e w' => e = .returned (.string ⟨(recList s.data.toList).toArray⟩) ∧ Below w.heap.size w w' := by
  go_enter Tryd.func16, Tryd.ntmps16
  go_wp2_with fail
  refine (check_any s _ hs).mono ?_; rintro e w' ⟨rfl, hb2⟩
  have HB2 := Lib.hid hb2
  clear hb2
  generalize ht : hexS (chk s.data.toList) = t
  have hz2 : t.size ≤ 4 := by rw [← ht, hexS_size]; omega
  have HE := Lib.hid ht.symm
  clear ht
  go_wp2_with fail
  go_ret
  exact ⟨congrArg (fun x => Ending.returned (Value.string x)) (rec_eq' s t HE.out), HB2.out⟩
end Go.Proofs.YtpdjpiabbciajaaDoor.RecWalks
