import Derived.Test.YtpdjpiabbciajaaDoorProg
import Derived.Test.YtpdjpiabbciajaaDoorRecPlain
import Derived.WalkKit
import Derived.WalkSpells
import Derived.WalkLawsBesides
import Derived.BigQuiet
import Derived.Deep.QuietTactic
import Derived.Lib.Hide
import Derived.Outline
import Derived.Handy
import Derived.Laws.BitsAllLaws
import Derived.Deep.RegionHeld
namespace Go.Proofs.YtpdjpiabbciajaaDoor.RecFmt
open Go.RowKit Go.Proofs.YtpdjpiabbciajaaDoor.RecPlain
set_option linter.unusedVariables false
set_option linter.unusedSimpArgs false

theorem pow2_16 (w : World) : Calls Tryd.prog 52 #[.int .i64 16] w fun e w' => e = .returned (.bool true) ∧ w = w' := by
  go_enter Tryd.func52, Tryd.ntmps52
  go_wp2
  go_ret
  exact ⟨rfl, rfl⟩
theorem tz64_16 (w : World) (hT : w.cell? ⟨5, 15, none⟩ = some (.int .u8 4)) : Calls Tryd.prog 63 #[.int .u64 16] w fun e w' => e = .returned (.int .i64 4) ∧ w = w' := by
  have k1 : (IntKind.u64.wrap (bits BinOp.and IntKind.u64 16 (IntKind.u64.wrap (-16)) * 285870213051353865) / 288230376151711744).toNat = 15 := by decide +kernel
  go_enter Tryd.func63, Tryd.ntmps63
  go_wp2
  go_ret
  exact ⟨rfl, rfl⟩
theorem tz_16 (w : World) (hT : w.cell? ⟨5, 15, none⟩ = some (.int .u8 4)) : Calls Tryd.prog 53 #[.int .u64 16] w fun e w' => e = .returned (.int .i64 4) ∧ w = w' := by
  go_enter Tryd.func53, Tryd.ntmps53
  go_wp2_with fail
  refine (tz64_16 _ hT).mono ?_; rintro e w' ⟨rfl, rfl⟩
  go_wp2_with fail
  go_ret
  exact ⟨rfl, rfl⟩

theorem and15 (x : Int) (h1 : 0 ≤ x) (h2 : x < 131072) : bits .and .u64 x 15 = x % 16 := by
  obtain ⟨k, rfl⟩ := Int.eq_ofNat_of_zero_le h1
  have := u64_and_nat k 15 (by omega) (by omega)
  rw [show ((15 : Nat) : Int) = 15 from rfl] at this
  rw [this, show (15 : Nat) = 2 ^ 4 - 1 from rfl, Nat.and_two_pow_sub_one_eq_mod]
  rfl

def alpha : ByteArray := ⟨#[48, 49, 50, 51, 52, 53, 54, 55, 56, 57, 97, 98, 99, 100, 101, 102, 103, 104, 105, 106, 107, 108, 109, 110, 111, 112, 113, 114, 115, 116, 117, 118, 119, 120, 121, 122]⟩
theorem alpha_get (k : Nat) (hk : k < 16) (h : k < alpha.size) : alpha[k]'h = hexd k := by
  have key : ∀ k : Fin 16, ∀ h : k.val < alpha.size, alpha[k.val]'h = hexd k.val := by decide
  exact key ⟨k, hk⟩ h
theorem hex5_cells (n : Nat) (h1 : 65536 ≤ n) (h2 : n < 131072) (C : Array Value) (a b c d e : Nat) (ha : a < alpha.size) (hb : b < alpha.size) (hc : c < alpha.size) (hd : d < alpha.size) (he : e < alpha.size)
    (ea : a = n / 16 / 16 / 16 / 16) (eb : b = n / 16 / 16 / 16 % 16) (ec : c = n / 16 / 16 % 16) (ed : d = n / 16 % 16) (ee : e = n % 16)
    (c0 : C[60]? = some (.int .u8 (alpha[a]'ha).toNat)) (c1 : C[61]? = some (.int .u8 (alpha[b]'hb).toNat)) (c2 : C[62]? = some (.int .u8 (alpha[c]'hc).toNat)) (c3 : C[63]? = some (.int .u8 (alpha[d]'hd).toNat)) (c4 : C[64]? = some (.int .u8 (alpha[e]'he).toNat)) (w : World) :
    (convert 42 9 (.slice (some ⟨w.heap.size, 60, none⟩) 5 5)).run Tryd.prog (w.alloc (.cells C 73)) = .ok (.string ⟨(49 :: hex4 (n - 65536)).toArray⟩) (w.alloc (.cells C 73)) := by
  refine run_convert_bytes_back (P := Tryd.prog) (w.alloc (.cells C 73)) 42 9 5 ⟨w.heap.size, 60, none⟩ 5 (49 :: hex4 (n - 65536)) Tryd.underlying42 Tryd.underlying5 Tryd.underlying9 ?_
  rw [alpha_get a (by omega)] at c0
  rw [alpha_get b (by omega)] at c1
  rw [alpha_get c (by omega)] at c2
  rw [alpha_get d (by omega)] at c3
  rw [alpha_get e (by omega)] at c4
  have f0 : a = 1 := by omega
  have f1 : b = (n - 65536) / 4096 := by omega
  have f2 : c = (n - 65536) / 256 % 16 := by omega
  have f3 : d = (n - 65536) / 16 % 16 := by omega
  have f4 : e = (n - 65536) % 16 := by omega
  generalize n - 65536 = m at f1 f2 f3 f4 ⊢
  intro j hj
  have hj' : j < 5 := hj
  rw [show (Addr.add ⟨w.heap.size, 60, none⟩ j) = ⟨w.heap.size, 60 + j, none⟩ by simp [Addr.add], World.cell?_alloc_new]
  match j, hj' with
  | 0, _ => rw [c0, f0]; rfl
  | 1, _ => rw [c1, f1]; rfl
  | 2, _ => rw [c2, f2]; rfl
  | 3, _ => rw [c3, f3]; rfl
  | 4, _ => rw [c4, f4]; rfl

set_option maxRecDepth 100000 in
set_option maxHeartbeats 400000 in
theorem formatBits_16 (n : Nat) (h1 : 65536 ≤ n) (h2 : n < 131072) (w : World) (hT : w.cell? ⟨5, 15, none⟩ = some (.int .u8 4)) :
    Calls Tryd.prog 45 #[.slice none 0 0, .int .u64 n, .int .i64 16, .bool false, .bool false] w fun e w' =>
      e = .returned (.tuple #[.slice none 0 0, .string ⟨(49 :: hex4 (n - 65536)).toArray⟩]) ∧ Below w.heap.size w w' := by
  have a1 := and15 (n : Int) (by omega) (by omega)
  have a2 := and15 ((n : Int) / 16) (by omega) (by omega)
  have a3 := and15 ((n : Int) / 16 / 16) (by omega) (by omega)
  have a4 := and15 ((n : Int) / 16 / 16 / 16) (by omega) (by omega)
  go_enter Tryd.func45, Tryd.ntmps45
  go_wp2_with fail
  refine (pow2_16 _).mono ?_; rintro e w' ⟨rfl, rfl⟩
  go_wp2_with fail
  refine (tz_16 _ (by rw [World.cell?_alloc_some w _ _ (by rw [hT]; rfl)]; exact hT)).mono ?_; rintro e w' ⟨rfl, rfl⟩
  go_wp2_with fail
  refine wp_loop_rounds 5 ?_
  iterate 5 (rw [rounds_succ]; go_wp2_with fail)
  rw [hex5_cells n h1 h2 _ (n / 16 / 16 / 16 / 16) (n / 16 / 16 / 16 % 16) (n / 16 / 16 % 16) (n / 16 % 16) (n % 16) (by show _ < 36; omega) (by show _ < 36; omega) (by show _ < 36; omega) (by show _ < 36; omega) (by show _ < 36; omega) rfl rfl rfl rfl rfl ?c0 ?c1 ?c2 ?c3 ?c4 w]
  case c0 => simp [alpha, Tryd.zeroCells73]
  case c1 => simp [alpha, Tryd.zeroCells73]
  case c2 => simp [alpha, Tryd.zeroCells73]
  case c3 => simp [alpha, Tryd.zeroCells73]
  case c4 => simp [alpha, Tryd.zeroCells73]
  go_wp2
  go_ret2
  exact ⟨rfl, (Below.refl _ _).alloc (Nat.le_refl _) _⟩

theorem innerFmt_16 (n : Nat) (h1 : 65536 ≤ n) (h2 : n < 131072) (w : World) (hT : w.cell? ⟨5, 15, none⟩ = some (.int .u8 4)) :
    Calls Tryd.prog 35 #[.int .i64 n, .int .i64 16] w fun e w' =>
      e = .returned (.string ⟨(49 :: hex4 (n - 65536)).toArray⟩) ∧ Below w.heap.size w w' := by
  go_enter Tryd.func35, Tryd.ntmps35
  go_wp2_with fail
  refine (formatBits_16 n h1 h2 _ hT).mono ?_; rintro e w' ⟨rfl, hb⟩
  go_wp2_with fail
  go_ret
  exact ⟨rfl, hb⟩
theorem fmt_16 (n : Nat) (h1 : 65536 ≤ n) (h2 : n < 131072) (w : World) (hT : w.cell? ⟨5, 15, none⟩ = some (.int .u8 4)) :
    Calls Tryd.prog 24 #[.int .i64 n, .int .i64 16] w fun e w' =>
      e = .returned (.string ⟨(49 :: hex4 (n - 65536)).toArray⟩) ∧ Below w.heap.size w w' := by
  go_enter Tryd.func24, Tryd.ntmps24
  go_wp2_with fail
  refine (innerFmt_16 n h1 h2 _ hT).mono ?_; rintro e w' ⟨rfl, hb⟩
  go_wp2_with fail
  go_ret
  exact ⟨rfl, hb⟩
theorem fmt_hex (c : Nat) (h : c < 65521) (w : World) (hT : w.cell? ⟨5, 15, none⟩ = some (.int .u8 4)) :
    Calls Tryd.prog 24 #[.int .i64 (65536 + (c : Int)), .int .i64 16] w fun e w' =>
      e = .returned (.string (fmtS c)) ∧ Below w.heap.size w w' := by
  have h1 := fmt_16 (65536 + c) (by omega) (by omega) w hT
  rw [Nat.add_sub_cancel_left] at h1
  exact h1
end Go.Proofs.YtpdjpiabbciajaaDoor.RecFmt
