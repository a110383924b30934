import Derived.Test.YtpdjpiabbciajaaDoorRecWalks
import Derived.Laws.ResultCell
namespace Go.Proofs.YtpdjpiabbciajaaDoor.NewWalks
open Go.RowKit Go.Proofs.YtpdjpiabbciajaaDoor.RecPlain
set_option linter.unusedVariables false
set_option linter.unusedSimpArgs false

def dev1 : ByteArray := ⟨(recList [103, 32, 49]).toArray⟩ ++ ⟨(recList [115]).toArray⟩

theorem bcell {W w1 : World} (hb : Below W.heap.size W w1) : (∀ b o, b < W.heap.size → w1.cell? ⟨b, o, none⟩ = W.cell? ⟨b, o, none⟩) ∧ (∀ b o, b < W.heap.size → w1.frozen? ⟨b, o, none⟩ = W.frozen? ⟨b, o, none⟩) :=
  ⟨fun b o h => hb.cell (p := ⟨b, o, none⟩) h, fun b o h => hb.frozen (p := ⟨b, o, none⟩) h⟩

set_option maxRecDepth 100000 in
set_option maxHeartbeats 400000 in
theorem implNew_any (w : World) (hT : w.cell? ⟨5, 15, none⟩ = some (.int .u8 4)) :
    Calls Tryd.prog 8 #[] w fun e w' => e = .returned (.agg #[.string dev1, .string ⟨#[]⟩]) ∧ Below w.heap.size w w' := by
  have hT1 := World.block_lt_of_cell? w _ hT
  go_enter Tryd.func8, Tryd.ntmps8
  go_wp2_with fail
  refine (RecWalks.recordOf_any ⟨#[103, 32, 49]⟩ _ (by decide) (by rw [World.cell?_alloc_some w _ _ (by rw [hT]; rfl)]; exact hT)).mono ?_; rintro e w1 ⟨rfl, hb1⟩
  have c0 : w1.cell? ⟨w.heap.size, 0, none⟩ = some (.string ⟨#[]⟩) := by rw [hb1.cell (by simp)]; simp
  have c1 : w1.cell? ⟨w.heap.size, 1, none⟩ = some (.string ⟨#[]⟩) := by rw [hb1.cell (by simp)]; simp
  have f0 : w1.frozen? ⟨w.heap.size, 0, none⟩ = false := by rw [hb1.frozen (by simp)]; simp [go_sem]
  have f1 : w1.frozen? ⟨w.heap.size, 1, none⟩ = false := by rw [hb1.frozen (by simp)]; simp [go_sem]
  have z1 : w.heap.size < w1.heap.size := by have := hb1.size; simp at this; omega
  have HB1 := Lib.hid (show Below w.heap.size w w1 from ((Below.refl _ _).alloc (Nat.le_refl _) _).trans (hb1.mono (by simp)))
  have HT1 := Lib.hid (show w1.cell? ⟨5, 15, none⟩ = some (.int .u8 4) by rw [hb1.cell (by simp; omega), World.cell?_alloc_some w _ _ (by rw [hT]; rfl)]; exact hT)
  clear hb1
  generalize he1 : (⟨(recList (ByteArray.mk #[103, 32, 49]).data.toList).toArray⟩ : ByteArray) = s1
  have hz1 : s1.size ≤ 9 := by rw [← he1]; decide
  have HE1 := Lib.hid he1
  clear he1
  go_wp2_with fail
  refine (RecWalks.recordOf_any ⟨#[115]⟩ _ (by decide) HT1.out).mono ?_; rintro e w2 ⟨rfl, hb2⟩
  have d0 : w2.cell? ⟨w.heap.size, 0, none⟩ = some (.string ⟨#[]⟩) := by rw [hb2.cell z1]; exact c0
  have d1 : w2.cell? ⟨w.heap.size, 1, none⟩ = some (.string ⟨#[]⟩) := by rw [hb2.cell z1]; exact c1
  have g0 : w2.frozen? ⟨w.heap.size, 0, none⟩ = false := by rw [hb2.frozen z1]; exact f0
  have g1 : w2.frozen? ⟨w.heap.size, 1, none⟩ = false := by rw [hb2.frozen z1]; exact f1
  have z2 : w.heap.size < w2.heap.size := by have := hb2.size; omega
  have HB2 := Lib.hid (HB1.out.trans (hb2.mono (Nat.le_of_lt z1)))
  clear hb2 c0 c1 f0 f1 z1
  generalize he2 : (⟨(recList (ByteArray.mk #[115]).data.toList).toArray⟩ : ByteArray) = s2
  have hz2 : s2.size ≤ 7 := by rw [← he2]; decide
  have HE2 := Lib.hid he2
  clear he2
  go_wp2_with fail
  refine bodyPost_ret (v := .agg #[.string (s1 ++ s2), .string ⟨#[]⟩]) (by simp [results, Tryd.results8, go_sem, d0, d1]) rfl ⟨?_, ?_⟩
  · rw [← HE1.out, ← HE2.out]; rfl
  · exact (HB2.out.setCell (Nat.le_refl _) _).setCell (Nat.le_refl _) _
set_option maxRecDepth 100000 in
set_option maxHeartbeats 400000 in
theorem specNew_any (w : World) :
    Calls Tryd.prog 7 #[] w fun e w' => e = .returned (.agg #[.string dev1, .string ⟨#[]⟩]) ∧ Below w.heap.size w w' := by
  go_enter Tryd.func7, Tryd.ntmps7
  go_wp2_with fail
  refine (RecWalks.record_any ⟨#[103, 32, 49]⟩ _ (by decide)).mono ?_; rintro e w1 ⟨rfl, hb1⟩
  have c0 : w1.cell? ⟨w.heap.size, 0, none⟩ = some (.string ⟨#[]⟩) := by rw [hb1.cell (by simp)]; simp
  have c1 : w1.cell? ⟨w.heap.size, 1, none⟩ = some (.string ⟨#[]⟩) := by rw [hb1.cell (by simp)]; simp
  have f0 : w1.frozen? ⟨w.heap.size, 0, none⟩ = false := by rw [hb1.frozen (by simp)]; simp [go_sem]
  have f1 : w1.frozen? ⟨w.heap.size, 1, none⟩ = false := by rw [hb1.frozen (by simp)]; simp [go_sem]
  have z1 : w.heap.size < w1.heap.size := by have := hb1.size; simp at this; omega
  have HB1 := Lib.hid (show Below w.heap.size w w1 from ((Below.refl _ _).alloc (Nat.le_refl _) _).trans (hb1.mono (by simp)))
  clear hb1
  generalize he1 : (⟨(recList (ByteArray.mk #[103, 32, 49]).data.toList).toArray⟩ : ByteArray) = s1
  have hz1 : s1.size ≤ 9 := by rw [← he1]; decide
  have HE1 := Lib.hid he1
  clear he1
  go_wp2_with fail
  refine (RecWalks.record_any ⟨#[115]⟩ _ (by decide)).mono ?_; rintro e w2 ⟨rfl, hb2⟩
  have d0 : w2.cell? ⟨w.heap.size, 0, none⟩ = some (.string ⟨#[]⟩) := by rw [hb2.cell z1]; exact c0
  have d1 : w2.cell? ⟨w.heap.size, 1, none⟩ = some (.string ⟨#[]⟩) := by rw [hb2.cell z1]; exact c1
  have g0 : w2.frozen? ⟨w.heap.size, 0, none⟩ = false := by rw [hb2.frozen z1]; exact f0
  have g1 : w2.frozen? ⟨w.heap.size, 1, none⟩ = false := by rw [hb2.frozen z1]; exact f1
  have z2 : w.heap.size < w2.heap.size := by have := hb2.size; omega
  have HB2 := Lib.hid (HB1.out.trans (hb2.mono (Nat.le_of_lt z1)))
  clear hb2 c0 c1 f0 f1 z1
  generalize he2 : (⟨(recList (ByteArray.mk #[115]).data.toList).toArray⟩ : ByteArray) = s2
  have hz2 : s2.size ≤ 7 := by rw [← he2]; decide
  have HE2 := Lib.hid he2
  clear he2
  go_wp2_with fail
  refine bodyPost_ret (v := .agg #[.string (s1 ++ s2), .string ⟨#[]⟩]) (by simp [results, Tryd.results7, go_sem, d0, d1]) rfl ⟨?_, ?_⟩
  · rw [← HE1.out, ← HE2.out]; rfl
  · exact (HB2.out.setCell (Nat.le_refl _) _).setCell (Nat.le_refl _) _

theorem eqDevice_any (a b : ByteArray) (w : World) :
    Calls Tryd.prog 9 #[.agg #[.string a, .string b], .agg #[.string a, .string b]] w fun e w' => e = .returned (.bool true) ∧ Below w.heap.size w w' := by
  go_enter Tryd.func9, Tryd.ntmps9
  go_wp2
  go_ret
  exact ⟨rfl, ((Below.refl _ _).alloc (Nat.le_refl _) _).alloc (by simp) _⟩

set_option maxHeartbeats 400000 in
theorem law (w : World) (hT : w.cell? ⟨5, 15, none⟩ = some (.int .u8 4)) :
    Calls Tryd.prog 3 #[] w fun e w' => e = .returned (.bool true) ∧ Below w.heap.size w w' := by
  go_enter Tryd.func3, Tryd.ntmps3
  go_wp2_with fail
  refine (specNew_any _).mono ?_; rintro e w1 ⟨rfl, hb1⟩
  have hT1 : w1.cell? ⟨5, 15, none⟩ = some (.int .u8 4) := by rw [hb1.cell (p := ⟨5, 15, none⟩) (World.block_lt_of_cell? w _ hT)]; exact hT
  have HB1 := Lib.hid hb1
  have HT1 := Lib.hid hT1
  clear hb1 hT1 hT
  generalize hdv : dev1 = t
  have HDV := Lib.hid hdv
  clear hdv
  go_wp2_with fail
  refine (implNew_any _ (by rw [World.cell?_alloc_some w1 _ _ (by rw [HT1.out]; rfl)]; exact HT1.out)).mono ?_; rintro e w2 ⟨rfl, hb2⟩
  rw [HDV.out]
  have c0 : w2.cell? ⟨w1.heap.size, 0, none⟩ = some (.string t) := by rw [hb2.cell (by simp)]; simp
  have c1 : w2.cell? ⟨w1.heap.size, 1, none⟩ = some (.string ⟨#[]⟩) := by rw [hb2.cell (by simp)]; simp
  have z1 : w1.heap.size < w2.heap.size := by have := hb2.size; simp at this; omega
  have HB2 := Lib.hid (HB1.out.trans ((((Below.refl _ _).alloc (Nat.le_refl _) _).trans (hb2.mono (by simp))).mono HB1.out.size))
  clear hb2
  go_wp2_with fail
  refine (eqDevice_any _ _ _).mono ?_; rintro e w3 ⟨rfl, hb3⟩
  have HB3 := Lib.hid hb3
  clear hb3
  go_wp2_with fail
  go_ret
  refine ⟨rfl, ?_⟩
  have h2 := HB2.out.alloc HB2.out.size (.cells #[.string t, .string ⟨#[]⟩] 23)
  exact h2.trans (HB3.out.mono h2.size)
/-- the law, given the table -/
theorem lawT (W : World) (hT : ∀ i (hi : i < 64), W.cell? ⟨5, i, none⟩ = some (.int .u8 (([0, 1, 56, 2, 57, 49, 28, 3, 61, 58, 42, 50, 38, 29, 17, 4, 62, 47, 59, 36, 45, 43, 51, 22, 53, 39, 33, 30, 24, 18, 12, 5, 63, 55, 48, 27, 60, 41, 37, 16, 46, 35, 44, 21, 52, 32, 23, 11, 54, 26, 40, 15, 34, 20, 31, 10, 25, 14, 19, 9, 13, 8, 7, 6] : List Int).getD i 0))) :
    Calls Tryd.prog 3 #[] W fun e w' => e = .returned (.bool true) ∧ Below W.heap.size W w' :=
  law W (hT 15 (by decide))
end Go.Proofs.YtpdjpiabbciajaaDoor.NewWalks
