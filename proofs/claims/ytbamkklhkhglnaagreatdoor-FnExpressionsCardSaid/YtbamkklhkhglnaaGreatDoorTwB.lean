import Derived.Test.YtbamkklhkhglnaaGreatDoorTwA
import Derived.Test.YtbamkklhkhglnaaGreatDoorShelf
import Derived.Test.YtbamkklhkhglnaaGreatDoorImplG
import Derived.Test.YtbamkklhkhglnaaGreatDoorNumD
import Derived.Deep.RegionHeld3
import Derived.Deep.LoopGhost
/-
  Rows of texts; letters; joining. impl.letterOf; spec.l07Letter, l01Zero.
-/
namespace Go.Proofs.YtbamkklhkhglnaaGreatDoor.TwB
open Go.RowKit Go.Lib Go.Proofs.YtbamkklhkhglnaaGreatDoor Go.Proofs.YtbamkklhkhglnaaGreatDoor.Tow Go.Proofs.YtbamkklhkhglnaaGreatDoor.CyA Go.Proofs.YtbamkklhkhglnaaGreatDoor.TxA Go.Proofs.YtbamkklhkhglnaaGreatDoor.TxB Go.Proofs.YtbamkklhkhglnaaGreatDoor.TxC Go.Proofs.YtbamkklhkhglnaaGreatDoor.TmA Go.Proofs.YtbamkklhkhglnaaGreatDoor.TiA Go.Proofs.YtbamkklhkhglnaaGreatDoor.TwA
set_option linter.unusedVariables false
set_option linter.unusedSimpArgs false

theorem infoS : (Tryz.prog.info? 9).map (fun i => (i.zero, i.size, i.bytes)) = some (some (.string ⟨#[]⟩), 1, 16) := by kernel_rfl
theorem enc_all : (List.range 26).all (fun i => (Utf8.encode (97 + (i : Int))).data == #[ltr i]) = true := by decide +kernel
theorem enc_ltr {i : Nat} (h : i < 26) : Utf8.encode (97 + (i : Int)) = ⟨#[ltr i]⟩ := by
  have := List.all_eq_true.1 enc_all i (List.mem_range.2 h)
  exact ByteArray.ext (eq_of_beq this)
theorem letterOf_any (i : Nat) (hi : i < 26) (w : World) : Calls Tryz.prog 126 #[.int .i64 (i : Int)] w fun e w' => e = .returned (.string ⟨#[ltr i]⟩) ∧ w' = w := by
  have he := enc_ltr hi
  have w1 : IntKind.i64.wrap (97 + (i : Int)) = 97 + (i : Int) := IntWalk.i64_in _ (by omega)
  have w2 : IntKind.i32.wrap (97 + (i : Int)) = 97 + (i : Int) := by
    unfold IntKind.wrap
    simp [IntKind.bits, IntKind.signed]
    omega
  go_enter Tryz.func126, Tryz.ntmps126
  go_wp2_with fail
  go_ret
  exact ⟨rfl, rfl⟩
theorem letter_any (i : Nat) (hi : i ≤ 90) (w : World) : Calls Tryz.prog 142 #[.int .i64 (i : Int)] w (TxR [ltr i] w) := by
  have hw1 : IntKind.i64.wrap ((i : Int) + 1) = (i : Int) + 1 := IntWalk.i64_in _ (by omega)
  have HO := Lib.hid ((Own.sl (DwB.Own_lit (B := 0) w #[.int .i64 ((i : Int) + 1)] [(i : Int) + 1] (Nat.zero_le _) (by simp [maxLen]) rfl)).mono (S' := fun _ => True) fun _ _ => trivial)
  have HC := Lib.hid ((stext_any (some ⟨w.heap.size, 0, none⟩) 1 1 [(i : Int) + 1] rfl (by omega) (fun x hx => by simp at hx; omega) _ HO.out).mono (R' := TxR [ltr i] w) (by
    rintro e w' ⟨t, rfl, ht, hb⟩
    refine ⟨t, rfl, ?_, ((Below.refl _ _).alloc (Nat.le_refl _) _).trans (hb.mono (by simp))⟩
    rw [ht]
    unfold wtI lt ltr
    rw [if_neg (by simp)]
    simp only [List.map_cons, List.map_nil]
    congr 2
    omega))
  go_enter Tryz.func142, Tryz.ntmps142
  go_wp2_with fail
  refine HC.out.mono ?_
  rintro e w6 ⟨t, rfl, ht, hb⟩
  have HF := Lib.hid (show TxR [ltr i] w (.returned (.string t)) w6 from ⟨t, rfl, ht, hb⟩)
  clear hb ht
  go_wp2_with fail
  go_ret
  exact HF.out
/-- texts in memory -/
abbrev strs (L : List ByteArray) : List Value := L.map Value.string
theorem join_any (g n c : Nat) (L : List ByteArray) (hn : L.length = n) (sep : ByteArray) (W : World) (B : Nat) (ho : W.ownsRow B 9 1 (.slice (some ⟨g, 0, none⟩) n c) n (strs L)) (h1 : n ≤ 1000) (h2 : ∀ x ∈ L, x.size ≤ 100000) (hs : sep.size ≤ 10) :
    Calls Tryz.prog 124 #[.slice (some ⟨g, 0, none⟩) n c, .string sep] W (TxR (join (L.map (·.data.toList)) sep.data.toList) W) := by
  subst hn
  obtain ⟨a, c', e, hc, _, _⟩ := owns_form ho
  obtain ⟨rfl, rfl⟩ : some (⟨g, 0, none⟩ : Addr) = a ∧ c = c' := by simpa using e
  obtain ⟨_, hg, _⟩ := owns_heap ho
  have hl : ∀ (L : List ByteArray), (∀ x ∈ L, x.size ≤ 100000) → lens (L.map (·.data.toList)) ≤ L.length * 100000 := by
    intro L
    induction L with
    | nil => intro _; simp [lens]
    | cons x L ih =>
      intro h
      have h1 := ih (fun y hy => h y (List.mem_cons_of_mem _ hy))
      have h2 := h x (by simp)
      unfold lens at h1 ⊢
      rw [List.map_cons, List.map_cons, List.sum_cons, List.length_cons]
      have : x.data.toList.length = x.size := by simp
      omega
  refine (Tryz.strings_Join g 0 c L sep W (fun j x hj => ?_) hg (by omega) hc ?_).mono ?_
  · have := World.ownsRow.cells ho (g := g) rfl j (.string x) (by simp [strs, hj])
    rwa [addr_add] at this
  · have hll := hl L h2
    match L, hll, h1 with
    | [], _, _ => simp [join_nil]
    | x :: r, hll, h1 =>
      have hr : (r.map (·.data.toList)).length = r.length := by simp
      rw [List.map_cons, join_length, hr]
      rw [List.map_cons] at hll
      have h3 : sep.data.toList.length ≤ 10 := by simpa using hs
      simp only [List.length_cons] at hll h1
      have h4 : sep.data.toList.length * r.length ≤ 10 * 1000 := Nat.mul_le_mul h3 (by omega)
      omega
  · rintro e w' ⟨rfl, hb⟩
    exact ⟨_, rfl, rfl, hb⟩
/-- another text is appended -/
theorem strs_push {B n c : Nat} {w : World} {g : Nat} {L : List ByteArray} {x : ByteArray} (h : w.ownsRow B 9 1 (.slice (some ⟨g, 0, none⟩) (n + 1) c) (n + 1) (strs L ++ [.string x])) : w.ownsRow B 9 1 (.slice (some ⟨g, 0, none⟩) (n + 1) c) (n + 1) (strs (L ++ [x])) := by
  simpa [strs] using h
theorem strs_at {B n : Nat} {w : World} {v : Value} {L : List ByteArray} (h : w.ownsRow B 9 1 v n (strs L)) {i : Nat} {t : ByteArray} (hi : L[i]? = some t) :
    ∃ g c, v = .slice (some ⟨g, 0, none⟩) n c ∧ B ≤ g ∧ g < w.heap.size ∧ w.cell? ⟨g, i, none⟩ = some (.string t) := by
  have hil := (List.getElem?_eq_some_iff.1 hi).1
  have hl : L.length = n := by have := h.1; simpa using this
  rcases h.2 with ⟨_, h0⟩ | ⟨g, cap, cu, h', hB, hg, _⟩
  · omega
  · have := World.ownsRow.cells h (g := g) (by rw [h']; rfl) i (.string t) (by simp [strs, hi])
    rw [addr_add, Nat.zero_add] at this
    exact ⟨g, cap, h', hB, (Array.getElem?_eq_some_iff.1 hg).1, this⟩
end Go.Proofs.YtbamkklhkhglnaaGreatDoor.TwB
