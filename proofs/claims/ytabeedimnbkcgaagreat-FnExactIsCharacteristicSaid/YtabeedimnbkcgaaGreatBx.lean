import Derived.Test.YtabeedimnbkcgaaGreatLawBG
import Derived.Test.YtabeedimnbkcgaaGreatSpecX
/-
  Small facts for the laws' walks.
-/
namespace Go.Proofs.YtabeedimnbkcgaaGreat.LawF
open Go.RowKit Go.Proofs.YtabeedimnbkcgaaGreat Go.Proofs.YtabeedimnbkcgaaGreat.Tow Go.Proofs.YtabeedimnbkcgaaGreat.SpecB
set_option linter.unusedVariables false
set_option linter.unusedSimpArgs false

theorem cnt_one {P : Pres} {n k n' k' : Int} (h : ImplZ.CntV P n k) (h' : ImplZ.CntV P n' k') : n' = n ∧ k' = k := by
  rcases h with ⟨rfl, rfl, hn⟩ | ⟨T, rfl, hG, h⟩
  · rcases h' with ⟨rfl, rfl, _⟩ | ⟨T', _, hG, _⟩
    · exact ⟨rfl, rfl⟩
    · exact absurd hG hn
  · rcases h' with ⟨_, _, hn⟩ | ⟨T', hT, _, h'⟩
    · exact absurd hG hn
    · obtain rfl := Grps.ofTw_inj hT
      rcases h with ⟨rfl, rfl, h1⟩ | ⟨rfl, h1, rfl⟩ <;> rcases h' with ⟨rfl, rfl, h2⟩ | ⟨rfl, h2, rfl⟩
      · exact ⟨rfl, rfl⟩
      · omega
      · omega
      · exact ⟨rfl, rfl⟩
theorem bx1 {w wr : World} {a0 a1 a2 : Value} {t : TypeId} (hb : Below (w.heap.size + 1) (w.alloc (.cells #[a0, a1, a2] t)) wr) :
    (wr.cell? ⟨w.heap.size, 0, none⟩ = some a0 ∧ wr.cell? ⟨w.heap.size, 1, none⟩ = some a1 ∧ wr.cell? ⟨w.heap.size, 2, none⟩ = some a2) ∧
    Keep Any w wr ∧ Below w.heap.size w wr ∧ w.heap.size + 1 ≤ wr.heap.size := ⟨box_cells hb, keep_boxed hb _, below_unboxed hb, by have := hb.size; simpa using this⟩
end Go.Proofs.YtabeedimnbkcgaaGreat.LawF
