import Derived.Test.YtbamkklhkhglnaaGreatDoorOwn
import Derived.Laws.AppendOwn
/-
  A slice of slices that the call itself made: its row and its rows are owned. e2: the outer row's elements' type, e: the rows' elements' type.
-/
namespace Go.Proofs.YtbamkklhkhglnaaGreatDoor
open Go.RowKit
set_option linter.unusedVariables false
set_option linter.unusedSimpArgs false

theorem infoR : (Tryz.prog.info? 87).map (fun i => (i.zero, i.size, i.bytes)) = some (some (.slice none 0 0), 1, 24) := by kernel_rfl
theorem infoN : (Tryz.prog.info? 3).map (fun i => (i.zero, i.size, i.bytes)) = some (some (.int .i64 0), 1, 8) := by kernel_rfl

/-- two owned rows of different element types lie in different blocks -/
theorem rows_apart {w : World} {B B' : Nat} {e e' : TypeId} {s s' : Nat} {u v : Value} {n n' : Nat} {xs ys : List Value} (hu : w.ownsRow B e s u n xs) (hv : w.ownsRow B' e' s' v n' ys) (hne : e ≠ e') : u.ownBlock = none ∨ u.ownBlock ≠ v.ownBlock := by
  rcases hu.2 with ⟨rfl, _⟩ | ⟨g, cap, cur, rfl, _, hg, _⟩
  · exact .inl rfl
  · refine .inr fun h => ?_
    rcases hv.2 with ⟨rfl, _⟩ | ⟨g', cap', cur', rfl, _, hg', _⟩
    · simp [Value.ownBlock] at h
    · simp [Value.ownBlock] at h
      subst h
      rw [hg] at hg'
      simp at hg'
      exact hne hg'.2
theorem ownsRow_keep {w w' : World} {B : Nat} {e : TypeId} {s n : Nat} {v : Value} {xs : List Value} {S : Nat → Prop} (h : w.ownsRow B e s v n xs) (hk : Keep S w w') (hS : ∀ k, B ≤ k → S k) : w'.ownsRow B e s v n xs := by
  refine ⟨h.1, ?_⟩
  rcases h.2 with hn | ⟨g, cap, cur, rfl, hb, hgg, rest⟩
  · exact .inl hn
  · exact .inr ⟨g, cap, cur, rfl, hb, by rw [hk.block g (hS g hb) (Array.getElem?_eq_some_iff.1 hgg).1]; exact hgg, rest⟩
theorem ownsRow_mono {w : World} {B B' : Nat} {e : TypeId} {s n : Nat} {v : Value} {xs : List Value} (h : w.ownsRow B e s v n xs) (hB : B' ≤ B) : w.ownsRow B' e s v n xs := by
  refine ⟨h.1, ?_⟩
  rcases h.2 with hn | ⟨g, cap, cur, rfl, hb, rest⟩
  · exact .inl hn
  · exact .inr ⟨g, cap, cur, rfl, Nat.le_trans hB hb, rest⟩

def RowOk (e : TypeId) (B : Nat) (w : World) (u : Value) (r : List Nat) : Prop := (∃ g c, u = .slice (some ⟨g, 0, none⟩) r.length c) ∧ w.ownsRow B e 1 u r.length (vals (ints r))
def Own2 (e2 e : TypeId) (B : Nat) (w : World) (v : Value) (rows : List (List Nat)) : Prop :=
  ∃ us : List Value, w.ownsRow B e2 1 v rows.length us ∧ us.length = rows.length ∧ ∀ (i : Nat) (r : List Nat) (u : Value), rows[i]? = some r → us[i]? = some u → RowOk e B w u r
theorem Own2.nil (e2 e : TypeId) (B : Nat) (w : World) : Own2 e2 e B w (.slice none 0 0) [] := ⟨[], World.ownsRow_nil _ _ _ _, rfl, by simp⟩
theorem RowOk.keep {e : TypeId} {B : Nat} {S : Nat → Prop} {w w' : World} {u : Value} {r : List Nat} (h : RowOk e B w u r) (hk : Keep S w w') (hS : ∀ k, B ≤ k → S k) : RowOk e B w' u r := ⟨h.1, ownsRow_keep h.2 hk hS⟩
theorem Own2.keep {e2 e : TypeId} {B : Nat} {S : Nat → Prop} {w w' : World} {v : Value} {rows : List (List Nat)} (h : Own2 e2 e B w v rows) (hk : Keep S w w') (hS : ∀ k, B ≤ k → S k) : Own2 e2 e B w' v rows := by
  obtain ⟨us, h1, h2, h4⟩ := h
  exact ⟨us, ownsRow_keep h1 hk hS, h2, fun i r u hr hu => (h4 i r u hr hu).keep hk hS⟩
theorem Own2.of_below {e2 e : TypeId} {B : Nat} {w w' : World} {v : Value} {rows : List (List Nat)} (h : Own2 e2 e B w v rows) (hb : Below w.heap.size w w') : Own2 e2 e B w' v rows := h.keep (S := fun _ => True) (Keep.of_below hb) (fun _ _ => trivial)
theorem Own2.mono {e2 e : TypeId} {B B' : Nat} {w : World} {v : Value} {rows : List (List Nat)} (h : Own2 e2 e B w v rows) (hB : B' ≤ B) : Own2 e2 e B' w v rows := by
  obtain ⟨us, h1, h2, h4⟩ := h
  exact ⟨us, ownsRow_mono h1 hB, h2, fun i r u hr hu => ⟨(h4 i r u hr hu).1, ownsRow_mono (h4 i r u hr hu).2 hB⟩⟩
theorem rows_one {e : TypeId} {B : Nat} {w : World} {rows : List (List Nat)} {us : List Value} (h2 : us.length = rows.length) (h4 : ∀ (i : Nat) (r : List Nat) (u : Value), rows[i]? = some r → us[i]? = some u → RowOk e B w u r) : ∀ u ∈ us, u.oneCell' = true := by
  intro u hu
  obtain ⟨i, hi, rfl⟩ := List.getElem_of_mem hu
  obtain ⟨⟨g, c, e⟩, _⟩ := h4 i (rows[i]'(by omega)) us[i] (List.getElem?_eq_getElem _) (List.getElem?_eq_getElem _)
  rw [e]; rfl
/-- the next row, behind the law on append -/
theorem Own2.push {e2 e : TypeId} (hne : e ≠ e2) {B n : Nat} {w w' : World} {v v' u : Value} {rows : List (List Nat)} {r : List Nat} {us : List Value} (hn : rows.length = n)
    (h1 : w.ownsRow B e2 1 v n us) (h2 : us.length = rows.length) (h4 : ∀ (i : Nat) (r : List Nat) (u : Value), rows[i]? = some r → us[i]? = some u → RowOk e B w u r)
    (hu : RowOk e B w u r) (ho : w'.ownsRow B e2 1 v' (n + 1) (us ++ [u])) (hg : w.grownBy w' v.ownBlock) : Own2 e2 e B w' v' (rows ++ [r]) := by
  subst hn
  refine ⟨us ++ [u], by simpa using ho, by simp [h2], fun i r' u' hr' hu' => ?_⟩
  have hown : RowOk e B w u' r' := by
    rcases Nat.lt_or_ge i rows.length with hi | hi
    · rw [List.getElem?_append_left hi] at hr'
      rw [List.getElem?_append_left (by omega)] at hu'
      exact h4 i r' u' hr' hu'
    · rw [List.getElem?_append_right hi] at hr'
      rw [List.getElem?_append_right (by omega)] at hu'
      rw [h2] at hu'
      rcases hj : i - rows.length with _ | j
      · rw [hj] at hr' hu'
        simp at hr' hu'
        subst hr'; subst hu'
        exact hu
      · rw [hj] at hr'
        simp at hr'
  exact ⟨hown.1, World.ownsRow.kept hown.2 hg (rows_apart hown.2 h1 hne)⟩
theorem RowOk.sl {e : TypeId} {B : Nat} {w : World} {u : Value} {r : List Nat} (h : RowOk e B w u r) : SlI (fun k => B ≤ k) w u (ints r) := by
  obtain ⟨⟨g, c, rfl⟩, h1⟩ := h
  rcases h1.2 with ⟨h, _⟩ | ⟨g', cap, cur, h, hb, hgg, hn, hm, hs, ht⟩
  · simp at h
  · obtain ⟨rfl, rfl⟩ : g = g' ∧ c = cap := by simpa using h
    refine ⟨some ⟨g, 0, none⟩, c, by rw [ints_length], by rw [ints_length]; exact hn, hm, by simp, fun i x hx => ?_⟩
    refine ⟨g, 0, rfl, hb, (Array.getElem?_eq_some_iff.1 hgg).1, .int .i64 x, ?_, rfl⟩
    have := World.ownsRow.cells h1 (g := g) rfl i (.int .i64 x) (by simp only [vals, List.getElem?_map, hx]; rfl)
    rwa [addr_add] at this
theorem Own2.at {e2 e : TypeId} {B : Nat} {w : World} {v : Value} {rows : List (List Nat)} (h : Own2 e2 e B w v rows) {i : Nat} {r : List Nat} (hr : rows[i]? = some r) :
    ∃ g cap u, v = .slice (some ⟨g, 0, none⟩) rows.length cap ∧ B ≤ g ∧ g < w.heap.size ∧ w.cell? ⟨g, i, none⟩ = some u ∧ RowOk e B w u r := by
  obtain ⟨us, h1, h2, h4⟩ := h
  have hil := (List.getElem?_eq_some_iff.1 hr).1
  rcases h1.2 with ⟨rfl, hn⟩ | ⟨g, cap, cur, rfl, hb, hgg, hn, hm, hs, ht⟩
  · omega
  · obtain ⟨u, hu⟩ : ∃ u, us[i]? = some u := ⟨_, List.getElem?_eq_getElem (by omega)⟩
    refine ⟨g, cap, u, rfl, hb, (Array.getElem?_eq_some_iff.1 hgg).1, ?_, h4 i r u hr hu⟩
    have := World.ownsRow.cells h1 (g := g) rfl i u hu
    rw [addr_add, Nat.zero_add] at this
    exact this
theorem Own2.form {e2 e : TypeId} {B : Nat} {w : World} {v : Value} {rows : List (List Nat)} (h : Own2 e2 e B w v rows) : ∃ a cap, v = .slice a rows.length cap ∧ rows.length ≤ cap ∧ cap ≤ maxLen := by
  obtain ⟨us, h1, h2, h4⟩ := h
  rcases h1.2 with ⟨rfl, hn⟩ | ⟨g, cap, cur, rfl, hb, hgg, hn, hm, hs, ht⟩
  · exact ⟨none, 0, by rw [hn], by omega, by simp⟩
  · exact ⟨_, cap, rfl, hn, hm⟩
theorem Own2.sl {e2 e : TypeId} {B : Nat} {w : World} {v : Value} {rows : List (List Nat)} (h : Own2 e2 e B w v rows) : Sl2 (fun k => B ≤ k) w v (rows.map ints) := by
  obtain ⟨a, cap, rfl, h1, h2⟩ := h.form
  refine ⟨a, cap, by simp, by simpa using h1, h2, fun ha => ?_, fun i r hr => ?_⟩
  · subst ha
    rcases h.choose_spec.1.2 with ⟨he, _⟩ | ⟨g, cap', cur, he, _⟩
    · simp at he; exact he.2
    · simp at he
  · simp only [List.getElem?_map, Option.map_eq_some_iff] at hr
    obtain ⟨r', hr', rfl⟩ := hr
    obtain ⟨g, cap', u, he, hb, hg, hc, hok⟩ := h.at hr'
    obtain ⟨rfl, _, rfl⟩ : a = some ⟨g, 0, none⟩ ∧ True ∧ cap = cap' := by simpa using he
    exact ⟨g, 0, rfl, hb, hg, u, by rw [Nat.zero_add]; exact hc, hok.sl⟩
theorem NewS.row {x : List Nat} {B : Nat} {w : World} {g c : Nat} (h : Own B w (.slice (some ⟨g, 0, none⟩) (ints x).length c) (ints x)) : RowOk 2 B w (.slice (some ⟨g, 0, none⟩) (ints x).length c) x := by
  rw [ints_length] at h ⊢
  refine ⟨⟨g, c, rfl⟩, ?_⟩
  have := h
  unfold Own at this
  rwa [ints_length] at this
/-- an answer that is a slice of slices that the call made -/
def New2 (e2 e : TypeId) (rows : List (List Nat)) (w : World) (e' : Ending) (w' : World) : Prop := ∃ v, e' = .returned v ∧ Own2 e2 e w.heap.size w' v rows ∧ Below w.heap.size w w'
end Go.Proofs.YtbamkklhkhglnaaGreatDoor
