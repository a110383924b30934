import Derived.Test.YtabkibmnghbahaaGreatImplX
import Derived.Test.YtabkibmnghbahaaGreatShelf
import Derived.Shelf.SlSortCmp.NoneTotal
namespace Go.Proofs.YtabkibmnghbahaaGreat.Cmp
open Go.RowKit Go.Proofs.YtabkibmnghbahaaGreat Go.Proofs.YtabkibmnghbahaaGreat.Tow
set_option linter.unusedVariables false
set_option linter.unusedSimpArgs false

def cmpN (x y : Nat) : Int := if x < y then -1 else if y < x then 1 else 0
def cmpL : List Nat → List Nat → Int
  | a :: x, b :: y => if a < b then -1 else if b < a then 1 else cmpL x y
  | _, _ => 0

theorem nan_any (x : Nat) (w : World) : Calls Tryz.prog 149 #[.int .i64 (x : Int)] w fun e w' => e = .returned (.bool false) ∧ w = w' := by
  go_enter Tryz.func149, Tryz.ntmps149
  go_wp2_with fail
  go_ret
  exact ⟨by simp, rfl⟩
theorem cmp_any (x y : Nat) (w : World) : Calls Tryz.prog 102 #[.int .i64 (x : Int), .int .i64 (y : Int)] w fun e w' => e = .returned (.int .i64 (cmpN x y)) ∧ w = w' := by
  rcases Nat.lt_trichotomy x y with h | h | h
  · have h1 : decide ((x : Int) < (y : Int)) = true := by simp; omega
    have HC := Lib.hid (show cmpN x y = -1 by simp [cmpN, h])
    go_enter Tryz.func102, Tryz.ntmps102
    go_wp2_with (go_at_call 149; refine (nan_any _ _).mono ?_; rintro e w' ⟨rfl, rfl⟩)
    go_ret
    exact ⟨by rw [HC.out]; rfl, rfl⟩
  · subst h
    have h1 : decide ((x : Int) < (x : Int)) = false := by simp
    have HC := Lib.hid (show cmpN x x = 0 by simp [cmpN])
    go_enter Tryz.func102, Tryz.ntmps102
    go_wp2_with (go_at_call 149; refine (nan_any _ _).mono ?_; rintro e w' ⟨rfl, rfl⟩)
    go_ret
    exact ⟨by rw [HC.out]; rfl, rfl⟩
  · have h1 : decide ((x : Int) < (y : Int)) = false := by simp; omega
    have h2 : decide ((x : Int) > (y : Int)) = true := by simp; omega
    have HC := Lib.hid (show cmpN x y = 1 by simp [cmpN, h]; omega)
    go_enter Tryz.func102, Tryz.ntmps102
    go_wp2_with (go_at_call 149; refine (nan_any _ _).mono ?_; rintro e w' ⟨rfl, rfl⟩)
    go_ret
    exact ⟨by rw [HC.out]; rfl, rfl⟩
theorem cmpL_drop {x y : List Nat} {k a b : Nat} (ha : x[k]? = some a) (hb : y[k]? = some b) : cmpL (x.drop k) (y.drop k) = if a < b then -1 else if b < a then 1 else cmpL (x.drop (k + 1)) (y.drop (k + 1)) := by
  have h1 := List.getElem?_eq_some_iff.1 ha
  have h2 := List.getElem?_eq_some_iff.1 hb
  rw [List.drop_eq_getElem_cons h1.1, List.drop_eq_getElem_cons h2.1, h1.2, h2.2]
  rfl

set_option maxHeartbeats 1000000 in
theorem compare_any (w : World) (vx vy : Value) (x y : List Nat) (hx : SlI (fun _ => True) w vx (ints x)) (hy : SlI (fun _ => True) w vy (ints y)) (hl : x.length = y.length) :
    Calls Tryz.prog 62 #[vx, vy] w fun e w' => e = .returned (.int .i64 (cmpL x y)) ∧ w = w' := by
  have hm : (x.length : Int) ≤ 9223372036854775807 := by
    obtain ⟨_, _, _, h1, h2, _⟩ := hx
    rw [ints_length] at h1
    unfold maxLen at h2
    omega
  obtain ⟨aX, cX, rfl, hcx⟩ := hx.open
  obtain ⟨aY, cY, rfl, hcy⟩ := hy.open
  rw [← hl] at hcy hy ⊢
  have HX := Lib.hid hx
  have HY := Lib.hid hy
  have HL := Lib.hid hl
  clear hx hy hl
  go_enter Tryz.func62, Tryz.ntmps62
  go_wp2_with fail
  go_loop [11] (fun iv => ∃ k : Nat, k ≤ x.length ∧ iv = .int .i64 (k : Int) ∧ Hid (cmpL (x.drop k) (y.drop k) = cmpL x y)) (fun iv => x.length - (intOf iv).toNat)
  case atStart => exact ⟨0, Nat.zero_le _, rfl, Lib.hid rfl⟩
  case round =>
    obtain ⟨k, hk, rfl, hR⟩ := hrel
    by_cases hlt : k < x.length
    · obtain ⟨a, ha⟩ : ∃ a, x[k]? = some a := ⟨_, List.getElem?_eq_getElem hlt⟩
      obtain ⟨c, hc⟩ : ∃ c, y[k]? = some c := ⟨_, List.getElem?_eq_getElem (by rw [← HL.out]; exact hlt)⟩
      obtain ⟨bX, oX, rfl, _, _, hcX⟩ := HX.out.at ha
      obtain ⟨bY, oY, rfl, _, _, hcY⟩ := HY.out.at hc
      have HD := Lib.hid ((cmpL_drop ha hc).symm.trans hR.out)
      have hd : decide ((k : Int) < (x.length : Int)) = true := by simp; omega
      have hd2 : decide ((k : Int) ≥ (x.length : Int)) = false := by simp; omega
      clear ha hc
      go_wp2_with fail
      refine (cmp_any _ _ _).mono ?_
      rintro e w' ⟨rfl, rfl⟩
      rcases Nat.lt_trichotomy a c with h | h | h
      · have HC := Lib.hid (show cmpN a c = -1 by simp [cmpN, h])
        have HR := Lib.hid (show -1 = cmpL x y by have := HD.out; rwa [if_pos h] at this)
        rw [HC.out]
        clear h
        go_wp2_with fail
        go_ret
        exact ⟨by rw [← HR.out]; rfl, rfl⟩
      · subst h
        have HC := Lib.hid (show cmpN a a = 0 by simp [cmpN])
        have HR := Lib.hid (show cmpL (x.drop (k + 1)) (y.drop (k + 1)) = cmpL x y by have := HD.out; rwa [if_neg (Nat.lt_irrefl _), if_neg (Nat.lt_irrefl _)] at this)
        rw [HC.out]
        go_wp2_with fail
        go_round
        case rel => exact ⟨k + 1, by omega, by go_num, HR⟩
        case measure => simp [intOf]; omega
      · have HC := Lib.hid (show cmpN a c = 1 by simp [cmpN, h]; omega)
        have HR := Lib.hid (show 1 = cmpL x y by have := HD.out; rwa [if_neg (by omega), if_pos h] at this)
        rw [HC.out]
        clear h
        go_wp2_with fail
        go_ret
        exact ⟨by rw [← HR.out]; rfl, rfl⟩
    · obtain rfl : k = x.length := by omega
      have hd : decide ((x.length : Int) < (x.length : Int)) = false := by simp
      have HR := Lib.hid (show 0 = cmpL x y by have := hR.out; rw [List.drop_length] at this; simpa [cmpL] using this)
      go_wp2_with fail
      go_ret
      exact ⟨by rw [← HR.out]; rfl, rfl⟩
end Go.Proofs.YtabkibmnghbahaaGreat.Cmp

namespace Go.Proofs.YtabkibmnghbahaaGreat.Srt
open Go.RowKit Go.Lib Go.Sort Go.Proofs.YtabkibmnghbahaaGreat Go.Proofs.YtabkibmnghbahaaGreat.Tow Go.Proofs.YtabkibmnghbahaaGreat.Cmp
set_option linter.unusedVariables false
set_option linter.unusedSimpArgs false

theorem cmpL_cons (a b : Nat) (x y : List Nat) : cmpL (a :: x) (b :: y) = if a < b then -1 else if b < a then 1 else cmpL x y := rfl
theorem cmpL_self : ∀ x : List Nat, cmpL x x = 0
  | [] => rfl
  | a :: x => by rw [cmpL_cons, if_neg (Nat.lt_irrefl _), if_neg (Nat.lt_irrefl _), cmpL_self x]
theorem cmpL_lt_iff (a b : Nat) (x y : List Nat) : cmpL (a :: x) (b :: y) < 0 ↔ a < b ∨ (a = b ∧ cmpL x y < 0) := by
  rw [cmpL_cons]
  by_cases h1 : a < b
  · simp [h1]
  · by_cases h2 : b < a
    · rw [if_neg h1, if_pos h2]
      constructor
      · intro h; omega
      · rintro (h | ⟨h, _⟩) <;> omega
    · obtain rfl : a = b := by omega
      simp
theorem cmpL_trans : ∀ x y z : List Nat, x.length = y.length → y.length = z.length → cmpL x y < 0 → cmpL y z < 0 → cmpL x z < 0
  | [], y, z, h1, h2, h3, _ => by
    cases y with
    | nil => exact absurd h3 (by simp [cmpL])
    | cons _ _ => simp at h1
  | a :: x, [], z, h1, h2, h3, _ => by simp at h1
  | a :: x, b :: y, [], h1, h2, h3, _ => by simp at h2
  | a :: x, b :: y, c :: z, h1, h2, h3, h4 => by
    rw [cmpL_lt_iff] at *
    have ih := cmpL_trans x y z (by simpa using h1) (by simpa using h2)
    rcases h3 with h3 | ⟨rfl, h3⟩
    · rcases h4 with h4 | ⟨rfl, h4⟩
      · exact .inl (by omega)
      · exact .inl h3
    · rcases h4 with h4 | ⟨rfl, h4⟩
      · exact .inl h4
      · exact .inr ⟨rfl, ih h3 h4⟩
theorem cmpL_ntrans : ∀ x y z : List Nat, x.length = y.length → y.length = z.length → ¬ cmpL x y < 0 → ¬ cmpL y z < 0 → ¬ cmpL x z < 0
  | [], [], [], _, _, _, _ => by simp [cmpL]
  | [], _ :: _, _, h1, _, _, _ => by simp at h1
  | _ :: _, [], _, h1, _, _, _ => by simp at h1
  | [], [], _ :: _, _, h2, _, _ => by simp at h2
  | a :: x, b :: y, [], h1, h2, h3, _ => by simp at h2
  | a :: x, b :: y, c :: z, h1, h2, h3, h4 => by
    rw [cmpL_lt_iff] at *
    have ih := cmpL_ntrans x y z (by simpa using h1) (by simpa using h2)
    rintro (h | ⟨rfl, h⟩)
    · rcases Nat.lt_trichotomy a b with h5 | h5 | h5
      · exact h3 (.inl h5)
      · subst h5; exact h4 (.inl h)
      · exact h4 (.inl (by omega))
    · rcases Nat.lt_trichotomy a b with h5 | h5 | h5
      · exact h3 (.inl h5)
      · subst h5
        exact ih (fun h6 => h3 (.inr ⟨rfl, h6⟩)) (fun h6 => h4 (.inr ⟨rfl, h6⟩)) h
      · exact h4 (.inl h5)

/-- a row in memory -/
abbrev Rw (B n : Nat) (w : World) : Type := { p : Value × List Nat // RowOk 3 B w p.1 p.2 ∧ p.2.length = n }
def encR {B n : Nat} {w : World} (x : Rw B n w) : Value := x.1.1
def cfR {B n : Nat} {w : World} (x y : Rw B n w) : Int := cmpL x.1.2 y.1.2
theorem enc_one (B n : Nat) (w : World) : OneCell (encR (B := B) (n := n) (w := w)) := by
  rintro ⟨⟨u, r⟩, ⟨⟨g, c, h⟩, _⟩, _⟩
  show u.oneCell' = true
  simp only at h
  rw [h]; rfl
theorem swo (B n : Nat) (w : World) : SWO (ltOf (cfR (B := B) (n := n) (w := w))) where
  irrefl x := by simp [ltOf, cfR, cmpL_self]
  trans x y z h1 h2 := by
    exact decide_eq_true (cmpL_trans _ _ _ (x.2.2.trans y.2.2.symm) (y.2.2.trans z.2.2.symm) (of_decide_eq_true h1) (of_decide_eq_true h2))
  ntrans x y z h1 h2 := by
    exact decide_eq_false (cmpL_ntrans _ _ _ (x.2.2.trans y.2.2.symm) (y.2.2.trans z.2.2.symm) (of_decide_eq_false h1) (of_decide_eq_false h2))

section
variable {α : Type} [Inhabited α]
theorem heap_srt {w : World} {enc : α → Value} {g n : Nat} {os : Array Obj} {cur : Array Value} {e : TypeId} {fr : Nat × Nat} (d : Array α) (hb : w.heap[g]? = some (.cells cur e fr)) :
    (sortWorld enc w g 0 n d os).heap[g]? = some (.cells (putCells enc 0 d cur) e fr) := by
  have hg : g < w.heap.size := (Array.getElem?_eq_some_iff.1 hb).1
  unfold sortWorld
  rw [heap_grow_old _ _ (by simpa using hg)]
  simp [putRow, mapBlock, Sort.ahead, Array.getElem?_modify, hb, onCells]
theorem keep_srt {w : World} {enc : α → Value} {g n : Nat} {os : Array Obj} (d : Array α) : Keep (fun k => k ≠ g) w (sortWorld enc w g 0 n d os) := by
  unfold sortWorld
  refine ⟨by simp, fun k hne hk => ?_⟩
  rw [heap_grow_old _ _ (by simpa using hk)]
  have : g ≠ k := fun e => hne e.symm
  simp [putRow, mapBlock, Sort.ahead, Array.getElem?_modify, this]
theorem take_srt (enc : α → Value) (cur : Array Value) (d : Array α) (h : d.size ≤ cur.size) : (putCells enc 0 d cur).toList.take d.size = d.toList.map enc := by
  apply List.ext_getElem?
  intro j
  by_cases hj : j < d.size
  · rw [List.getElem?_take_of_lt hj, Array.getElem?_toList]
    simp [putCells, hj, show j < cur.size by omega]
  · rw [List.getElem?_take_eq_none (by omega), List.getElem?_eq_none (by simp; omega)]
theorem holds_srt {w : World} {enc : α → Value} {g : Nat} {cur : Array Value} {e : TypeId} {d : Array α} (hb : w.heap[g]? = some (.cells cur e (0, 0))) (ht : cur.toList.take d.size = d.toList.map enc) : Holds enc w g 0 d := by
  intro j hj
  refine ⟨?_, by simp [World.frozen?, hb]⟩
  have h1 : (cur.toList.take d.size)[j]? = (d.toList.map enc)[j]? := by rw [ht]
  rw [List.getElem?_take_of_lt hj] at h1
  simp only [World.cell?, hb, Nat.zero_add]
  simp only [Option.isSome_none, Bool.false_eq_true, if_false]
  rw [← Array.getElem?_toList, h1]
  simp [hj]
end

/-- ascending -/
def Asc (l : List (List Nat)) : Prop := l.Pairwise fun a b => ¬ cmpL b a < 0

theorem row_ne {B g : Nat} {w : World} {cur : Array Value} (hg : w.heap[g]? = some (.cells cur 78 (0, 0))) {u : Value} {r : List Nat} (h1 : RowOk 3 B w u r) : SlI (fun k => k ≠ g) w u (ints r) := by
  have h3 := h1.sl
  obtain ⟨⟨gu, c, rfl⟩, h4⟩ := h1
  rcases h4.2 with ⟨h5, _⟩ | ⟨g', cap, cur', h5, _, h6, _⟩
  · cases h5
  · cases h5
    obtain ⟨ao, c', e1, e2, e3, e0, e4⟩ := h3
    refine ⟨ao, c', e1, e2, e3, e0, fun i x hx => ?_⟩
    obtain ⟨b, o, f1, f2, f3, f4⟩ := e4 i x hx
    refine ⟨b, o, f1, ?_, f3, f4⟩
    subst f1
    have e5 : gu = b := by
      have := congrArg Value.ownBlock e1
      simpa [Value.ownBlock] using this
    rintro rfl
    rw [e5, hg] at h6
    simp at h6
theorem cmpReads (B n : Nat) (w : World) (hn : n ≤ 1000) (g size : Nat) (cur : Array Value) (hg : w.heap[g]? = some (.cells cur 78 (0, 0))) (ax : Rw B n w) : 
    letI : Inhabited (Rw B n w) := ⟨ax⟩
    CmpReads Tryz.prog 62 #[] (encR (B := B) (n := n) (w := w)) cfR g 0 size w := by
  letI : Inhabited (Rw B n w) := ⟨ax⟩
  intro m os dk hs x y
  have hk := keep_srt (w := w) (enc := encR (B := B) (n := n) (w := w)) (g := g) (n := m) (os := os) dk
  have hr : ∀ z : Rw B n w, SlI (fun _ => True) (sortWorld (encR (B := B) (n := n) (w := w)) w g 0 m dk os) z.1.1 (ints z.1.2) := fun z => by
    exact SlI.mono (SlI.keep (S := fun k => k ≠ g) (row_ne hg z.2.1) hk) (fun _ _ => trivial)
  refine (compare_any _ _ _ _ _ (hr x) (hr y) (x.2.2.trans y.2.2.symm)).mono ?_
  rintro e w' ⟨rfl, rfl⟩
  exact ⟨rfl, 0, rfl⟩

/-- the sort: what it leaves -/
def SortR (B : Nat) (v : Value) (F : List (List Nat)) (w : World) (e : Ending) (w' : World) : Prop :=
  e = .returned (.tuple #[]) ∧ ∃ F', F'.Perm F ∧ Asc F' ∧ Own2 78 3 B w' v F' ∧ Keep (fun k => some k ≠ v.ownBlock) w w' ∧ Below (min B w.heap.size) w w'

theorem sort_any (B n : Nat) (hn : n ≤ 1000) (w : World) (v : Value) (F : List (List Nat)) (hF : Own2 78 3 B w v F) (hbig : F.length ≤ 1000000000) (hl : ∀ r ∈ F, r.length = n) :
    Calls Tryz.prog 61 #[v, .func (.func 62) #[] #[]] w (SortR B v F w) := by
  obtain ⟨us, h1, h2, h4⟩ := hF
  rcases h1.2 with ⟨rfl, h5⟩ | ⟨g, cap, cur, rfl, hB, hg, hc1, hc2, hc3, hc4⟩
  · obtain rfl : F = [] := List.eq_nil_of_length_eq_zero h5
    have hc := AnyF.slices_SortFunc_none ({ Tryz.srt with } : SlLaysF0.n6 _ _) none 0 (.func (.func 62) #[] #[]) w
    refine hc.mono ?_
    rintro e w' ⟨rfl, rfl⟩
    exact ⟨rfl, [], List.Perm.refl _, List.Pairwise.nil, Own2.nil _ _ _ _, Keep.refl _ _, Below.refl _ _⟩
  · cases F with
    | nil =>
      have hc := AnyF.slices_SortFunc_none ({ Tryz.srt with } : SlLaysF0.n6 _ _) (some ⟨g, 0, none⟩) cap (.func (.func 62) #[] #[]) w
      refine hc.mono ?_
      rintro e w' ⟨rfl, rfl⟩
      exact ⟨rfl, [], List.Perm.refl _, List.Pairwise.nil, ⟨us, h1, h2, h4⟩, Keep.refl _ _, Below.refl _ _⟩
    | cons r0 F0 =>
      generalize hFe : r0 :: F0 = F at *
      have hpos : 0 < F.length := by rw [← hFe]; simp
      have hget : ∀ i : Fin F.length, ∃ u, us[i.1]? = some u ∧ RowOk 3 B w u F[i.1] ∧ (F[i.1]).length = n := fun i => by
        obtain ⟨u, hu⟩ : ∃ u, us[i.1]? = some u := ⟨_, List.getElem?_eq_getElem (by rw [h2]; exact i.2)⟩
        exact ⟨u, hu, h4 i.1 _ u (List.getElem?_eq_getElem i.2) hu, hl _ (List.getElem_mem i.2)⟩
      let dd : Fin F.length → Rw B n w := fun i => ⟨(us[i.1]'(by rw [h2]; exact i.2), F[i.1]), by
        obtain ⟨u, hu, h5, h6⟩ := hget i
        obtain ⟨hi, e⟩ := List.getElem?_eq_some_iff.1 hu
        rw [e]; exact ⟨h5, h6⟩⟩
      letI : Inhabited (Rw B n w) := ⟨dd ⟨0, hpos⟩⟩
      let d : Array (Rw B n w) := Array.ofFn dd
      have hds : d.size = F.length := by simp [d]
      have hdu : d.toList.map encR = us := by
        apply List.ext_getElem
        · simp [d, h2]
        · intro i q1 q2; simp [d, dd, encR]
      have hdF : d.toList.map (fun x => x.1.2) = F := by
        apply List.ext_getElem
        · simp [d]
        · intro i q1 q2; simp [d, dd]
      have hH : Holds (encR (B := B) (n := n) (w := w)) w g 0 d := holds_srt hg (by rw [hds, hdu, ← hc4, Nat.mul_one])
      have hgl : g < w.heap.size := (Array.getElem?_eq_some_iff.1 hg).1
      have eg : ∀ args w, (callFunc 62 args).run Tryz.prog w = .ok (.enter 62 args) w := enters_of Tryz.func62 (by kernel_rfl) rfl
      have hc := Any.slices_SortFunc Tryz.srt (encR (B := B) (n := n) (w := w)) (enc_one B n w) cfR (swo B n w) 62 #[] g 0 cap d w eg (cmpReads B n w hn g d.size cur hg (dd ⟨0, hpos⟩)).lays hH hgl (by rw [hds]; omega)
      rw [hds] at hc
      refine hc.mono ?_
      rintro e w' ⟨rfl, d', m, os, ⟨p1, p2, p3⟩, hs, rfl⟩
      have hd's : d'.size = F.length := by rw [p1, hds]
      have hperm : d'.toList.Perm d.toList := by
        have e1 : d'.extract 0 F.length = d' := by rw [← hd's]; exact Array.extract_size
        have e2 : d.extract 0 F.length = d := by rw [← hds]; exact Array.extract_size
        rwa [e1, e2] at p3
      have hk := keep_srt (w := w) (enc := encR (B := B) (n := n) (w := w)) (g := g) (n := m) (os := os) d'
      have hlen' : (d'.toList.map fun x => x.1.2).length = F.length := by simp [hd's]
      refine ⟨rfl, d'.toList.map (fun x => x.1.2), ?_, ?_, ⟨d'.toList.map encR, ?_, by simp, fun i r u hr hu => ?_⟩, hk.mono (fun k h e => h (by rw [e]; rfl)), ⟨rfl, rfl, rfl, hk.size, fun k hk' => hk.block k (by omega) (by omega)⟩⟩
      · exact (hperm.map _).trans (by rw [hdF])
      · refine List.pairwise_iff_getElem.2 fun i j hi hj hij => ?_
        have hi' : i < d'.size := by simpa using hi
        have hj' : j < d'.size := by simpa using hj
        have := hs i j (Nat.zero_le _) hij (by omega)
        rw [getElem!_pos d' j hj', getElem!_pos d' i hi'] at this
        simp only [List.getElem_map, Array.getElem_toList]
        exact of_decide_eq_false this
      · rw [hlen']
        refine ⟨by simp [hd's], .inr ⟨g, cap, _, rfl, hB, heap_srt d' hg, hc1, hc2, by simp [putCells, hc3], ?_⟩⟩
        rw [Nat.mul_one, ← hd's]
        exact take_srt _ cur d' (by rw [hd's, hc3]; omega)
      · simp only [List.getElem?_map, Option.map_eq_some_iff] at hr hu
        obtain ⟨x, hx, rfl⟩ := hr
        obtain ⟨y, hy, rfl⟩ := hu
        rw [hx] at hy
        cases hy
        have h5 := x.2.1
        refine ⟨h5.1, ?_⟩
        have h6 := h5.2
        refine ⟨h6.1, ?_⟩
        rcases h6.2 with h7 | ⟨g', cap', cur', e1, e2, e3, e4⟩
        · exact .inl h7
        · refine .inr ⟨g', cap', cur', e1, e2, ?_, e4⟩
          have hne : g' ≠ g := by
            rintro rfl
            rw [hg] at e3
            simp at e3
          rw [hk.block g' hne (Array.getElem?_eq_some_iff.1 e3).1]
          exact e3
end Go.Proofs.YtabkibmnghbahaaGreat.Srt
