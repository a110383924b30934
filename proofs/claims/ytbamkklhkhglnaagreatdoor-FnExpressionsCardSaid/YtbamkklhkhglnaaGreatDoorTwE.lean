import Derived.Test.YtbamkklhkhglnaaGreatDoorTwC
import Derived.Test.YtbamkklhkhglnaaGreatDoorSpecD
/-
  For spec.l07Text: l01Zero, l01Dec of an order; the text of a presentation as it grows.
-/
namespace Go.Proofs.YtbamkklhkhglnaaGreatDoor.TwE
open Go.RowKit Go.Lib Go.Proofs.YtbamkklhkhglnaaGreatDoor Go.Proofs.YtbamkklhkhglnaaGreatDoor.Tow Go.Proofs.YtbamkklhkhglnaaGreatDoor.CyA Go.Proofs.YtbamkklhkhglnaaGreatDoor.TxA Go.Proofs.YtbamkklhkhglnaaGreatDoor.TxB Go.Proofs.YtbamkklhkhglnaaGreatDoor.TxC Go.Proofs.YtbamkklhkhglnaaGreatDoor.TmA Go.Proofs.YtbamkklhkhglnaaGreatDoor.TiA Go.Proofs.YtbamkklhkhglnaaGreatDoor.TwA Go.Proofs.YtbamkklhkhglnaaGreatDoor.TwB Go.Proofs.YtbamkklhkhglnaaGreatDoor.TwC Go.Proofs.YtbamkklhkhglnaaGreatDoor.Val
set_option linter.unusedVariables false
set_option linter.unusedSimpArgs false

theorem zero_any (v : Value) (l : List Int) (w : World) (hv : SlI (fun _ => True) w v l) :
    Calls Tryz.prog 141 #[v] w (ImplV.ExR (ImplV.Zero l) w) := by
  obtain ⟨ao, c, rfl, hc, hm, _, hx⟩ := hv
  unfold maxLen at hm
  have HM := Lib.hid hm
  have hl63 : (l.length : Int) ≤ 9223372036854775807 := by omega
  have HX := Lib.hid hx
  clear hm hx
  go_enter Tryz.func141, Tryz.ntmps141
  go_wp2_with fail
  go_loop [3] (fun i => ∃ k : Nat, k ≤ l.length ∧ i = .int .i64 k ∧ Hid (∀ j, j < k → ∀ x, l[j]? = some x → x = 0)) (fun i => l.length - (intOf i).toNat)
  case atStart => exact ⟨0, Nat.zero_le _, rfl, Lib.hid (fun j h => absurd h (Nat.not_lt_zero _))⟩
  case round =>
    obtain ⟨k, hk, rfl, hz⟩ := hrel
    by_cases hlt : k < l.length
    · obtain ⟨x, hg⟩ : ∃ x, l[k]? = some x := ⟨_, List.getElem?_eq_getElem hlt⟩
      obtain ⟨b, o, rfl, _, hb, u, hcell, rfl⟩ := HX.out k x hg
      have HG := Lib.hid hg
      clear hg
      by_cases h0 : x = 0
      · subst h0
        go_wp2_with fail
        go_round
        case rel => exact ⟨k + 1, by omega, by go_num, Lib.hid (fun j hj y hy => by
          rcases Nat.lt_succ_iff_lt_or_eq.1 hj with h | h
          · exact hz.out j h y hy
          · subst h; rw [HG.out] at hy; exact (Option.some.inj hy).symm)⟩
        case measure => simp [intOf]; omega
      · have h1 : (x != 0) = true := by simpa using h0
        have H0 := Lib.hid h0
        clear h0
        go_wp2_with fail
        go_ret
        exact ⟨false, rfl, ⟨fun h => absurd h (by simp), fun h => absurd (h x (List.mem_of_getElem? HG.out)) H0.out⟩, rfl⟩
    · obtain rfl : k = l.length := by omega
      go_wp2_with fail
      go_ret
      exact ⟨true, rfl, ⟨fun _ x hx => by obtain ⟨j, hj, rfl⟩ := List.getElem_of_mem hx; exact hz.out j hj _ (List.getElem?_eq_getElem hj), fun _ => rfl⟩, rfl⟩
/-- a text of one byte -/
def OneR (t : List UInt8) (w : World) (e : Ending) (w' : World) : Prop := ∃ s : ByteArray, e = .returned (.string s) ∧ s.data.toList = t ∧ s.size = 1 ∧ Below w.heap.size w w'
theorem dec_prime {o : Int} (h : primeB o = true) (w : World) : Calls Tryz.prog 139 #[.int .i64 o] w (OneR (dT o) w) := by
  obtain ⟨h1, h2⟩ := primeB_le h
  obtain ⟨m, rfl⟩ : ∃ m : Nat, o = (m : Int) := ⟨o.toNat, by omega⟩
  obtain ⟨b, e, _⟩ := dT_prime h
  refine (NumD.dec_any m w (by omega)).mono ?_
  rintro e' w' ⟨rfl, hb⟩
  have e2 : decDigits m = [b] := e
  exact ⟨_, rfl, by rw [e]; show (decDigits m).toArray.toList = _; rw [e2], by rw [e2]; rfl, hb⟩
theorem let_one (i : Nat) (hi : i ≤ 90) (w : World) : Calls Tryz.prog 142 #[.int .i64 (i : Int)] w (OneR [ltr i] w) :=
  (letter_any i hi w).mono (by
    rintro e w' ⟨s, rfl, hs, hb⟩
    exact ⟨s, rfl, hs, by have := congrArg List.length hs; simpa using this, hb⟩)
/-- the orders as they grow -/
def jt (os : List Int) (i : Nat) : List UInt8 := join ((os.take i).map dT) [32]
theorem jt_zero (os : List Int) : jt os 0 = [] := rfl
theorem jt_succ {os : List Int} {i : Nat} {x : Int} (h : os[i]? = some x) : jt os (i + 1) = jt os i ++ (if i = 0 then [] else [32]) ++ dT x := by
  unfold jt
  cases i with
  | zero =>
    match os, h with
    | y :: r, h =>
      have : y = x := by simpa using h
      subst this
      simp [join_one, join_nil]
  | succ i =>
    match os, h with
    | y :: r, h =>
      have h' : r[i]? = some x := by simpa using h
      simp only [List.take_succ_cons, List.map_cons]
      rw [join_cons, join_cons, List.map_take, List.map_take, joinTail_take_succ [32] (r.map dT) i (dT x) (by simp [h'])]
      simp
theorem jt_all {os : List Int} {n : Nat} (hn : os.length = n) (h0 : n ≠ 0) : jt os n = ordT os := by
  unfold jt ordT
  rw [List.take_of_length_le (by omega), if_neg (fun e => h0 (by rw [← hn, e]; rfl))]
theorem jt_len {os : List Int} (h : Prs os) (i : Nat) : (jt os i).length ≤ 2 * i := by
  have h1 := join_len32 (os.take i) (fun o ho => h o (List.mem_of_mem_take ho))
  have h2 : (os.take i).length ≤ i := by rw [List.length_take]; omega
  unfold jt
  omega
def tx (p : RP) (rs : List Rl) : List UInt8 := ordT p.os ++ joinTail [59, 32] (rs.map (relT p.os))
theorem tx_txt (p : RP) : tx p (rels p) = txt p := by
  unfold tx txt
  rw [join_cons]
theorem tx_app (p : RP) (rs : List Rl) (r : Rl) : tx p (rs ++ [r]) = tx p rs ++ [59, 32] ++ relT p.os r := by
  unfold tx joinTail
  simp
theorem tx_len {n : Nat} {p : RP} (h : TxOk n p) : ∀ (rs : List Rl), (∀ r ∈ rs, r ∈ rels p) → (tx p rs).length ≤ 12 + rs.length * 1002 := by
  have key : ∀ (rs : List Rl), (∀ r ∈ rs, r ∈ rels p) → (joinTail [59, 32] (rs.map (relT p.os))).length ≤ rs.length * 1002 := by
    intro rs
    induction rs with
    | nil => intro _; simp [joinTail]
    | cons r rs ih =>
      intro hr
      have h1 := ih (fun x hx => hr x (List.mem_cons_of_mem _ hx))
      have h2 := h.rl (hr r (by simp))
      unfold joinTail at h1 ⊢
      simp only [List.map_cons, List.flatten_cons, List.length_append, List.length_cons, List.length_nil] at h1 ⊢
      omega
  intro rs hr
  have h1 := key rs hr
  have h2 := ordT_len h.gd.pr (by rw [h.gd.sh.os]; exact h.gd.n6)
  unfold tx
  rw [List.length_append]
  omega
theorem powR_mem {p : RP} {n k : Nat} (hn : p.os.length = n) (hk : k ≤ n) : ∀ r ∈ powR p k, r ∈ rels p := by
  intro r hr
  obtain ⟨i, hi, he⟩ := List.mem_filterMap.1 hr
  refine List.mem_append_left _ (List.mem_filterMap.2 ⟨i, List.mem_range.2 ?_, he⟩)
  have := List.mem_range.1 hi
  omega
theorem conI_mem {p : RP} {n i k : Nat} (hn : p.os.length = n) (hi : i < n) (hk : k ≤ n - (i + 1)) : ∀ r ∈ conI p i k, r ∈ rels p := by
  intro r hr
  obtain ⟨q, hq, he⟩ := List.mem_filterMap.1 hr
  refine List.mem_append_right _ (List.mem_flatMap.2 ⟨i, List.mem_range.2 (by omega), List.mem_filterMap.2 ⟨q, List.mem_range.2 ?_, he⟩⟩)
  have := List.mem_range.1 hq
  omega
theorem conR_mem {p : RP} {n i : Nat} (hn : p.os.length = n) (hi : i ≤ n) : ∀ r ∈ conR p i, r ∈ rels p := by
  intro r hr
  obtain ⟨q, hq, he⟩ := List.mem_flatMap.1 hr
  refine List.mem_append_right _ (List.mem_flatMap.2 ⟨q, List.mem_range.2 ?_, he⟩)
  have := List.mem_range.1 hq
  omega
/-- the bytes of a relation's text, put together one by one -/
theorem rel_bytes2 (z a x s : ByteArray) (p : RP) (rs : List Rl) (r : Rl) (hz : z.data.toList = tx p rs) (ha : a.data.toList = [ltr r.j]) (hx : x.data.toList = byT p.os r) (hs : s.data.toList = wtx r.v) :
    ((((((z ++ ⟨#[59, 32]⟩) ++ a) ++ ⟨#[94]⟩) ++ x) ++ ⟨#[61]⟩) ++ s).data.toList = tx p (rs ++ [r]) := by
  rw [tx_app]
  unfold relT
  rw [← hx, ← hs, ← hz, show ltr r.j :: 94 :: (x.data.toList ++ 61 :: s.data.toList) = [ltr r.j] ++ 94 :: (x.data.toList ++ 61 :: s.data.toList) from rfl, ← ha]
  simp [ByteArray.data_append]
end Go.Proofs.YtbamkklhkhglnaaGreatDoor.TwE
