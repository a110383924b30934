/-
  Plain facts on decimal numbers of at most six digits and on the commands of the console. No program in sight.
-/
import Derived.Lib.ItoaNum
import Derived.Lib.ParseIntB
namespace Go.Proofs.YtbamkklhkhglnaaGreatDoor.NumPlain
open Go.Lib
set_option linter.unusedSimpArgs false
set_option linter.unusedVariables false

def isDig (c : UInt8) : Bool := decide (48 ≤ c.toNat) && decide (c.toNat ≤ 57)
def valFrom (acc : Nat) (l : List UInt8) : Nat := l.foldl (fun a c => 10 * a + (c.toNat - 48)) acc
def val (l : List UInt8) : Nat := valFrom 0 l
theorem val_snoc (l : List UInt8) (c : UInt8) : val (l ++ [c]) = 10 * val l + (c.toNat - 48) := by simp [val, valFrom, List.foldl_append]
theorem valFrom_lt : ∀ (l : List UInt8) (acc : Nat), l.all isDig = true → valFrom acc l < (acc + 1) * 10 ^ l.length
  | [], acc, _ => by simp [valFrom]
  | c :: r, acc, h => by
    simp only [List.all_cons, Bool.and_eq_true] at h
    have hd : c.toNat - 48 ≤ 9 := by
      have := h.1
      simp [isDig] at this
      omega
    have := valFrom_lt r (10 * acc + (c.toNat - 48)) h.2
    show valFrom (10 * acc + (c.toNat - 48)) r < _
    refine Nat.lt_of_lt_of_le this ?_
    rw [List.length_cons, Nat.pow_succ]
    calc (10 * acc + (c.toNat - 48) + 1) * 10 ^ r.length ≤ ((acc + 1) * 10) * 10 ^ r.length := Nat.mul_le_mul_right _ (by omega)
      _ = (acc + 1) * (10 ^ r.length * 10) := by rw [Nat.mul_assoc, Nat.mul_comm 10]
theorem val_lt (l : List UInt8) (h : l.all isDig = true) : val l < 10 ^ l.length := by
  have := valFrom_lt l 0 h
  simpa [val] using this
theorem parseM : ∀ (l : List UInt8) (acc : Nat), l.all isDig = true → (acc + 1) * 10 ^ l.length ≤ 100000000 → parseUintM (2 ^ 64 - 1) acc l = .ok (valFrom acc l)
  | [], acc, _, _ => by simp [parseUintM, valFrom]
  | c :: r, acc, h, hb => by
    simp only [List.all_cons, Bool.and_eq_true] at h
    have hd := h.1
    simp only [isDig, Bool.and_eq_true, decide_eq_true_eq] at hd
    rw [List.length_cons, Nat.pow_succ] at hb
    have h1 : acc + 1 ≤ 100000000 := by
      refine Nat.le_trans ?_ hb
      exact Nat.le_mul_of_pos_right _ (Nat.mul_pos (Nat.pow_pos (by omega)) (by omega))
    have h2 : (10 * acc + (c.toNat - 48) + 1) * 10 ^ r.length ≤ 100000000 := by
      refine Nat.le_trans ?_ hb
      calc (10 * acc + (c.toNat - 48) + 1) * 10 ^ r.length ≤ ((acc + 1) * 10) * 10 ^ r.length := Nat.mul_le_mul_right _ (by omega)
        _ = (acc + 1) * (10 ^ r.length * 10) := by rw [Nat.mul_assoc, Nat.mul_comm 10]
    have ih := parseM r (10 * acc + (c.toNat - 48)) h.2 h2
    rw [parseUintM, if_pos hd, if_neg (by omega), if_neg (by omega), Nat.mul_comm acc 10, ih]
    rfl
theorem parse_digits (l : List UInt8) (h : l.all isDig = true) (hne : l ≠ []) (hl : l.length ≤ 6) : parseIntB 64 l = .ok (val l : Int) := by
  cases l with
  | nil => exact absurd rfl hne
  | cons c r =>
    have hc : isDig c = true := by simp only [List.all_cons, Bool.and_eq_true] at h; exact h.1
    simp only [isDig, Bool.and_eq_true, decide_eq_true_eq] at hc
    have hv := val_lt (c :: r) h
    have hp : (10 : Nat) ^ (c :: r).length ≤ 10 ^ 6 := Nat.pow_le_pow_right (by omega) hl
    have hu : parseUintB 64 (c :: r) = .ok (val (c :: r)) := by
      rw [parseUintB, if_neg hne]
      exact parseM (c :: r) 0 h (by omega)
    simp only [parseIntB]
    rw [if_neg (by omega), hu]
    simp only []
    rw [if_neg (by omega), if_neg (by omega), if_neg (by omega)]
theorem dec_digits (u : Nat) : (decDigits u).all isDig = true := by
  induction u using Nat.strongRecOn with
  | ind u ih =>
    rw [decDigits]
    split
    · rename_i h
      have : (UInt8.ofNat (48 + u)).toNat = 48 + u := by
        rw [UInt8.toNat_ofNat']; omega
      simp [isDig, this]; omega
    · rename_i h
      have : (UInt8.ofNat (48 + u % 10)).toNat = 48 + u % 10 := by
        rw [UInt8.toNat_ofNat']; omega
      rw [List.all_append, ih (u / 10) (by omega)]
      simp [isDig, this]; omega
theorem dec_ne (u : Nat) : decDigits u ≠ [] := by
  rw [decDigits]
  split <;> simp

/-- a number of at most six digits, without superfluous zeros -/
def isNum (l : List UInt8) : Bool := !l.isEmpty && decide (l.length ≤ 6) && l.all isDig && decide (decDigits (val l) = l)
theorem isNum_parse (l : List UInt8) (h : isNum l = true) : parseIntB 64 l = .ok (val l : Int) := by
  simp only [isNum, Bool.and_eq_true, Bool.not_eq_true', decide_eq_true_eq] at h
  refine parse_digits l h.1.2 ?_ h.1.1.2
  intro he
  rw [he] at h
  exact absurd h.1.1.1 (by decide)
theorem isNum_of (l : List UInt8) (v : Int) (h : parseIntB 64 l = .ok v) (h0 : 0 ≤ v) (h6 : l.length ≤ 6) (hi : itoa v = l) : isNum l = true ∧ v = val l := by
  have hd : decDigits v.toNat = l := by
    rw [← hi, itoa, if_neg (by omega)]
  have ha : l.all isDig = true := by rw [← hd]; exact dec_digits _
  have hne : l ≠ [] := by rw [← hd]; exact dec_ne _
  have hp := parse_digits l ha hne h6
  rw [h] at hp
  have hv : v = val l := by injection hp
  refine ⟨?_, hv⟩
  have h2 : v.toNat = val l := by omega
  rw [h2] at hd
  cases l with
  | nil => exact absurd rfl hne
  | cons c r => simp only [isNum, Bool.and_eq_true, decide_eq_true_eq]; exact ⟨⟨⟨rfl, h6⟩, ha⟩, hd⟩
theorem isNum_itoa (l : List UInt8) (h : isNum l = true) : l.length ≤ 6 ∧ itoa (val l : Int) = l := by
  simp only [isNum, Bool.and_eq_true, Bool.not_eq_true', decide_eq_true_eq] at h
  refine ⟨h.1.1.2, ?_⟩
  rw [itoa, if_neg (by omega)]
  exact h.2

/-- a digit's byte -/
def dgt (x : Nat) : UInt8 := UInt8.ofNat (48 + x)
theorem dec_small (n : Nat) (h : n < 10) : decDigits n = [dgt n] := by rw [decDigits, dif_pos h]; rfl
theorem dec_big (n : Nat) (h : ¬ n < 10) : decDigits n = decDigits (n / 10) ++ [dgt (n % 10)] := by rw [decDigits, dif_neg h]; rfl
theorem dec_len (n : Nat) : ∀ k, n < 10 ^ (k + 1) → (decDigits n).length ≤ k + 1 := by
  induction n using Nat.strongRecOn with
  | ind n ih =>
    intro k hk
    by_cases h : n < 10
    · rw [dec_small n h]; simp
    · rw [dec_big n h]
      cases k with
      | zero => simp at hk; omega
      | succ k =>
        have := ih (n / 10) (by omega) k (by rw [Nat.pow_succ] at hk; omega)
        simp; omega
theorem dec_app (ds : List UInt8) (n : Nat) (h : decDigits n = ds ++ [dgt (n % 10)]) : (⟨ds.toArray⟩ : ByteArray) ++ ⟨#[dgt (n % 10)]⟩ = ⟨(decDigits n).toArray⟩ := by
  rw [h]
  apply ByteArray.ext
  apply Array.toList_inj.1
  simp [ByteArray.data_append]
/-- what l05Digits returns -/
def digVal (l : List UInt8) : Int := if 7 < l.length then -1 else if l.all isDig then (val l : Int) else -1
theorem digVal_long (s : ByteArray) (h : 7 < s.size) : digVal s.data.toList = -1 := by
  rw [digVal]; exact if_pos h
theorem digVal_all (s : ByteArray) (h : (s.data.toList.take s.size).all isDig = true) (h7 : ¬ 7 < s.size) : digVal s.data.toList = (val (s.data.toList.take s.size) : Int) := by
  have e : s.data.toList.take s.size = s.data.toList := List.take_of_length_le (Nat.le_refl _)
  rw [e] at h ⊢
  rw [digVal, if_neg (by exact h7), if_pos h]
theorem digVal_bad (s : ByteArray) (k : Nat) (hk : k < s.size) (hd : ¬ isDig s[k] = true) (h7 : ¬ 7 < s.size) : digVal s.data.toList = -1 := by
  rw [digVal, if_neg (by exact h7), if_neg]
  intro h
  rw [List.all_eq_true] at h
  exact hd (h s[k] (List.getElem_mem (l := s.data.toList) (by exact hk)))
theorem take_dig (s : ByteArray) (k : Nat) (hk : k < s.size) (hd : isDig s[k] = true) (h : (s.data.toList.take k).all isDig = true) :
    val (s.data.toList.take (k + 1)) = 10 * val (s.data.toList.take k) + (s[k].toNat - 48) ∧ (s.data.toList.take (k + 1)).all isDig = true := by
  have e : s.data.toList.take (k + 1) = s.data.toList.take k ++ [s[k]] := by
    rw [List.take_succ_eq_append_getElem (by simpa using hk)]; rfl
  rw [e]
  refine ⟨val_snoc _ _, ?_⟩
  rw [List.all_append, h]
  simpa using hd
theorem val_take_lt (s : ByteArray) (k : Nat) (h : (s.data.toList.take k).all isDig = true) (h7 : s.size ≤ 7) : val (s.data.toList.take k) < 10000000 := by
  have h1 := val_lt _ h
  have h2 : (s.data.toList.take k).length ≤ 7 := by
    have : s.data.toList.length ≤ 7 := h7
    rw [List.length_take]; omega
  have : (10 : Nat) ^ (s.data.toList.take k).length ≤ 10 ^ 7 := Nat.pow_le_pow_right (by omega) h2
  omega

theorem digVal_nonneg (l : List UInt8) (h : 0 ≤ digVal l) : l.all isDig = true ∧ digVal l = (val l : Int) ∧ l.length ≤ 7 := by
  unfold digVal at h ⊢
  by_cases h7 : 7 < l.length
  · rw [if_pos h7] at h; omega
  · rw [if_neg h7] at h ⊢
    by_cases ha : l.all isDig = true
    · rw [if_pos ha]; exact ⟨ha, rfl, by omega⟩
    · rw [if_neg ha] at h; omega
/-- what l38Number returns -/
def numVal (l : List UInt8) : Int := if isNum l then (val l : Int) else -1
theorem numVal_bad (l : List UInt8) (h : l = [] ∨ 6 < l.length ∨ digVal l < 0 ∨ decDigits (val l) ≠ l) : numVal l = -1 := by
  rw [numVal, if_neg]
  intro hn
  simp only [isNum, Bool.and_eq_true, Bool.not_eq_true', decide_eq_true_eq] at hn
  rcases h with h | h | h | h
  · rw [h] at hn; exact absurd hn.1.1.1 (by decide)
  · omega
  · rw [digVal, if_neg (by omega), if_pos hn.1.2] at h; omega
  · exact h hn.2
theorem numVal_good (l : List UInt8) (h0 : l ≠ []) (h6 : l.length ≤ 6) (hd : 0 ≤ digVal l) (he : decDigits (val l) = l) : numVal l = digVal l := by
  have h := digVal_nonneg l hd
  rw [h.2.1, numVal, if_pos]
  cases l with
  | nil => exact absurd rfl h0
  | cons c r => simp only [isNum, Bool.and_eq_true, decide_eq_true_eq]; exact ⟨⟨⟨rfl, h6⟩, h.1⟩, he⟩
theorem numVal_iff (l : List UInt8) : 0 ≤ numVal l ↔ isNum l = true := by
  unfold numVal
  cases isNum l <;> simp

/-- a letter -/
def isLet (l : List UInt8) : Bool := match l with
  | [c] => decide (97 ≤ c.toNat) && decide (c.toNat ≤ 122)
  | _ => false
end Go.Proofs.YtbamkklhkhglnaaGreatDoor.NumPlain
