/-
  Plain facts on the check of a record's content. No program in sight.
-/
namespace Go.Proofs.YtpdjpiabbciajaaDoor.RecPlain

/-- one step of the check -/
def chk1 (c b : Nat) : Nat := (31 * c + b + 1) % 65521
def chkFrom (c : Nat) (l : List UInt8) : Nat := l.foldl (fun c b => chk1 c b.toNat) c
def chk (l : List UInt8) : Nat := chkFrom 1 l
theorem chkFrom_lt (l : List UInt8) : ∀ c, c < 65521 → chkFrom c l < 65521 := by
  induction l with
  | nil => intro c h; exact h
  | cons b l ih => intro c h; exact ih _ (Nat.mod_lt _ (by omega))
theorem chk_lt (l : List UInt8) : chk l < 65521 := chkFrom_lt l 1 (by omega)
theorem chk_snoc (l : List UInt8) (b : UInt8) : chk (l ++ [b]) = chk1 (chk l) b.toNat := by
  simp [chk, chkFrom, List.foldl_append]
theorem take_snoc (s : ByteArray) (k : Nat) (h : k < s.size) : s.data.toList.take (k + 1) = s.data.toList.take k ++ [s[k]] := by
  rw [List.take_succ_eq_append_getElem (by simpa using h)]; rfl

/-- a hexadecimal digit -/
def hexd (n : Nat) : UInt8 := ([48, 49, 50, 51, 52, 53, 54, 55, 56, 57, 97, 98, 99, 100, 101, 102] : List UInt8).getD n 0
def hex4 (c : Nat) : List UInt8 := [hexd (c / 4096), hexd (c / 256 % 16), hexd (c / 16 % 16), hexd (c % 16)]
def recList (l : List UInt8) : List UInt8 := hex4 (chk l) ++ 32 :: l ++ [10]
/-- the text of 65536 + c in base 16 -/
def fmtS (c : Nat) : ByteArray := ⟨(49 :: hex4 c).toArray⟩
theorem fmtS_size (c : Nat) : (fmtS c).size = 5 := rfl
theorem rec_eq (s t : ByteArray) (ht : t = fmtS (chk s.data.toList)) : t.extract 1 t.size ++ ⟨#[32]⟩ ++ s ++ ⟨#[10]⟩ = ⟨(recList s.data.toList).toArray⟩ := by
  subst ht
  apply ByteArray.ext
  apply Array.toList_inj.1
  rw [fmtS_size]
  simp only [ByteArray.data_append, ByteArray.data_extract, Array.toList_append, Array.toList_extract]
  simp [recList, fmtS, hex4]
def hexA : ByteArray := ⟨#[48, 49, 50, 51, 52, 53, 54, 55, 56, 57, 97, 98, 99, 100, 101, 102]⟩
theorem one_digit (k : Nat) (h : k < 16) : hexA.extract k (k + 1) = ⟨#[hexd k]⟩ := by
  have key : ∀ k : Fin 16, (hexA.extract k.val (k.val + 1)).data = #[hexd k.val] := by decide
  exact ByteArray.ext (key ⟨k, h⟩)
theorem hex4_eq (c : Nat) (h : c < 65521) : hexA.extract (c / 4096) (c / 4096 + 1) ++ hexA.extract (c / 256 % 16) (c / 256 % 16 + 1) ++ hexA.extract (c / 16 % 16) (c / 16 % 16 + 1) ++ hexA.extract (c % 16) (c % 16 + 1) = ⟨(hex4 c).toArray⟩ := by
  rw [one_digit _ (by omega), one_digit _ (by omega), one_digit _ (by omega), one_digit _ (by omega)]
  rfl
def hexS (c : Nat) : ByteArray := ⟨(hex4 c).toArray⟩
theorem hexS_size (c : Nat) : (hexS c).size = 4 := rfl
theorem rec_eq' (s t : ByteArray) (ht : t = hexS (chk s.data.toList)) : t ++ ⟨#[32]⟩ ++ s ++ ⟨#[10]⟩ = ⟨(recList s.data.toList).toArray⟩ := by
  subst ht
  apply ByteArray.ext
  apply Array.toList_inj.1
  simp only [ByteArray.data_append, Array.toList_append]
  simp [recList, hexS]
end Go.Proofs.YtpdjpiabbciajaaDoor.RecPlain
