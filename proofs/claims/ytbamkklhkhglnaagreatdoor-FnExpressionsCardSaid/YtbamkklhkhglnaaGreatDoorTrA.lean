import Derived.Test.YtbamkklhkhglnaaGreatDoorTwD
import Derived.Test.YtbamkklhkhglnaaGreatDoorTmC
import Derived.Test.YtbamkklhkhglnaaGreatDoorTiB
import Derived.Lib.SplitLaws
/-
  For impl.readPresentation: the variables that the library reads; strings.Split, strings.Cut, strconv.ParseInt.
-/
namespace Go.Proofs.YtbamkklhkhglnaaGreatDoor.TrA
open Go.RowKit Go.Lib Go.Proofs.YtbamkklhkhglnaaGreatDoor Go.Proofs.YtbamkklhkhglnaaGreatDoor.Tow Go.Proofs.YtbamkklhkhglnaaGreatDoor.CyA Go.Proofs.YtbamkklhkhglnaaGreatDoor.TxA Go.Proofs.YtbamkklhkhglnaaGreatDoor.TxB Go.Proofs.YtbamkklhkhglnaaGreatDoor.TxC Go.Proofs.YtbamkklhkhglnaaGreatDoor.TmA Go.Proofs.YtbamkklhkhglnaaGreatDoor.TiA Go.Proofs.YtbamkklhkhglnaaGreatDoor.TwA Go.Proofs.YtbamkklhkhglnaaGreatDoor.TwB Go.Proofs.YtbamkklhkhglnaaGreatDoor.TwC Go.Proofs.YtbamkklhkhglnaaGreatDoor.Val
set_option linter.unusedVariables false
set_option linter.unusedSimpArgs false

theorem below_bytes (w : World) (t : ByteArray) : Below w.heap.size w (Lib.bytesWorld w 5 t) :=
  ⟨rfl, rfl, rfl, by rw [Lib.bytesWorld_size]; omega, fun k hk => Lib.bytesWorld_at_old w _ t k hk⟩
theorem parse_range (l : List UInt8) (v : Int) (h : Lib.parseIntB 64 l = .ok v) : -9223372036854775808 ≤ v ∧ v ≤ 9223372036854775807 := by
  cases l with
  | nil => simp [Lib.parseIntB] at h
  | cons c r =>
    simp only [Lib.parseIntB] at h
    split at h
    · simp at h
    · simp at h
    · rename_i u hu
      split at h
      · simp at h
      · split at h
        · simp at h
        · have hv : v = if c.toNat = 45 then -(u : Int) else u := by
            have := h.symm
            injection this
          rw [hv]
          split <;> omega
/-- the two errors that strconv hands on, and the bound of bytealg -/
structure Vars (w : World) : Prop where
  syn : ∃ tp p, w.var? Tryz.prog "strconv.ErrSyntax" = some #[.iface tp p]
  rng : ∃ tp p, w.var? Tryz.prog "strconv.ErrRange" = some #[.iface tp p]
  len : ∃ m, w.cell? ⟨0, 0, none⟩ = some (.int .i64 m)
theorem gSyn : Tryz.prog.globalNamed "strconv.ErrSyntax" = some 1 := by kernel_rfl
theorem gRng : Tryz.prog.globalNamed "strconv.ErrRange" = some 2 := by kernel_rfl
theorem var_lt {w : World} {n : String} {cs : Array Value} {g : Nat} (hg : Tryz.prog.globalNamed n = some g) (h : w.var? Tryz.prog n = some cs) : g < w.heap.size := by
  unfold World.var? at h
  simp only [hg, Option.bind_some] at h
  apply Nat.lt_of_not_le
  intro hle
  rw [Array.getElem?_eq_none hle] at h
  exact absurd h (by simp)
theorem Vars.below {w w' : World} (h : Vars w) (hb : Below w.heap.size w w') : Vars w' := by
  obtain ⟨⟨t1, p1, h1⟩, ⟨t2, p2, h2⟩, m, h4⟩ := h
  exact ⟨⟨t1, p1, var?_below hb gSyn (var_lt gSyn h1) h1⟩, ⟨t2, p2, var?_below hb gRng (var_lt gRng h2) h2⟩,
    m, by rw [hb.cell (p := ⟨0, 0, none⟩) (World.block_lt_of_cell? w _ h4)]; exact h4⟩
theorem parse_ok (s : ByteArray) (hs : s.size ≤ 100000000) (v : Int) (h : pI s.data.toList = some v) (w : World) :
    Calls Tryz.prog 96 #[.string s, .int .i64 10, .int .i64 64] w fun e w' => e = .returned (.tuple #[.int .i64 v, .nilIface]) ∧ Below w.heap.size w w' := by
  have hp : Lib.parseIntB 64 s.data.toList = .ok v := by
    unfold pI at h
    split at h
    · rename_i v' e
      rw [e]
      obtain rfl := Option.some.inj h
      rfl
    · exact absurd h (by simp)
  exact (Tryz.strconv_ParseInt_10_at64_ok s (by omega) v hp w).mono fun e w' ⟨he, h⟩ => ⟨he, by
    rcases h with h | ⟨t, h⟩
    · rw [h]; exact Below.refl _ _
    · rw [h]; exact below_bytes w t⟩
theorem parse_bad (s : ByteArray) (hs : s.size ≤ 100000000) (h : pI s.data.toList = none) (w : World) (hv : Vars w) :
    Calls Tryz.prog 96 #[.string s, .int .i64 10, .int .i64 64] w fun e w' => ∃ n N, e = .returned (.tuple #[.int .i64 n, .iface 187 (.pointer (some ⟨N, 0, none⟩))]) ∧ Below w.heap.size w w' := by
  obtain ⟨t1, p1, h1⟩ := hv.syn
  obtain ⟨t2, p2, h2⟩ := hv.rng
  rcases hp : Lib.parseIntB 64 s.data.toList with v | _ | _
  · exact absurd h (by unfold pI; rw [hp]; simp)
  · exact (Tryz.strconv_ParseInt_bad s (by omega) hp t1 p1 w h1).mono fun e w' ⟨N, he, _, _, hb⟩ => ⟨_, N, he, hb⟩
  · exact (Tryz.strconv_ParseInt_10_at64_range_var s (by omega) hp t2 p2 w h2).mono fun e w' ⟨N, he, _, _, hb⟩ => ⟨_, N, he, hb⟩
theorem piece_size (sep : ByteArray) : ∀ (k : Nat) (s : ByteArray), ∀ x ∈ splitB sep 0 k s, x.size ≤ s.size
  | 0, s, x, hx => by
    obtain rfl : x = s := by simpa [splitB] using hx
    exact Nat.le_refl _
  | k + 1, s, x, hx => by
    unfold splitB at hx
    split at hx
    · obtain rfl : x = s := by simpa using hx
      exact Nat.le_refl _
    · rcases List.mem_cons.1 hx with rfl | hx
      · rw [ByteArray.size_extract]; omega
      · have h1 := piece_size sep k _ x hx
        have h2 : (s.extract ((indexB s sep).toNat + sep.size) s.size).size ≤ s.size := by rw [ByteArray.size_extract]; omega
        omega
/-- the parts of a text, in memory -/
def SpR (s : ByteArray) (l : List (List UInt8)) (w : World) (e : Ending) (w' : World) : Prop := ∃ (g m : Nat) (L : List ByteArray), e = .returned (.slice (some ⟨g, 0, none⟩) m m) ∧ w.heap.size ≤ g ∧ L.length = m ∧ 1 ≤ m ∧ m ≤ s.size + 1 ∧ w'.ownsRow w.heap.size 9 1 (.slice (some ⟨g, 0, none⟩) m m) m (strs L) ∧ L.map (·.data.toList) = l ∧ (∀ x ∈ L, x.size ≤ s.size) ∧ Below w.heap.size w w'
theorem split_any (s sep : ByteArray) (hs : s.size ≤ 100000000) (h1 : 1 ≤ sep.size) (w : World) (hv : Vars w) :
    Calls Tryz.prog 95 #[.string s, .string sep] w (SpR s (split s.data.toList sep.data.toList) w) := by
  obtain ⟨m, hm⟩ := hv.len
  refine (Tryz.strings_Split s sep m w (by omega) hm h1).mono ?_
  rintro e w' ⟨rfl, rfl⟩
  have hl := splitB_all sep h1 0 _ s rfl
  have hc := countB_le sep h1 s.size s (Nat.le_refl _)
  refine ⟨w.heap.size, countB s sep + 1, splitB sep 0 (countB s sep) s, rfl, Nat.le_refl _, hl, by omega, by omega, ?_, ?_, piece_size sep _ s, (Below.refl _ _).alloc (Nat.le_refl _) _⟩
  · have := World.ownsRow_lit (base := w.heap.size) (e := 9) (size := 1) w ((splitB sep 0 (countB s sep) s).map Value.string).toArray (countB s sep + 1) (Nat.le_refl _) (by unfold maxLen; omega) (by simp [hl])
    simpa [strs] using this
  · exact splitB_data sep 0 _ s
/-- a text cut at a byte -/
def CtR (s : ByteArray) (l : List UInt8 × List UInt8 × Bool) (w : World) (e : Ending) (w' : World) : Prop := ∃ (a b : ByteArray) (f : Bool), e = .returned (.tuple #[.string a, .string b, .bool f]) ∧ a.data.toList = l.1 ∧ b.data.toList = l.2.1 ∧ a.size ≤ s.size ∧ b.size ≤ s.size ∧ Below w.heap.size w w'
theorem cut_len (s sep : List UInt8) : (Lib.cut s sep).1.length ≤ s.length ∧ (Lib.cut s sep).2.1.length ≤ s.length := by
  unfold Lib.cut
  split
  · simp [List.length_take]; omega
  · simp
theorem cut_any (s sep : ByteArray) (hs : s.size ≤ 100000000) (w : World) (hv : Vars w) :
    Calls Tryz.prog 98 #[.string s, .string sep] w (CtR s (Lib.cut s.data.toList sep.data.toList) w) := by
  obtain ⟨m, hm⟩ := hv.len
  refine (Tryz.strings_Cut s sep m w (by omega) hm).mono ?_
  rintro e w' ⟨rfl, n, rfl⟩
  have hl := cut_len s.data.toList sep.data.toList
  have h3 : s.data.toList.length = s.size := by simp
  exact ⟨_, _, _, rfl, rfl, rfl, by show (Lib.cut _ _).1.toArray.size ≤ _; rw [List.size_toArray]; omega, by show (Lib.cut _ _).2.1.toArray.size ≤ _; rw [List.size_toArray]; omega, below_drewN (Below.refl _ _) n⟩
/-- valid presentations are read from their texts -/
def Vl (p : RP) : Prop := Valid p.val
theorem Vl.ok {p : RP} (h : Vl p) : TxOk p.os.length p := by
  have hv : Valid p.val := h
  have hps : ∀ r ∈ p.ps, TailV p.os 0 (ints r) := fun r hr => by
    obtain ⟨i, hi⟩ := List.getElem?_of_mem hr
    have := hv.pv i (ints r) (by simp [RP.val, hi])
    exact ⟨this.1, fun j x o hx ho => ⟨(this.2 j x o hx ho).1, (this.2 j x o hx ho).2.1, fun h => absurd h (Nat.not_lt_zero _)⟩⟩
  have hcs : ∀ (i : Nat) L, p.cs[i]? = some L → L.length = p.os.length - 1 - i ∧ ∀ r ∈ L, TailV p.os 0 (ints r) := fun i L hL => by
    obtain ⟨h1, h2⟩ := hv.cv i (L.map ints) (by simp [RP.val, hL])
    refine ⟨by simpa [RP.val] using h1, fun r hr => ?_⟩
    have := h2 (ints r) (List.mem_map.2 ⟨r, hr, rfl⟩)
    exact ⟨this.1, fun j x o hx ho => ⟨(this.2 j x o hx ho).1, (this.2 j x o hx ho).2.1, fun h => absurd h (Nat.not_lt_zero _)⟩⟩
  have hbd : ∀ r : List Nat, TailV p.os 0 (ints r) → r.length = p.os.length ∧ ∀ x ∈ r, x ≤ 100 := fun r ht => by
    have hl : r.length = p.os.length := by have := ht.1; rwa [ints_length] at this
    refine ⟨hl, fun x hx => ?_⟩
    obtain ⟨j, hj⟩ := List.getElem?_of_mem hx
    have hjl := (List.getElem?_eq_some_iff.1 hj).1
    obtain ⟨o, ho⟩ : ∃ o, p.os[j]? = some o := ⟨_, List.getElem?_eq_getElem (by omega)⟩
    have h1 := ht.2 j (x : Int) o (by rw [ints_get, hj]; rfl) ho
    have h2 := primeB_le (hv.pr o (List.mem_of_getElem? ho))
    omega
  refine ⟨⟨⟨rfl, by simpa [RP.val] using hv.pl, fun r hr => (hbd r (hps r hr)).1, by simpa [RP.val] using hv.cl, fun i L hL => ?_⟩, hv.n6, hv.pr, hv.le⟩, fun r hr => (hbd r (hps r hr)).2, fun L hL r hr => ?_⟩
  · obtain ⟨h1, h2⟩ := hcs i L hL
    exact ⟨by omega, fun r hr => (hbd r (h2 r hr)).1⟩
  · obtain ⟨i, hi⟩ := List.getElem?_of_mem hL
    exact (hbd r ((hcs i L hi).2 r hr)).2
/-- what a reader answers -/
def RdR (t : List UInt8) (w : World) (b : Bool) (vO vP vC : Value) (w' : World) : Prop := (b = true ∧ ∃ p, Vl p ∧ txt p = t ∧ PP w.heap.size w' vO vP vC p) ∨ (b = false ∧ ¬ ∃ p, Vl p ∧ txt p = t)
theorem readI_none {t : List UInt8} (h : readI t = none) : ¬ ∃ p, Vl p ∧ txt p = t := fun ⟨p, hp, e⟩ => by
  have := readI_txt hp.ok.gd
  rw [e, h] at this
  exact absurd this (by simp)
theorem readI_some {t : List UInt8} {q : RP} (h : readI t = some q) (hn : ¬ (Vl q ∧ txt q = t)) : ¬ ∃ p, Vl p ∧ txt p = t := fun ⟨p, hp, e⟩ => by
  have h2 := readI_txt hp.ok.gd
  rw [e, h] at h2
  obtain rfl := Option.some.inj h2
  exact hn ⟨hp, e⟩
theorem mapM_take {α β : Type} {f : α → Option β} {l : List α} {k : Nat} {x : α} {xs : List β} (h : (l.take k).mapM f = some xs) (hx : l[k]? = some x) : (l.take (k + 1)).mapM f = (f x).map fun y => xs ++ [y] := by
  have e : l.take (k + 1) = l.take k ++ [x] := by rw [List.take_add_one, hx]; rfl
  rw [e, List.mapM_append, h]
  cases hf : f x <;> simp [hf]
theorem mapM_bad {α β : Type} {f : α → Option β} {l : List α} {k : Nat} {x : α} (hx : l[k]? = some x) (hf : f x = none) : l.mapM f = none := by
  have e : l = l.take k ++ x :: l.drop (k + 1) := by
    have h1 := List.take_append_drop k l
    rw [List.drop_eq_getElem_cons (List.getElem?_eq_some_iff.1 hx).1, (List.getElem?_eq_some_iff.1 hx).2] at h1
    exact h1.symm
  rw [e, List.mapM_append, List.mapM_cons, hf]
  cases (l.take k).mapM f <;> rfl
theorem foldlM_take {β : Type} {f : β → List UInt8 → Option β} {l : List (List UInt8)} {k : Nat} {x : List UInt8} {q0 q : β} (h : (l.take k).foldlM f q0 = some q) (hx : l[k]? = some x) : (l.take (k + 1)).foldlM f q0 = f q x := by
  have e : l.take (k + 1) = l.take k ++ [x] := by rw [List.take_add_one, hx]; rfl
  rw [e, List.foldlM_append, h]
  simp
theorem foldlM_bad {β : Type} {f : β → List UInt8 → Option β} {l : List (List UInt8)} {k : Nat} {x : List UInt8} {q0 q : β} (h : (l.take k).foldlM f q0 = some q) (hx : l[k]? = some x) (hf : f q x = none) : l.foldlM f q0 = none := by
  have e : l = l.take k ++ x :: l.drop (k + 1) := by
    have h1 := List.take_append_drop k l
    rw [List.drop_eq_getElem_cons (List.getElem?_eq_some_iff.1 hx).1, (List.getElem?_eq_some_iff.1 hx).2] at h1
    exact h1.symm
  rw [e, List.foldlM_append, h]
  simp [hf]
end Go.Proofs.YtbamkklhkhglnaaGreatDoor.TrA
