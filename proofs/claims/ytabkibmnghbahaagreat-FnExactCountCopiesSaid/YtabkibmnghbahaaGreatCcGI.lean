import Derived.Test.YtabkibmnghbahaaGreatCcDF
import Derived.Test.YtabkibmnghbahaaGreatSortC
import Derived.Lib.AppendZeros
import Derived.Test.YtabkibmnghbahaaGreatShelf2
import Derived.Shelf.SlSortCmp.NoneTotal
/-
  impl.extendMask: the set of the subgroup that a set and an element make.
-/
namespace Go.Proofs.YtabkibmnghbahaaGreat.CcG
open Go.RowKit Go.Proofs.YtabkibmnghbahaaGreat Go.Proofs.YtabkibmnghbahaaGreat.Tow Go.Proofs.YtabkibmnghbahaaGreat.NumT Go.Proofs.YtabkibmnghbahaaGreat.ImplN Go.Proofs.YtabkibmnghbahaaGreat.ImplP Go.Proofs.YtabkibmnghbahaaGreat.ImplQ Go.Proofs.YtabkibmnghbahaaGreat.CcF
set_option linter.unusedVariables false
set_option linter.unusedSimpArgs false

theorem test0 (M a : Nat) (ha : a ≤ 31) (hM : M < 2 ^ 32) : (bits .and .u64 ((M : Int) / 2 ^ a) 1 == 0) = !M.testBit a := by
  have e1 : ((M : Int) / 2 ^ a) = ((M / 2 ^ a : Nat) : Int) := by push_cast; rfl
  have hlt : M / 2 ^ a < 2 ^ 63 := Nat.lt_of_le_of_lt (Nat.div_le_self _ _) (Nat.lt_of_lt_of_le hM (by decide))
  have h := (bits_nat .u64 63 (by decide) Mask.wraps63 (M / 2 ^ a) 1 hlt (by decide)).1
  rw [e1]
  have e2 : bits .and .u64 ((M / 2 ^ a : Nat) : Int) 1 = ((M / 2 ^ a &&& 1 : Nat) : Int) := h
  rw [e2, Nat.testBit, Nat.shiftRight_eq_div_pow, Nat.and_comm 1]
  have h01 := Nat.and_one_is_mod (M / 2 ^ a)
  rw [h01]
  rcases Nat.mod_two_eq_zero_or_one (M / 2 ^ a) with h | h <;> rw [h] <;> rfl
/-- one turn -/
def Stp (T : Tw) (M N : Nat) : Prop := ∀ c, N.testBit c = true ↔ M.testBit c = true ∨ ∃ a b, a < sz T ∧ b < sz T ∧ M.testBit a = true ∧ M.testBit b = true ∧ pr T a b = c
/-- a set on its way -/
structure Way (T : Tw) (M x N : Nat) : Prop where
  lt : N < 2 ^ 32
  inn : ∀ c, N.testBit c = true → c < sz T
  le : Leq M N
  has : N.testBit x = true
  least : ∀ K, SubM T K → Leq M K → K.testBit x = true → Leq N K
theorem Way.start {T : Tw} (hz : sz T ≤ 32) {M x : Nat} (h : SubM T M) (hx : x < sz T) : Way T M x (M ||| 2 ^ x) := by
  have hb : ∀ c, (M ||| 2 ^ x).testBit c = true ↔ M.testBit c = true ∨ x = c := fun c => by rw [Mask.set_test, Bool.or_eq_true]; simp
  refine ⟨Mask.set_lt M x (by omega) (h.lt hz), fun c hc => ?_, fun c hc => (hb c).2 (.inl hc), (hb x).2 (.inr rfl), fun K _ h1 h2 c hc => ?_⟩
  · rcases (hb c).1 hc with h1 | rfl
    · exact h.inn c h1
    · exact hx
  · rcases (hb c).1 hc with h3 | rfl
    · exact h1 c h3
    · exact h2
theorem Way.step {T : Tw} (hT : Wf T) {M x N N' : Nat} (h : Way T M x N) (hlt : N' < 2 ^ 32) (hs : Stp T N N') : Way T M x N' ∧ N ≤ N' := by
  have hL : Leq N N' := fun c hc => (hs c).2 (.inl hc)
  refine ⟨⟨hlt, fun c hc => ?_, h.le.trans hL, hL x h.has, fun K hK h1 h2 c hc => ?_⟩, hL.le⟩
  · rcases (hs c).1 hc with h1 | ⟨a, b, _, _, _, _, rfl⟩
    · exact h.inn c h1
    · exact pr_lt hT a b
  · rcases (hs c).1 hc with h3 | ⟨a, b, _, _, ha, hb, rfl⟩
    · exact h.least K hK h1 h2 c h3
    · exact hK.mul a b (h.least K hK h1 h2 a ha) (h.least K hK h1 h2 b hb)
theorem Way.fin {T : Tw} {M x N : Nat} (hM : SubM T M) (h : Way T M x N) (hs : Stp T N N) : ExtM T M x N :=
  ⟨⟨h.inn, h.le 0 hM.one, fun a b ha hb => (hs _).2 (.inr ⟨a, b, h.inn a ha, h.inn b hb, ha, hb, rfl⟩)⟩, h.le, h.has, h.least⟩
/-- the products of the first elements -/
def Pa (T : Tw) (M N k : Nat) : Prop := N < 2 ^ 32 ∧ ∀ c, N.testBit c = true ↔ M.testBit c = true ∨ ∃ a b, a < k ∧ a < sz T ∧ b < sz T ∧ M.testBit a = true ∧ M.testBit b = true ∧ pr T a b = c
def Pb (T : Tw) (M N k l : Nat) : Prop := N < 2 ^ 32 ∧ ∀ c, N.testBit c = true ↔ M.testBit c = true ∨ (∃ a b, a < k ∧ a < sz T ∧ b < sz T ∧ M.testBit a = true ∧ M.testBit b = true ∧ pr T a b = c) ∨ ∃ b, b < l ∧ b < sz T ∧ M.testBit b = true ∧ pr T k b = c
theorem Pa.no {T : Tw} {M N k : Nat} (h : Pa T M N k) (hk : M.testBit k = false) : Pa T M N (k + 1) := ⟨h.1, fun c => by
  rw [h.2 c]
  refine or_congr Iff.rfl ⟨fun ⟨a, b, h1, h2⟩ => ⟨a, b, by omega, h2⟩, fun ⟨a, b, h1, h2⟩ => ⟨a, b, ?_, h2⟩⟩
  rcases Nat.lt_or_ge a k with h3 | h3
  · exact h3
  · obtain rfl : a = k := by omega
    rw [hk] at h2
    exact absurd h2.2.2.1 (by decide)⟩
theorem Pa.up {T : Tw} {M N k : Nat} (h : Pa T M N k) : Pb T M N k 0 := ⟨h.1, fun c => by
  rw [h.2 c]
  exact or_congr Iff.rfl ⟨fun h => .inl h, fun h => h.elim id fun ⟨b, hb, _⟩ => absurd hb (Nat.not_lt_zero _)⟩⟩
theorem Pb.no {T : Tw} {M N k l : Nat} (h : Pb T M N k l) (hl : M.testBit l = false) : Pb T M N k (l + 1) := ⟨h.1, fun c => by
  rw [h.2 c]
  refine or_congr Iff.rfl (or_congr Iff.rfl ⟨fun ⟨b, h1, h2⟩ => ⟨b, by omega, h2⟩, fun ⟨b, h1, h2⟩ => ⟨b, ?_, h2⟩⟩)
  rcases Nat.lt_or_ge b l with h3 | h3
  · exact h3
  · obtain rfl : b = l := by omega
    rw [hl] at h2
    exact absurd h2.2.1 (by decide)⟩
theorem Pb.yes {T : Tw} {M N k l : Nat} (h : Pb T M N k l) (hl : M.testBit l = true) (hls : l < sz T) (hlt : N ||| 2 ^ pr T k l < 2 ^ 32) : Pb T M (N ||| 2 ^ pr T k l) k (l + 1) := ⟨hlt, fun c => by
  rw [Mask.set_test, Bool.or_eq_true, h.2 c]
  constructor
  · rintro ((h1 | h1 | ⟨b, hb, h1⟩) | h1)
    · exact .inl h1
    · exact .inr (.inl h1)
    · exact .inr (.inr ⟨b, by omega, h1⟩)
    · exact .inr (.inr ⟨l, by omega, hls, hl, by simpa using h1⟩)
  · rintro (h1 | h1 | ⟨b, hb, h1⟩)
    · exact .inl (.inl h1)
    · exact .inl (.inr (.inl h1))
    · rcases Nat.lt_or_ge b l with h3 | h3
      · exact .inl (.inr (.inr ⟨b, h3, h1⟩))
      · obtain rfl : b = l := by omega
        exact .inr (by simpa using h1.2.2)⟩
theorem Pb.fin {T : Tw} {M N k : Nat} (h : Pb T M N k (sz T)) (hk : M.testBit k = true) (hks : k < sz T) : Pa T M N (k + 1) := ⟨h.1, fun c => by
  rw [h.2 c]
  refine or_congr Iff.rfl ⟨?_, ?_⟩
  · rintro (⟨a, b, h1, h2⟩ | ⟨b, _, h1, h2, h3⟩)
    · exact ⟨a, b, by omega, h2⟩
    · exact ⟨k, b, by omega, hks, h1, hk, h2, h3⟩
  · rintro ⟨a, b, h1, h2⟩
    rcases Nat.lt_or_ge a k with h3 | h3
    · exact .inl ⟨a, b, h3, h2⟩
    · obtain rfl : a = k := by omega
      exact .inr ⟨b, h2.2.1, h2.2.1, h2.2.2.2⟩⟩
theorem Pa.fin {T : Tw} {M N : Nat} (h : Pa T M N (sz T)) : Stp T M N := fun c => by
  rw [h.2 c]
  exact or_congr Iff.rfl ⟨fun ⟨a, b, _, h⟩ => ⟨a, b, h⟩, fun ⟨a, b, h⟩ => ⟨a, b, h.1, h⟩⟩

def ExmR (T : Tw) (M x : Nat) (w : World) (e : Ending) (w' : World) : Prop := ∃ N : Nat, e = .returned (.int .u64 (N : Int)) ∧ ExtM T M x N ∧ w = w'

set_option maxRecDepth 100000 in
set_option maxHeartbeats 4000000 in
theorem extm_any (T : Tw) (hT : Wf T) (hz : sz T ≤ 32) (w : World) (vt : Value) (ht : Sl2 Any w vt ((tabl T (sz T)).map ints)) (M x : Nat) (hM : SubM T M) (hx : x < sz T) :
    Calls Tryz.prog 47 #[vt, .int .u64 (M : Int), .int .i64 (x : Int)] w (ExmR T M x w) := by
  have hpos := sz_pos hT
  obtain ⟨at', ct, rfl, hct, _⟩ := SlG.form ht
  rw [List.length_map, tabl_length] at ht ⊢
  have HRR := Lib.hid (fun i (hi : i < sz T) => show ∃ b o, at' = some ⟨b, o, none⟩ ∧ b < w.heap.size ∧ ∃ b2 o2 c2, w.cell? ⟨b, o + i, none⟩ = some (.slice (some ⟨b2, o2, none⟩) (sz T) c2) ∧ b2 < w.heap.size ∧ ∀ j, j < sz T → w.cell? ⟨b2, o2 + j, none⟩ = some (.int .i64 (pr T i j : Int)) from by
    obtain ⟨b, o, u, h1, _, h2, h3, h4⟩ := SlG.get ht (k := i) (x := ints (trow T i (sz T))) (by rw [List.getElem?_map, tabl_get hi]; rfl)
    obtain ⟨a2, c2, rfl, _⟩ := SlI.open h4
    rw [trow_length] at h3 h4
    obtain ⟨b2, o2, rfl, _, hb2, _⟩ := SlI.at h4 (j := 0) (q := pr T i 0) (trow_get hpos)
    refine ⟨b, o, h1, h2, b2, o2, c2, h3, hb2, fun j hj => ?_⟩
    obtain ⟨b3, o3, e, _, _, hc⟩ := SlI.at h4 (j := j) (q := pr T i j) (trow_get hj)
    cases e
    exact hc)
  obtain ⟨bt, ot, rfl, hbt, _⟩ := HRR.out 0 hpos
  have HRR := Lib.hid (fun i (hi : i < sz T) => show ∃ b2 o2 c2, w.cell? ⟨bt, ot + i, none⟩ = some (.slice (some ⟨b2, o2, none⟩) (sz T) c2) ∧ b2 < w.heap.size ∧ ∀ j, j < sz T → w.cell? ⟨b2, o2 + j, none⟩ = some (.int .i64 (pr T i j : Int)) from by
    obtain ⟨b, o, e, _, h⟩ := HRR.out i hi
    cases e
    exact h)
  have HMM := Lib.hid hM
  have HML := Lib.hid (hM.lt hz)
  have HPL := Lib.hid (pr_lt hT)
  have HW0 := Lib.hid (Way.start hz hM hx)
  have HTT := Lib.hid hT
  have e0 := Mask.set_eq M x (by omega) HML.out
  obtain ⟨B, hB⟩ : ∃ B : Nat, B = 2 ^ 32 := ⟨_, rfl⟩
  have HBB := Lib.hid hB
  clear ht hM hB hT
  go_enter Tryz.func47, Tryz.ntmps47
  go_wp2_with fail
  go_loop [1] (fun mv => ∃ N : Nat, mv = .int .u64 (N : Int) ∧ Hid (Way T M x N)) (fun mv => B - (intOf mv).toNat)
  case atStart => exact ⟨_, rfl, HW0⟩
  case round =>
    clear e0
    obtain ⟨N, rfl, hW⟩ := hrel
    go_wp2_with fail
    go_loop [7, 17] (fun nv av => ∃ a : Nat, a ≤ sz T ∧ av = .int .i64 (a : Int) ∧ ∃ O : Nat, nv = .int .u64 (O : Int) ∧ Hid (Pa T N O a)) (fun _ av => sz T - (intOf av).toNat)
    case atStart => exact ⟨0, Nat.zero_le _, rfl, N, rfl, Lib.hid ⟨hW.out.lt, fun c => ⟨fun h => .inl h, fun h => h.elim id fun ⟨a, b, h, _⟩ => absurd h (Nat.not_lt_zero _)⟩⟩⟩
    case round =>
      obtain ⟨a, ha, rfl, O, rfl, hO⟩ := hrel
      by_cases halt : a < sz T
      · have hd2 : decide ((a : Int) < (sz T : Int)) = true := by simp; omega
        have h1 := test0 N a (by omega) hW.out.lt
        cases hb : N.testBit a with
        | false =>
          have HN := Lib.hid (hO.out.no hb)
          rw [hb] at h1
          clear hb
          go_wp2_with fail
          go_round
          case rel => exact ⟨a + 1, by omega, by go_num, O, rfl, HN⟩
          case measure => simp [intOf]; omega
        | true =>
          have HU := Lib.hid hO.out.up
          have HBT := Lib.hid hb
          rw [hb] at h1
          clear hb hO
          go_wp2_with fail
          go_loop [7, 27] (fun nv lv => ∃ l : Nat, l ≤ sz T ∧ lv = .int .i64 (l : Int) ∧ ∃ O : Nat, nv = .int .u64 (O : Int) ∧ Hid (Pb T N O a l)) (fun _ lv => sz T - (intOf lv).toNat)
          case atStart => exact ⟨0, Nat.zero_le _, rfl, O, rfl, HU⟩
          case round =>
            obtain ⟨l, hl, rfl, O2, rfl, hO2⟩ := hrel
            by_cases hllt : l < sz T
            · have hd3 : decide ((l : Int) < (sz T : Int)) = true := by simp; omega
              have h2 := Mask.test_eq N l (by omega) hW.out.lt
              cases hb2 : N.testBit l with
              | false =>
                have HN := Lib.hid (hO2.out.no hb2)
                rw [hb2] at h2
                clear hb2
                go_wp2_with fail
                go_round
                case rel => exact ⟨l + 1, by omega, by go_num, O2, rfl, HN⟩
                case measure => simp [intOf]; omega
              | true =>
                have hpl := HPL.out a l
                obtain ⟨b2, o2, c2, hc1, hb2l, hcc⟩ := HRR.out a halt
                have hc2 := hcc l hllt
                have h3 := Mask.set_eq O2 (pr T a l) (by omega) hO2.out.1
                have HN := Lib.hid (hO2.out.yes hb2 hllt (Mask.set_lt O2 (pr T a l) (by omega) hO2.out.1))
                have hai : (a : Int) < (sz T : Int) := by omega
                have hli : (l : Int) < (sz T : Int) := by omega
                have ha0 : (0 : Int) ≤ (a : Int) := by omega
                have hl0 : (0 : Int) ≤ (l : Int) := by omega
                rw [hb2] at h2
                clear hb2 hcc
                go_wp2_with fail
                go_round
                case rel => exact ⟨l + 1, by omega, by go_num, O2 ||| 2 ^ pr T a l, rfl, HN⟩
                case measure => simp [intOf]; omega
            · obtain rfl : l = sz T := by omega
              have hd3 : decide ((sz T : Int) < (sz T : Int)) = false := by simp
              have HN := Lib.hid (hO2.out.fin HBT.out halt)
              clear hO2
              go_wp2_with fail
              go_round
              case rel => exact ⟨a + 1, by omega, by go_num, O2, rfl, HN⟩
              case measure => simp [intOf]; omega
      · obtain rfl : a = sz T := by omega
        have hd2 : decide ((sz T : Int) < (sz T : Int)) = false := by simp
        have HS := Lib.hid (hW.out.step HTT.out hO.out.1 hO.out.fin)
        by_cases he : O = N
        · subst he
          have hq : ((O : Int) == (O : Int)) = true := by simp
          have HR := Lib.hid (show ExmR T M x w (.returned (.int .u64 (O : Int))) w from ⟨O, rfl, hW.out.fin HMM.out hO.out.fin, rfl⟩)
          clear hO
          go_wp2_with fail
          go_ret
          exact HR.out
        · have hq : ((O : Int) == (N : Int)) = false := by simp; omega
          have hms : N < O := by have := HS.out.2; omega
          have hOB : O < B := by rw [HBB.out]; exact hO.out.1
          have HN := Lib.hid HS.out.1
          clear hO HS he
          go_wp2_with fail
          go_round
          case rel => exact ⟨O, rfl, HN⟩
          case measure => simp [intOf]; omega
end Go.Proofs.YtabkibmnghbahaaGreat.CcG

/-
  The order of subgroups: cmp.Compare, cmp.Or, slices.Compare, slices.Grow, slices.Concat, impl.sizeOf, impl.compareSubgroups.
-/
namespace Go.Proofs.YtabkibmnghbahaaGreat.CcH
open Go.RowKit Go.Proofs.YtabkibmnghbahaaGreat Go.Proofs.YtabkibmnghbahaaGreat.Tow Go.Proofs.YtabkibmnghbahaaGreat.NumT Go.Proofs.YtabkibmnghbahaaGreat.GenC Go.Proofs.YtabkibmnghbahaaGreat.GenL Go.Proofs.YtabkibmnghbahaaGreat.GenM Go.Proofs.YtabkibmnghbahaaGreat.SpecB Go.Proofs.YtabkibmnghbahaaGreat.ChU Go.Proofs.YtabkibmnghbahaaGreat.CcA Go.Proofs.YtabkibmnghbahaaGreat.CcD Go.Proofs.YtabkibmnghbahaaGreat.CcF
open Go.Proofs.YtabkibmnghbahaaGreat.Cmp (cmpN)
set_option linter.unusedVariables false
set_option linter.unusedSimpArgs false

/-- the heap has grown, and some numbers were drawn; nothing else -/
structure Lay (w w' : World) : Prop where
  b : Below w.heap.size w w'
  d : w.drawn ≤ w'.drawn
theorem Lay.refl (w : World) : Lay w w := ⟨Below.refl _ _, Nat.le_refl _⟩
theorem Lay.trans {a b c : World} (h : Lay a b) (k : Lay b c) : Lay a c := ⟨h.b.trans (k.b.mono h.b.size), Nat.le_trans h.d k.d⟩
theorem Lay.alloc {a b : World} (h : Lay a b) (o : Obj) : Lay a (b.alloc o) := ⟨h.b.alloc h.b.size o, h.d⟩
theorem Lay.grow {w w' : World} (h : Lay w w') : ∃ q os', w' = Go.Sort.grow (w.drewN q) os' := by
  refine ⟨w'.drawn - w.drawn, w'.heap.extract w.heap.size w'.heap.size, ?_⟩
  obtain ⟨⟨h1, h2, h3, h4, h5⟩, h6⟩ := h
  cases w with
  | mk hp tp dr os ot =>
  cases w' with
  | mk hp' tp' dr' os' ot' =>
    simp only at h1 h2 h3 h4 h5 h6
    subst h1; subst h2; subst h3
    simp only [Go.Sort.grow, World.drewN, World.mk.injEq, and_true, true_and]
    refine ⟨?_, by omega⟩
    apply Array.ext_getElem?
    intro k
    rw [Array.getElem?_append]
    split
    · next hk => exact h5 k hk
    · next hk =>
      rw [Array.getElem?_extract]
      split
      · congr 1; omega
      · next hk2 => exact Array.getElem?_eq_none (by omega)
section
variable {P : Program} (w : World)
theorem append_drawn (base : Nat) (t ty e : TypeId) (i : TypeInfo) (z : Value) (size bytes : Nat) (ht : P.underlying t = some (.slice e)) (hi : P.info? e = some i) (hz : i.zero = some z)
    (hsize : i.size = size) (hby : i.bytes = bytes) (hsz : 0 < size) (v : Value) (n : Nat) (xs : List Value) (hown : w.ownsRow base e size v n xs)
    (a : Addr) (m c : Nat) (news : List Value) (hl : news.length = m * size) (hnews : ∀ j u, news[j]? = some u → w.cell? (a.add j) = some u) (h1 : ∀ u ∈ news, u.oneCell' = true)
    (h63 : n + m ≤ maxLen) (hbytes : (n + m) * bytes ≤ 140737488355328) {v' : Value} {w' : World} (hrun : (Builtin.append_ #[t, t] ty #[v, .slice (some a) m c]).run P w = .ok v' w') : w.drawn ≤ w'.drawn := by
  subst hsize
  subst hby
  have hsmall : n + m ≤ 9223372036854775807 := by simp only [maxLen] at h63; omega
  have fin : ∀ {x : Value} {y : World}, (Builtin.append_ #[t, t] ty #[v, .slice (some a) m c]).run P w = .ok x y → w.drawn ≤ y.drawn → w.drawn ≤ w'.drawn := fun hq hd => by
    rw [hrun] at hq
    injection hq with _ hq
    rw [hq]; exact hd
  rcases hown.2 with ⟨rfl, rfl⟩ | ⟨g, cap, cur, rfl, hbg, hg, hnc, hcm, hcs, htake⟩
  · by_cases hm : m = 0
    · subst hm
      have hn : news = [] := List.eq_nil_of_length_eq_zero (by simpa using hl)
      subst hn
      refine fin (x := .slice none 0 0) (y := w) ?_ (Nat.le_refl _)
      simp [Builtin.append_, run_underlying ht, sizeOf, typeInfo, hi, Builtin.lenOf, Builtin.firstCells, loadCells, loadCellsFrom]
    · exact fin (run_append_nil (P := P) w t ty e i z ht hi hz a m c news hl hnews (by omega) (by omega) (by have hb := hbytes; simp only [Nat.zero_add] at hb; omega)) (Nat.le_succ _)
  · by_cases hroom : n + m ≤ cap
    · have hfit : n * i.size + news.length ≤ cur.size := by rw [hl, hcs, ← Nat.add_mul]; exact Nat.mul_le_mul_right _ hroom
      exact fin (run_append_room (P := P) w t ty e i ht hi g n cap cur hg a m c news hl hnews h1 hroom hfit) (Nat.le_refl _)
    · have holds : ∀ j u, xs[j]? = some u → w.cell? ((⟨g, 0, none⟩ : Addr).add j) = some u := hown.cells (g := g) rfl
      exact fin (run_append_grow (P := P) w t ty e i z ht hi hz ⟨g, 0, none⟩ n cap xs hown.1 holds a m c news hl hnews (by omega) (by omega) (growslice_fits (by omega) hbytes)) (Nat.le_succ _)
theorem wpList_append_ownD {ops : Array Oper} {rest : List Oper} {o : Oper} {a : Act} {Q : Exit → Act → World → Prop} (hgd : o.guard = none) (s x : Operand) (t : TypeId)
    (ho : o.op = .call { callee := .builtin .append, args := #[s, x], argTypes := #[t, t] })
    (base : Nat) (e : TypeId) (i : TypeInfo) (z : Value) (size bytes : Nat) (ht : P.underlying t = some (.slice e)) (hi : P.info? e = some i) (hz : i.zero = some z)
    (hsize : i.size = size) (hby : i.bytes = bytes) (hzs : z.cells.size = size) (hsz : 0 < size)
    (v : Value) (n : Nat) (xs : List Value) (hs : a.eval s = v) (hown : w.ownsRow base e size v n xs)
    (ad : Addr) (m c : Nat) (news : List Value) (hx : a.eval x = .slice (some ad) m c) (hl : news.length = m * size) (hnews : ∀ j u, news[j]? = some u → w.cell? (ad.add j) = some u) (h1 : ∀ u ∈ news, u.oneCell' = true)
    (h63 : n + m ≤ maxLen) (hbytes : (n + m) * bytes ≤ 140737488355328) (hbase : base ≤ w.heap.size)
    (h : ∀ v' w', w'.ownsRow base e size v' (n + m) (xs ++ news) → w.grownBy w' v.ownBlock → w.drawn ≤ w'.drawn → wpList P ops Q rest (a.put o.dst v') w') : wpList P ops Q (o :: rest) a w := by
  obtain ⟨v', w', hr, h2, h3, h4⟩ := run_append_own (P := P) w base t o.type e i z size bytes ht hi hz hsize hby hzs hsz v n xs hown ad m c news hl hnews h1 h63 hbytes hbase
  have hd := append_drawn (P := P) w base t o.type e i z size bytes ht hi hz hsize hby hsz v n xs hown ad m c news hl hnews h1 h63 hbytes hr
  refine wpList_plain hgd fun K' hK => ?_
  unfold Oper.wp execOp
  simp only [ho, resolve, invoke, builtin, Sem.run_bind, Sem.run_pure, Result.andThen_ok, List.map_toArray, List.map_cons, List.map_nil, hs, hx, hr]
  exact hK _ _ (h v' w' h2 h3 hd)
end
def PivD (us : List (List Nat)) (w : World) (e : Ending) (w' : World) : Prop := ∃ v, e = .returned v ∧ SlI (fun k => w.heap.size ≤ k) w' v (ints (us.map dep)) ∧ Lay w w'
set_option maxRecDepth 100000 in
set_option maxHeartbeats 1000000 in
theorem pivotsD_any (w : World) (vu : Value) (us : List (List Nat)) (hu : Sl2 Any w vu (us.map ints)) (hl : us.length ≤ 1000) (hd : ∀ u ∈ us, dep u < u.length ∧ u.length ≤ 1000) :
    Calls Tryz.prog 56 #[vu] w (PivD us w) := by
  obtain ⟨i0, hi, hz0, hz1, hz2⟩ := info_parts infoN
  obtain ⟨aU, cU, rfl, _, _⟩ := SlG.form hu
  rw [List.length_map] at hu ⊢
  have HU := Lib.hid hu
  have HD := Lib.hid hd
  have HIX := Lib.hid (fun W v x h h1 h2 => index_any W v x h h1 h2)
  obtain ⟨m, hm⟩ : ∃ m, us.length = m := ⟨_, rfl⟩
  rw [hm] at HU hl ⊢
  have HM := Lib.hid hm
  clear hu hd hm
  go_enter Tryz.func56, Tryz.ntmps56
  go_wp2_with fail
  go_loopw [3, 8] (fun ov iv wr => ∃ k : Nat, k ≤ m ∧ iv = .int .i64 (k : Int) ∧ Hid (wr.ownsRow w.heap.size 3 1 ov k (vals (ints ((us.map dep).take k)))) ∧ Hid (Lay w wr)) (fun _ iv _ => m - (intOf iv).toNat)
  case atStart => exact ⟨0, Nat.zero_le _, rfl, Lib.hid (World.ownsRow_nil _ _ _ _), Lib.hid (Lay.refl _)⟩
  case round =>
    obtain ⟨k, hk, rfl, hO, hB⟩ := hrel
    by_cases hlt : k < m
    · obtain ⟨u, hu⟩ : ∃ u, us[k]? = some u := ⟨_, List.getElem?_eq_getElem (by rw [HM.out]; omega)⟩
      obtain ⟨b, o, q, rfl, _, hb, hc, hq⟩ := SlG.get HU.out (k := k) (x := ints u) (by rw [List.getElem?_map, hu]; rfl)
      have hk1 := Keep.of_below (S := Any) hB.out.b
      have hcr := (hk1.cell (b := b) (o := o + k) trivial hb).trans hc
      have hbr : b < wr.heap.size := Nat.lt_of_lt_of_le hb hB.out.b.size
      have hdu := HD.out u (List.mem_of_getElem? hu)
      have HPC := Lib.hid (HIX.out wr q u (SlI.keep hq hk1) hdu.1 (by omega))
      have hti : (us.map dep).take (k + 1) = (us.map dep).take k ++ [dep u] := by rw [List.take_add_one, List.getElem?_map, hu]; rfl
      have HTI := Lib.hid (show vals (ints ((us.map dep).take (k + 1))) = vals (ints ((us.map dep).take k)) ++ [.int .i64 (dep u : Int)] by rw [hti]; simp [vals, ints])
      have hki : (k : Int) < (m : Int) := by omega
      clear hu hc hq hdu hk1 hti
      go_wp2_with fail
      refine HPC.out.mono ?_
      rintro e w' ⟨rfl, rfl⟩
      have h1 := ownsRow_keep hO.out (S := Any) ((Keep.refl _ wr).alloc (.cells #[.int .i64 (dep u : Int)] 3)) (fun _ _ => trivial)
      have hs0 := hB.out.b.size
      clear HPC hcr
      go_wp2_with (at_builtin; (refine wpList_append_ownD _ rfl _ _ 78 rfl w.heap.size 3 i0 (.int .i64 0) 1 8 Tryz.underlying78 hi hz0 hz1 hz2 rfl (by decide) _ _ _ rfl h1 ⟨wr.heap.size, 0, none⟩ 1 1 [.int .i64 (dep u : Int)] rfl rfl ?c1 ?c2 ?c3 ?c4 ?c5 ?_))
      case c1 =>
        intro j u hj
        match j, hj with
        | 0, hj => simp at hj; subst hj; simp [Addr.add]
      case c2 => intro u hu; simp at hu; subst hu; rfl
      case c3 => unfold maxLen; omega
      case c4 => omega
      case c5 => simp; omega
      intro v' w2 hown hgrow hdr
      have HN := Lib.hid (show w2.ownsRow w.heap.size 3 1 v' (k + 1) (vals (ints ((us.map dep).take (k + 1)))) by rw [HTI.out]; exact hown)
      have HNB := Lib.hid (show Lay w w2 from ⟨(hB.out.b.alloc hs0 _).grown hgrow (by simp; omega) (fun g hg => (World.ownsRow.lt h1 g hg).1), Nat.le_trans hB.out.d hdr⟩)
      clear hown hgrow hdr h1 hO hB
      go_wp2_with fail
      go_roundw
      case rel => exact ⟨k + 1, by omega, by go_num, HN, HNB⟩
      case measure => simp [intOf] <;> omega
    · obtain rfl : k = m := by omega
      have HR := Lib.hid (show ∀ ov, wr.ownsRow w.heap.size 3 1 ov k (vals (ints ((us.map dep).take k))) → PivD us w (.returned ov) wr from fun ov h => ⟨ov, rfl, by
        rw [← HM.out, List.take_of_length_le (by simp)] at h
        exact own_sl (by rw [List.length_map]; exact h), hB.out⟩)
      have HRR := Lib.hid (HR.out _ hO.out)
      clear hO hB HR
      go_wp2_with fail
      go_ret
      exact HRR.out

theorem nan_any (x : Nat) (w : World) : Calls Tryz.prog 136 #[.int .i64 (x : Int)] w fun e w' => e = .returned (.bool false) ∧ w = w' := by
  go_enter Tryz.func136, Tryz.ntmps136
  go_wp2_with fail
  go_ret
  exact ⟨by simp, rfl⟩
theorem cmp_any (x y : Nat) (w : World) : Calls Tryz.prog 90 #[.int .i64 (x : Int), .int .i64 (y : Int)] w fun e w' => e = .returned (.int .i64 (cmpN x y)) ∧ w = w' := by
  rcases Nat.lt_trichotomy x y with h | h | h
  · have h1 : decide ((x : Int) < (y : Int)) = true := by simp; omega
    have HC := Lib.hid (show cmpN x y = -1 by simp [cmpN, h])
    go_enter Tryz.func90, Tryz.ntmps90
    go_wp2_with (go_at_call 136; refine (nan_any _ _).mono ?_; rintro e w' ⟨rfl, rfl⟩)
    go_ret
    exact ⟨by rw [HC.out]; rfl, rfl⟩
  · subst h
    have h1 : decide ((x : Int) < (x : Int)) = false := by simp
    have HC := Lib.hid (show cmpN x x = 0 by simp [cmpN])
    go_enter Tryz.func90, Tryz.ntmps90
    go_wp2_with (go_at_call 136; refine (nan_any _ _).mono ?_; rintro e w' ⟨rfl, rfl⟩)
    go_ret
    exact ⟨by rw [HC.out]; rfl, rfl⟩
  · have h1 : decide ((x : Int) < (y : Int)) = false := by simp; omega
    have h2 : decide ((x : Int) > (y : Int)) = true := by simp; omega
    have HC := Lib.hid (show cmpN x y = 1 by simp [cmpN, h]; omega)
    go_enter Tryz.func90, Tryz.ntmps90
    go_wp2_with (go_at_call 136; refine (nan_any _ _).mono ?_; rintro e w' ⟨rfl, rfl⟩)
    go_ret
    exact ⟨by rw [HC.out]; rfl, rfl⟩
/-- lists in the order of slices.Compare -/
def cmpF : List Nat → List Nat → Int
  | [], [] => 0
  | [], _ :: _ => -1
  | _ :: _, [] => 1
  | a :: x, b :: y => if a < b then -1 else if b < a then 1 else cmpF x y
theorem cmpF_self : ∀ x : List Nat, cmpF x x = 0
  | [] => rfl
  | a :: x => by rw [cmpF, if_neg (Nat.lt_irrefl _), if_neg (Nat.lt_irrefl _), cmpF_self x]
theorem cmpF_lt (a b : Nat) (x y : List Nat) : cmpF (a :: x) (b :: y) < 0 ↔ a < b ∨ (a = b ∧ cmpF x y < 0) := by
  rw [cmpF]
  split
  · simp; omega
  · split
    · simp; omega
    · have : a = b := by omega
      simp [this]
theorem cmpF_trans : ∀ x y z : List Nat, cmpF x y < 0 → cmpF y z < 0 → cmpF x z < 0
  | [], [], z, h, _ => by simp [cmpF] at h
  | [], _ :: _, [], _, h => by simp [cmpF] at h
  | [], _ :: _, _ :: _, _, _ => by simp [cmpF]
  | _ :: _, [], z, h, _ => by simp [cmpF] at h
  | _ :: _, _ :: _, [], _, h => by simp [cmpF] at h
  | a :: x, b :: y, c :: z, h1, h2 => by
    rw [cmpF_lt] at h1 h2 ⊢
    rcases h1 with h1 | ⟨h1, h3⟩ <;> rcases h2 with h2 | ⟨h2, h4⟩
    · exact .inl (by omega)
    · exact .inl (by omega)
    · exact .inl (by omega)
    · exact .inr ⟨by omega, cmpF_trans x y z h3 h4⟩
theorem cmpF_ntrans : ∀ x y z : List Nat, ¬ cmpF x y < 0 → ¬ cmpF y z < 0 → ¬ cmpF x z < 0
  | [], [], z, _, h2 => h2
  | [], _ :: _, z, h, _ => absurd (by simp [cmpF]) h
  | _ :: _, [], [], h, _ => h
  | _ :: _, [], _ :: _, _, h => absurd (by simp [cmpF]) h
  | _ :: _, _ :: _, [], _, _ => by simp [cmpF]
  | a :: x, b :: y, c :: z, h1, h2 => by
    rw [cmpF_lt, not_or, not_and] at h1 h2 ⊢
    refine ⟨by omega, fun h => ?_⟩
    have h3 : a = b := by omega
    have h4 : b = c := by omega
    exact cmpF_ntrans x y z (h1.2 h3) (h2.2 h4)
theorem cmpF_nil {y : List Nat} : cmpF [] y = if 0 < y.length then -1 else 0 := by cases y <;> simp [cmpF]
theorem cmpF_drop {x y : List Nat} {k a b : Nat} (ha : x[k]? = some a) (hb : y[k]? = some b) : cmpF (x.drop k) (y.drop k) = if a < b then -1 else if b < a then 1 else cmpF (x.drop (k + 1)) (y.drop (k + 1)) := by
  obtain ⟨h1, e1⟩ := List.getElem?_eq_some_iff.1 ha
  obtain ⟨h2, e2⟩ := List.getElem?_eq_some_iff.1 hb
  rw [List.drop_eq_getElem_cons h1, List.drop_eq_getElem_cons h2, e1, e2, cmpF]
theorem cmpF_over {x y : List Nat} {k a : Nat} (ha : x[k]? = some a) (hb : y.length ≤ k) : cmpF (x.drop k) (y.drop k) = 1 := by
  obtain ⟨h1, e1⟩ := List.getElem?_eq_some_iff.1 ha
  rw [List.drop_eq_getElem_cons h1, List.drop_eq_nil_of_le hb, cmpF]

set_option maxHeartbeats 1000000 in
theorem compareF_any (w : World) (vx vy : Value) (x y : List Nat) (hx : SlI (fun _ => True) w vx (ints x)) (hy : SlI (fun _ => True) w vy (ints y)) :
    Calls Tryz.prog 91 #[vx, vy] w fun e w' => e = .returned (.int .i64 (cmpF x y)) ∧ w = w' := by
  have hm : (x.length : Int) ≤ 9223372036854775807 := by
    obtain ⟨_, _, _, h1, h2, _⟩ := hx
    rw [ints_length] at h1
    unfold maxLen at h2
    omega
  obtain ⟨aX, cX, rfl, hcx⟩ := hx.open
  obtain ⟨aY, cY, rfl, hcy⟩ := hy.open
  have HX := Lib.hid hx
  have HY := Lib.hid hy
  obtain ⟨m, hm2⟩ : ∃ m, y.length = m := ⟨_, rfl⟩
  have HL := Lib.hid hm2
  rw [hm2] at hcy ⊢
  clear hx hy hm2
  go_enter Tryz.func91, Tryz.ntmps91
  go_wp2_with fail
  go_loop [11] (fun iv => ∃ k : Nat, k ≤ x.length ∧ k ≤ m ∧ iv = .int .i64 (k : Int) ∧ Hid (cmpF (x.drop k) (y.drop k) = cmpF x y)) (fun iv => x.length - (intOf iv).toNat)
  case atStart => exact ⟨0, Nat.zero_le _, Nat.zero_le _, rfl, Lib.hid rfl⟩
  case round =>
    obtain ⟨k, hk, hkm, rfl, hR⟩ := hrel
    by_cases hlt : k < x.length
    · obtain ⟨a, ha⟩ : ∃ a, x[k]? = some a := ⟨_, List.getElem?_eq_getElem hlt⟩
      have hd : decide ((k : Int) < (x.length : Int)) = true := by simp; omega
      by_cases hltm : k < m
      · obtain ⟨c, hc⟩ : ∃ c, y[k]? = some c := ⟨_, List.getElem?_eq_getElem (by rw [HL.out]; exact hltm)⟩
        obtain ⟨bX, oX, rfl, _, _, hcX⟩ := HX.out.at ha
        obtain ⟨bY, oY, rfl, _, _, hcY⟩ := HY.out.at hc
        have HD := Lib.hid ((cmpF_drop ha hc).symm.trans hR.out)
        have hd2 : decide ((k : Int) ≥ (m : Int)) = false := by simp; omega
        clear ha hc
        go_wp2_with fail
        refine (cmp_any _ _ _).mono ?_
        rintro e w' ⟨rfl, rfl⟩
        rcases Nat.lt_trichotomy a c with h | h | h
        · have HC := Lib.hid (show cmpN a c = -1 by simp [cmpN, h])
          have HR := Lib.hid (show -1 = cmpF x y by have := HD.out; rwa [if_pos h] at this)
          rw [HC.out]
          clear h
          go_wp2_with fail
          go_ret
          exact ⟨by rw [← HR.out]; rfl, rfl⟩
        · subst h
          have HC := Lib.hid (show cmpN a a = 0 by simp [cmpN])
          have HR := Lib.hid (show cmpF (x.drop (k + 1)) (y.drop (k + 1)) = cmpF x y by have := HD.out; rwa [if_neg (Nat.lt_irrefl _), if_neg (Nat.lt_irrefl _)] at this)
          rw [HC.out]
          go_wp2_with fail
          go_round
          case rel => exact ⟨k + 1, by omega, by omega, by go_num, HR⟩
          case measure => simp [intOf]; omega
        · have HC := Lib.hid (show cmpN a c = 1 by simp [cmpN, h]; omega)
          have HR := Lib.hid (show 1 = cmpF x y by have := HD.out; rwa [if_neg (by omega), if_pos h] at this)
          rw [HC.out]
          clear h
          go_wp2_with fail
          go_ret
          exact ⟨by rw [← HR.out]; rfl, rfl⟩
      · obtain rfl : k = m := by omega
        obtain ⟨bX, oX, rfl, _, _, hcX⟩ := HX.out.at ha
        have HR := Lib.hid (show 1 = cmpF x y by rw [← hR.out]; exact (cmpF_over ha (by rw [HL.out]; exact Nat.le_refl _)).symm)
        have hd2 : decide ((k : Int) ≥ (k : Int)) = true := by simp
        clear ha
        go_wp2_with fail
        go_ret
        exact ⟨by rw [← HR.out]; rfl, rfl⟩
    · obtain rfl : k = x.length := by omega
      have hd : decide ((x.length : Int) < (x.length : Int)) = false := by simp
      have HR := Lib.hid (show cmpF x y = if 0 < (y.drop x.length).length then -1 else 0 by rw [← hR.out, List.drop_length, cmpF_nil])
      by_cases hq : x.length < m
      · have hd2 : decide ((x.length : Int) < (m : Int)) = true := by simp; omega
        have hd3 : decide (x.length < m) = true := by simp; omega
        have HR2 := Lib.hid (show cmpF x y = -1 by rw [HR.out, List.length_drop, HL.out, if_pos (by omega)])
        clear hq
        go_wp2_with fail
        go_ret
        exact ⟨by rw [HR2.out]; rfl, rfl⟩
      · have hd2 : decide ((x.length : Int) < (m : Int)) = false := by simp; omega
        have hd3 : decide (x.length < m) = false := by simp; omega
        have HR2 := Lib.hid (show cmpF x y = 0 by rw [HR.out, List.length_drop, HL.out, if_neg (by omega)])
        clear hq
        go_wp2_with fail
        go_ret
        exact ⟨by rw [HR2.out]; rfl, rfl⟩

theorem or_any (w : World) (b c : Nat) (x y : Int) (h0 : w.cell? ⟨b, 0, none⟩ = some (.int .i64 x)) (h1 : w.cell? ⟨b, 1, none⟩ = some (.int .i64 y)) :
    Calls Tryz.prog 89 #[.slice (some ⟨b, 0, none⟩) 2 c] w fun e w' => e = .returned (.int .i64 (if x ≠ 0 then x else y)) ∧ w = w' := by
  go_enter Tryz.func89, Tryz.ntmps89
  go_wp2_with fail
  go_loop [8] (fun iv => (iv = .int .i64 0) ∨ (iv = .int .i64 1 ∧ Hid (x = 0)) ∨ (iv = .int .i64 2 ∧ Hid (x = 0) ∧ Hid (y = 0))) (fun iv => 2 - (intOf iv).toNat)
  case atStart => exact .inl rfl
  case round =>
    rcases hrel with rfl | ⟨rfl, hx⟩ | ⟨rfl, hx, hy⟩
    · by_cases hx : x = 0
      · subst hx
        go_wp2_with fail
        go_round
        case rel => exact .inr (.inl ⟨by go_num, by first | exact Lib.hid rfl | exact Lib.hid trivial⟩)
        case measure => simp [intOf]
      · have hne : (x != 0) = true := by simp; exact hx
        go_wp2_with fail
        go_ret
        first | exact ⟨rfl, rfl⟩ | exact ⟨by rw [if_pos hx], rfl⟩
    · obtain rfl := hx.out
      by_cases hy : y = 0
      · subst hy
        go_wp2_with fail
        go_round
        case rel => exact .inr (.inr ⟨by go_num, by first | exact Lib.hid rfl | exact Lib.hid trivial, by first | exact Lib.hid rfl | exact Lib.hid trivial⟩)
        case measure => simp [intOf]
      · have hne : (y != 0) = true := by simp; exact hy
        go_wp2_with fail
        go_ret
        first | exact ⟨rfl, rfl⟩ | exact ⟨by simp, rfl⟩
    · obtain rfl := hx.out
      obtain rfl := hy.out
      go_wp2_with fail
      go_ret
      first | exact ⟨rfl, rfl⟩ | exact ⟨by simp, rfl⟩

def GroR (w : World) (e : Ending) (w' : World) : Prop := ∃ v, e = .returned v ∧ Own w.heap.size w' v [] ∧ Lay w w'
set_option maxRecDepth 100000 in
set_option maxHeartbeats 1000000 in
theorem grow_nil_any (n : Nat) (hn : n ≤ 1000000) (w : World) : Calls Tryz.prog 137 #[.slice none 0 0, .int .i64 (n : Int)] w (GroR w) := by
  obtain ⟨i0, hi, hz0, hz1, hz2⟩ := info_parts infoI
  by_cases h0 : n = 0
  · subst h0
    go_enter Tryz.func137, Tryz.ntmps137
    go_wp2_with fail
    go_ret
    exact ⟨_, rfl, ⟨rfl, .inl ⟨rfl, rfl⟩⟩, Lay.refl _⟩
  · have h1 : ¬ ((n : Int) < 0) := by omega
    have h4 : (n : Int) > 0 := by omega
    have hw : IntKind.i64.wrap (n : Int) = n := IntWalk.i64_in _ (by omega)
    have hrz := fun ty => Lib.run_append_nil_zeros (P := Tryz.prog) w 22 3 ty 2 i0 (.int .i64 0) .i64 .i64 Tryz.underlying22 Tryz.underlying3 hi hz0 n (by omega) (by rw [hz1]; omega) (by omega) (by rw [hz2]; omega)
    have hge := grownCap_ge w n 0 2
    have hle := Lib.hid (grownCap_le_maxLen w n 0 2 (by unfold maxLen; omega))
    have hle2 : (grownCap w n 0 2 : Int) ≤ 9223372036854775807 := by have := hle.out; unfold maxLen at this; omega
    obtain ⟨cp, hcp⟩ : ∃ cp, grownCap w n 0 2 = cp := ⟨_, rfl⟩
    obtain ⟨w2, hw2⟩ : ∃ w2, w.drew.alloc (.cells (Builtin.zeroCells (Value.int .i64 0).cells n ++ Builtin.zeroCells (Value.int .i64 0).cells (grownCap w n 0 2 - n)) 2) = w2 := ⟨_, rfl⟩
    have HR := Lib.hid (show GroR w (.returned (.slice (some ⟨w.heap.size, 0, none⟩) 0 cp)) w2 from by
      rw [← hw2, ← hcp]
      refine ⟨_, rfl, ⟨rfl, .inr ⟨w.heap.size, _, _, rfl, Nat.le_refl _, heap_alloc_new w.drew _, Nat.zero_le _, hle.out, ?_, by simp⟩⟩, ⟨((Below.refl _ _).drew).alloc (Nat.le_refl _) _, Nat.le_succ _⟩⟩
      simp [Builtin.zeroCells, Value.cells]; omega)
    rw [hw2] at hrz
    rw [hcp] at hrz hge hle2
    have hge' : (n : Int) ≤ (cp : Int) := by omega
    have hcp0 : (0 : Int) ≤ (cp : Int) := by omega
    clear hw2 hcp h0 hle hn
    go_enter Tryz.func137, Tryz.ntmps137
    go_wp2_with (at_builtin; (refine Lib.wpList_append_run _ rfl _ _ _ _ rfl _ _ rfl rfl _ _ (hrz _) ?_))
    go_ret
    exact HR.out

def ConR (l : List Nat) (w : World) (e : Ending) (w' : World) : Prop := ∃ v, e = .returned v ∧ SlI (fun k => w.heap.size ≤ k) w' v (ints l) ∧ Lay w w'
theorem flat_take {us : List (List Nat)} {r : List Nat} {k : Nat} (h : us[k]? = some r) : (us.take (k + 1)).flatten = (us.take k).flatten ++ r := by
  rw [List.take_add_one, h]; simp
theorem flat_le {us : List (List Nat)} (h : ∀ r ∈ us, r.length ≤ 1000) : us.flatten.length ≤ us.length * 1000 := by
  induction us with
  | nil => simp
  | cons r us ih =>
    rw [List.flatten_cons, List.length_append, List.length_cons]
    have h1 := h r List.mem_cons_self
    have h2 := ih fun r hr => h r (List.mem_cons_of_mem _ hr)
    omega
set_option maxRecDepth 100000 in
set_option maxHeartbeats 2000000 in
theorem concat_any (w : World) (vu : Value) (us : List (List Nat)) (hu : Sl2 Any w vu (us.map ints)) (hl : us.length ≤ 1000) (hr : ∀ r ∈ us, 0 < r.length ∧ r.length ≤ 1000) :
    Calls Tryz.prog 92 #[vu] w (ConR us.flatten w) := by
  obtain ⟨i0, hi, hz0, hz1, hz2⟩ := info_parts infoI
  have HFL := Lib.hid (fun k => show (us.take k).flatten.length ≤ 1000000 from by
    have h1 := flat_le (us := us.take k) (fun r h => (hr r (List.mem_of_mem_take h)).2)
    have h2 : (us.take k).length ≤ us.length := by rw [List.length_take]; omega
    omega)
  have HU := Lib.hid hu
  have HRR := Lib.hid hr
  obtain ⟨aU, cU, rfl, hcU, _⟩ := SlG.form hu
  rw [List.length_map] at HU hcU ⊢
  obtain ⟨m, hm⟩ : ∃ m, us.length = m := ⟨_, rfl⟩
  rw [hm] at HU hl hcU ⊢
  have HM := Lib.hid hm
  clear hu hr hm
  go_enter Tryz.func92, Tryz.ntmps92
  go_wp2_with fail
  go_loop [3, 11] (fun sv iv => ∃ k s : Nat, k ≤ m ∧ iv = .int .i64 (k : Int) ∧ sv = .int .i64 (s : Int) ∧ Hid (s = (us.take k).flatten.length)) (fun _ iv => m - (intOf iv).toNat)
  case atStart => exact ⟨0, 0, Nat.zero_le _, rfl, rfl, Lib.hid (by simp)⟩
  case round =>
    obtain ⟨k, s, hk, rfl, rfl, hs⟩ := hrel
    by_cases hlt : k < m
    · obtain ⟨r, hrk⟩ : ∃ r, us[k]? = some r := ⟨_, List.getElem?_eq_getElem (by rw [HM.out]; exact hlt)⟩
      obtain ⟨bU, oU, u, rfl, _, hbU, hcc, hru⟩ := SlG.get HU.out (k := k) (x := ints r) (by rw [List.getElem?_map, hrk]; rfl)
      obtain ⟨a2, c2, rfl, _⟩ := SlI.open hru
      have hd : decide ((k : Int) < (m : Int)) = true := by simp; omega
      have HN := Lib.hid (show s + r.length = (us.take (k + 1)).flatten.length by rw [flat_take hrk, List.length_append, ← hs.out])
      have hw : IntKind.i64.wrap ((s : Int) + (r.length : Int)) = ((s + r.length : Nat) : Int) := by
        have h1 := HFL.out (k + 1)
        rw [← HN.out] at h1
        rw [IntWalk.i64_in _ (by omega)]; omega
      obtain ⟨t, ht⟩ : ∃ t, s + r.length = t := ⟨_, rfl⟩
      rw [ht] at HN hw
      have hd2 : decide ((t : Int) < 0) = false := by simp
      clear hrk hru ht
      go_wp2_with fail
      go_round
      case rel => exact ⟨k + 1, t, by omega, by go_num, by first | rfl | simp [hw], HN⟩
      case measure => simp [intOf]; omega
    · obtain rfl : k = m := by omega
      have hd : decide ((k : Int) < (k : Int)) = false := by simp
      have HG := Lib.hid (grow_nil_any s (by rw [hs.out]; exact HFL.out k) w)
      clear hs
      go_wp2_with fail
      refine HG.out.mono ?_
      rintro e w1 ⟨v1, rfl, ho1, hb1⟩
      have HO1 := Lib.hid ho1
      have HB1 := Lib.hid hb1
      clear ho1 hb1
      go_wp2_with fail
      go_loopw [6, 27] (fun nv iv wr => ∃ j : Nat, j ≤ k ∧ iv = .int .i64 (j : Int) ∧ Hid (Own w.heap.size wr nv (ints (us.take j).flatten)) ∧ Hid (Lay w wr)) (fun _ iv _ => k - (intOf iv).toNat)
      case atStart => exact ⟨0, Nat.zero_le _, rfl, Lib.hid (by simpa [ints] using HO1.out), HB1⟩
      case round =>
        obtain ⟨j, hj, rfl, hO, hB⟩ := hrel
        by_cases hlt2 : j < k
        · obtain ⟨r, hrk⟩ : ∃ r, us[j]? = some r := ⟨_, List.getElem?_eq_getElem (by rw [HM.out]; exact hlt2)⟩
          obtain ⟨bU, oU, u, rfl, _, hbU, hcc, hru⟩ := SlG.get (Sl2.keep HU.out (Keep.of_below hB.out.b)) (k := j) (x := ints r) (by rw [List.getElem?_map, hrk]; rfl)
          obtain ⟨a2, c2, rfl, _⟩ := SlI.open hru
          have hr0 := HRR.out r (List.mem_of_getElem? hrk)
          obtain ⟨b2, o2, rfl, -, -, -⟩ := SlI.at hru (j := 0) (q := r[0]'hr0.1) (List.getElem?_eq_getElem _)
          have hd : decide ((j : Int) < (k : Int)) = true := by simp; omega
          obtain ⟨f, hf⟩ : ∃ f, (us.take j).flatten = f := ⟨_, rfl⟩
          have HN := Lib.hid (show (us.take (j + 1)).flatten = f ++ r by rw [flat_take hrk, hf])
          have HFB := Lib.hid (show f.length + r.length ≤ 1000000 by have := HFL.out (j + 1); rw [HN.out, List.length_append] at this; exact this)
          rw [hf] at hO
          have HOW := Lib.hid (show wr.ownsRow w.heap.size 2 1 _ f.length (vals (ints f)) from by have h := hO.out; rw [Own, ints_length] at h; exact h)
          have C1 := Lib.hid (SlI.src hru (Keep.refl _ wr))
          have C2 := Lib.hid (vals_one (ints r))
          have C3 := Lib.hid (show f.length + r.length ≤ maxLen from by have := HFB.out; unfold maxLen; omega)
          have C4 := Lib.hid (show (f.length + r.length) * 8 ≤ 140737488355328 from by have := HFB.out; omega)
          have C5 := Lib.hid (show (vals (ints r)).length = r.length * 1 by simp [vals, ints])
          have C6 := Lib.hid hB.out.b.size
          clear hrk hru hr0 hf hO
          go_wp2_with (at_builtin; refine wpList_append_ownD _ rfl _ _ 22 rfl w.heap.size 2 i0 (.int .i64 0) 1 8 Tryz.underlying22 hi hz0 hz1 hz2 rfl (by decide) _ _ _ rfl HOW.out ⟨b2, o2, none⟩ r.length c2 (vals (ints r)) rfl C5.out C1.out C2.out C3.out C4.out C6.out ?_)
          intro v' w4 hown' hgrow hdr
          have HO4 := Lib.hid (show Own w.heap.size w4 v' (ints (us.take (j + 1)).flatten) from by
            rw [HN.out, Own, ints_length, List.length_append]
            rw [show vals (ints (f ++ r)) = vals (ints f) ++ vals (ints r) by simp [vals, ints]]
            exact hown')
          have HB4 := Lib.hid (show Lay w w4 from ⟨hB.out.b.grown hgrow hB.out.b.size (fun g hg => (World.ownsRow.lt HOW.out g hg).1), Nat.le_trans hB.out.d hdr⟩)
          clear hown' hgrow hdr
          go_wp2_with fail
          go_roundw
          case rel => exact ⟨j + 1, by omega, by go_num, HO4, HB4⟩
          case measure => simp [intOf]; omega
        · obtain rfl : j = k := by omega
          have hd : decide ((j : Int) < (j : Int)) = false := by simp
          have HR := Lib.hid (fun v (h : Own w.heap.size wr v (ints (us.take j).flatten)) => show ConR us.flatten w (.returned v) wr from ⟨v, rfl, by
            rw [← HM.out, List.take_length] at h
            exact h.sl, hB.out⟩)
          have HRR2 := Lib.hid (HR.out _ hO.out)
          clear hO HR
          go_wp2_with fail
          go_ret
          exact HRR2.out

set_option maxRecDepth 100000 in
set_option maxHeartbeats 1000000 in
theorem sizeOf_any (T : Tw) (hs : Small T) (w : World) (b o : Nat) (vu : Value) (us : List (List Nat)) (hP : PtrP Any w b o (ofTw T)) (hu : Sl2 Any w vu (us.map ints)) (hul : us.length ≤ 1000) (hL : ∀ u ∈ us, El T u ∧ dep u < T.length) (hz : sz (subT T us) ≤ 729) :
    Calls Tryz.prog 27 #[.pointer (some ⟨b, o, none⟩), vu] w fun e w' => e = .returned (.int .i64 (sz (subT T us) : Int)) ∧ Lay w w' := by
  have hs6 := hs.1
  have HP := Lib.hid hP
  have HL := Lib.hid hL
  have HZ := Lib.hid hz
  have HPV := Lib.hid (pivotsD_any w vu us hu hul (fun u hu => by have h := hL u hu; have := El_length h.1; omega))
  obtain ⟨m, hm⟩ : ∃ m, us.length = m := ⟨_, rfl⟩
  have HM := Lib.hid hm
  have HPO := Lib.hid (show ∀ V : List (List Nat), (∀ u ∈ V, dep u < T.length ∧ ∃ L, T[dep u]? = some L ∧ 0 < L.o) → 0 < sz (subT T V) from fun V => by
    induction V with
    | nil => intro _; simp [subT, sz]
    | cons v V ih =>
      intro h
      obtain ⟨_, L, hL', h0⟩ := h v List.mem_cons_self
      have h2 := ih fun u hu => h u (List.mem_cons_of_mem _ hu)
      rw [subT, sz]
      show 0 < oF T (dep v) * _
      rw [oF_at hL']
      exact Nat.mul_pos h0 h2)
  have HOO := Lib.hid (fun u (h : u ∈ us) => show ∃ L, T[dep u]? = some L from ⟨_, List.getElem?_eq_getElem (hL u h).2⟩)
  rw [hm] at hul
  clear hP hu hL hz hm
  go_enter Tryz.func27, Tryz.ntmps27
  go_wp2_with fail
  refine HPV.out.mono ?_
  rintro e w1 ⟨vp, rfl, hp1, hb1⟩
  obtain ⟨aP, cP, rfl, _⟩ := hp1.open
  rw [List.length_map, HM.out] at hp1 ⊢
  have HP1 := Lib.hid hp1
  have HB1 := Lib.hid hb1
  obtain ⟨-, hPb, vO, vP, vC, p0, p1, p2, hv⟩ := HP.out.keep (Keep.of_below hb1.b)
  obtain ⟨aO, cO, aP', cP', aC, cC, rfl, rfl, rfl, -, -, -⟩ := hv.open
  have HV := Lib.hid hv
  clear hp1 hb1 hv p1 p2
  go_wp2_with fail
  go_loop [5, 11] (fun sv iv => ∃ k s : Nat, k ≤ m ∧ iv = .int .i64 (k : Int) ∧ sv = .int .i64 (s : Int) ∧ Hid (s * sz (subT T (us.drop k)) = sz (subT T us))) (fun _ iv => m - (intOf iv).toNat)
  case atStart => exact ⟨0, 1, Nat.zero_le _, rfl, rfl, Lib.hid (by simp)⟩
  case round =>
    obtain ⟨k, s, hk, rfl, rfl, hS⟩ := hrel
    by_cases hlt : k < m
    · obtain ⟨u, hu⟩ : ∃ u, us[k]? = some u := ⟨_, List.getElem?_eq_getElem (by rw [HM.out]; exact hlt)⟩
      obtain ⟨L, hL⟩ := HOO.out u (List.mem_of_getElem? hu)
      obtain ⟨bP, oP, rfl, _, hbP, hcP⟩ := SlI.at HP1.out (j := k) (q := dep u) (by rw [List.getElem?_map, hu]; rfl)
      obtain ⟨bO, oO, rfl, -, hbO, hcO⟩ := HV.out.ord hL
      obtain ⟨d, hd⟩ : ∃ d, dep u = d := ⟨_, rfl⟩
      rw [hd] at hcP hcO
      have hdl : d < T.length := by rw [← hd]; exact (HL.out u (List.mem_of_getElem? hu)).2
      have HN := Lib.hid (show s * L.o * sz (subT T (us.drop (k + 1))) = sz (subT T us) from by
        have h1 := hS.out
        obtain ⟨h2, e⟩ := List.getElem?_eq_some_iff.1 hu
        rw [List.drop_eq_getElem_cons h2, e, subT, sz] at h1
        have h3 : s * (oF T (dep u) * sz (subT T (us.drop (k + 1)))) = sz (subT T us) := h1
        rw [oF_at hL, ← Nat.mul_assoc] at h3
        exact h3)
      obtain ⟨t, ht⟩ : ∃ t, s * L.o = t := ⟨_, rfl⟩
      rw [ht] at HN
      have ht7 : t ≤ 729 := by
        rcases Nat.eq_zero_or_pos (sz (subT T (us.drop (k + 1)))) with h0 | h0
        · have h1 := HN.out
          rw [h0, Nat.mul_zero] at h1
          exfalso
          have hpos := HPO.out us (fun u hu => ?_)
          · omega
          · obtain ⟨L2, hL2⟩ := HOO.out u hu
            refine ⟨(HL.out u hu).2, L2, hL2, ?_⟩
            obtain ⟨L', hL', hlt'⟩ := El_lt (HL.out u hu).1 (List.getElem?_eq_getElem (l := u) (i := dep u) (by rw [El_length (HL.out u hu).1]; exact (HL.out u hu).2))
            rw [hL2] at hL'; injection hL' with hL'; subst hL'; omega
        · have h1 := HN.out
          have h2 := HZ.out
          have h3 : t * 1 ≤ t * sz (subT T (us.drop (k + 1))) := Nat.mul_le_mul (Nat.le_refl _) h0
          omega
      have hw : IntKind.i64.wrap ((s : Int) * (L.o : Int)) = (t : Int) := by
        have h : ((s : Int) * (L.o : Int)) = ((t : Nat) : Int) := by rw [← ht]; push_cast; rfl
        rw [h, IntWalk.i64_in _ (by omega)]
      have hdi : (d : Int) < (T.length : Int) := by omega
      have hdi0 : (0 : Int) ≤ (d : Int) := by omega
      have hd1 : decide ((k : Int) < (m : Int)) = true := by simp; omega
      have HKM := Lib.hid hlt
      clear hu hL ht hd
      go_wp2_with fail
      go_round
      case rel => exact ⟨k + 1, t, by have := HKM.out; omega, by go_num, by first | rfl | simp [hw], HN⟩
      case measure => have := HKM.out; simp [intOf]; omega
    · obtain rfl : k = m := by omega
      have hd1 : decide ((k : Int) < (k : Int)) = false := by simp
      have HE := Lib.hid (show s = sz (subT T us) from by
        have h := hS.out
        rw [List.drop_eq_nil_of_le (by rw [HM.out]; exact Nat.le_refl _)] at h
        simpa [subT, sz] using h)
      clear hS
      go_wp2_with fail
      go_ret
      exact ⟨by rw [HE.out]; rfl, HB1.out⟩

/-- the key of a subgroup -/
noncomputable def key (T : Tw) (us : List (List Nat)) : List Nat := sz (subT T us) :: us.flatten
def CsR (T : Tw) (us vs : List (List Nat)) (w : World) (e : Ending) (w' : World) : Prop := e = .returned (.int .i64 (cmpF (key T us) (key T vs))) ∧ Lay w w'
theorem or_key (a b : Nat) (x y : List Nat) : (if cmpN a b ≠ 0 then cmpN a b else cmpF x y) = cmpF (a :: x) (b :: y) := by
  unfold cmpN
  rw [cmpF]
  split
  · simp
  · split
    · simp
    · simp
structure SubU (T : Tw) (us : List (List Nat)) : Prop where
  len : us.length ≤ 6
  row : ∀ u ∈ us, El T u ∧ dep u < T.length
  size : sz (subT T us) ≤ 729

set_option maxHeartbeats 1000000 in
theorem compareSub_any (T : Tw) (hs : Small T) (w : World) (b o : Nat) (vu vv : Value) (us vs : List (List Nat)) (hP : PtrP Any w b o (ofTw T)) (hu : Sl2 Any w vu (us.map ints)) (hv : Sl2 Any w vv (vs.map ints)) (gu : SubU T us) (gv : SubU T vs) :
    Calls Tryz.prog 55 #[.pointer (some ⟨b, o, none⟩), vu, vv] w (CsR T us vs w) := by
  have hs6 := hs.1
  have HSZ := Lib.hid (fun W v l h1 h2 (g : SubU T l) => sizeOf_any T hs W b o v l h1 h2 (by have := g.len; omega) g.row g.size)
  have HCO := Lib.hid (fun W v l h2 (g : SubU T l) => concat_any W v l h2 (by have := g.len; omega) (fun u hu => by have h := g.row u hu; have := El_length h.1; omega))
  have HP := Lib.hid hP
  have HU := Lib.hid hu
  have HV := Lib.hid hv
  have HK := Lib.hid (or_key (sz (subT T us)) (sz (subT T vs)) us.flatten vs.flatten)
  clear hP hu hv
  have C1 := Lib.hid (HSZ.out w vu us HP.out HU.out gu)
  go_enter Tryz.func55, Tryz.ntmps55
  go_wp2_with fail
  refine C1.out.mono ?_
  rintro e w1 ⟨rfl, hb1⟩
  have HB1 := Lib.hid hb1
  have C2 := Lib.hid (HSZ.out w1 vv vs (HP.out.keep (Keep.of_below hb1.b)) (Sl2.keep HV.out (Keep.of_below hb1.b)) gv)
  clear hb1 C1 HSZ
  go_wp2_with fail
  refine C2.out.mono ?_
  rintro e w2 ⟨rfl, hb2⟩
  have HB2 := Lib.hid (HB1.out.trans hb2)
  clear hb2 C2
  go_wp2_with fail
  refine (cmp_any _ _ _).mono ?_
  rintro e w3 ⟨rfl, rfl⟩
  have C4 := Lib.hid (HCO.out w2 vu us (Sl2.keep HU.out (Keep.of_below HB2.out.b)) gu)
  go_wp2_with fail
  refine C4.out.mono ?_
  rintro e w4 ⟨v4, rfl, hc4, hb4⟩
  have HB4 := Lib.hid (HB2.out.trans hb4)
  have HC4 := Lib.hid (hc4.mono (S' := Any) (fun _ _ => trivial))
  have C5 := Lib.hid (HCO.out w4 vv vs (Sl2.keep HV.out (Keep.of_below HB4.out.b)) gv)
  clear hc4 hb4 C4 HCO
  go_wp2_with fail
  refine C5.out.mono ?_
  rintro e w5 ⟨v5, rfl, hc5, hb5⟩
  have HB5 := Lib.hid (HB4.out.trans hb5)
  have C6 := Lib.hid (compareF_any w5 v4 v5 _ _ (HC4.out.keep (Keep.of_below hb5.b)) (hc5.mono (fun _ _ => trivial)))
  clear hc5 hb5 C5
  go_wp2_with fail
  refine C6.out.mono ?_
  rintro e w6 ⟨rfl, rfl⟩
  obtain ⟨c1, hc1⟩ : ∃ c, cmpN (sz (subT T us)) (sz (subT T vs)) = c := ⟨_, rfl⟩
  obtain ⟨c2, hc2⟩ : ∃ c, cmpF us.flatten vs.flatten = c := ⟨_, rfl⟩
  rw [hc1, hc2] at HK
  rw [hc1, hc2]
  clear hc1 hc2 C6
  go_wp2_with fail
  have C7 := Lib.hid (or_any (w5.alloc (.cells #[.int .i64 c1, .int .i64 c2] 3)) w5.heap.size 2 c1 c2 (by rw [cell_of_row _ _ _ #[.int .i64 c1, .int .i64 c2] 3 (0, 0) (heap_alloc_new _ _)]; rfl) (by rw [cell_of_row _ _ _ #[.int .i64 c1, .int .i64 c2] 3 (0, 0) (heap_alloc_new _ _)]; rfl))
  refine C7.out.mono ?_
  rintro e w7 ⟨rfl, rfl⟩
  have HBA := Lib.hid (HB5.out.alloc (.cells #[.int .i64 c1, .int .i64 c2] 3))
  rw [HK.out]
  clear C7
  go_wp2_with fail
  go_ret
  exact ⟨rfl, HBA.out⟩
end Go.Proofs.YtabkibmnghbahaaGreat.CcH

/-
  The sort of a list of subgroups.
-/
namespace Go.Proofs.YtabkibmnghbahaaGreat.CcI
open Go.RowKit Go.Lib Go.Sort Go.Proofs.YtabkibmnghbahaaGreat Go.Proofs.YtabkibmnghbahaaGreat.Tow Go.Proofs.YtabkibmnghbahaaGreat.NumT Go.Proofs.YtabkibmnghbahaaGreat.GenM Go.Proofs.YtabkibmnghbahaaGreat.Srt Go.Proofs.YtabkibmnghbahaaGreat.CcD Go.Proofs.YtabkibmnghbahaaGreat.CcH
open Go.Proofs.YtabkibmnghbahaaGreat.SpecB (Any)
set_option linter.unusedVariables false
set_option linter.unusedSimpArgs false

theorem lat1_any (T : Tw) (hs : Small T) (w : World) (b o bp : Nat) (vu vv : Value) (us vs : List (List Nat)) (hP : PtrP Any w b o (ofTw T)) (hc : w.cell? ⟨bp, 0, none⟩ = some (.pointer (some ⟨b, o, none⟩)))
    (hu : Sl2 Any w vu (us.map ints)) (hv : Sl2 Any w vv (vs.map ints)) (gu : SubU T us) (gv : SubU T vs) :
    Calls Tryz.prog 54 #[vu, vv, .pointer (some ⟨bp, 0, none⟩)] w (CsR T us vs w) := by
  have HC := Lib.hid (compareSub_any T hs w b o vu vv us vs hP hu hv gu gv)
  clear hP hu hv gu gv hs
  go_enter Tryz.func54, Tryz.ntmps54
  go_wp2_with fail
  refine HC.out.mono ?_
  rintro e w1 ⟨rfl, hb⟩
  have HB := Lib.hid hb
  clear hb HC
  go_wp2_with fail
  go_ret
  exact ⟨rfl, HB.out⟩

/-- a subgroup in memory -/
abbrev Rw (S : Nat → Prop) (T : Tw) (g : Nat) (w : World) : Type := { p : Value × List (List Nat) // Sl2 (fun k => S k ∧ k ≠ g) w p.1 (p.2.map ints) ∧ SubU T p.2 }
def encU {S : Nat → Prop} {T : Tw} {g : Nat} {w : World} (x : Rw S T g w) : Value := x.1.1
noncomputable def cfU {S : Nat → Prop} {T : Tw} {g : Nat} {w : World} (x y : Rw S T g w) : Int := cmpF (key T x.1.2) (key T y.1.2)
theorem enc_one (S : Nat → Prop) (T : Tw) (g : Nat) (w : World) : OneCell (encU (S := S) (T := T) (g := g) (w := w)) := by
  rintro ⟨⟨u, r⟩, ⟨ao, c, h, _⟩, _⟩
  show u.oneCell' = true
  simp only at h
  rw [h]; rfl
theorem swo (S : Nat → Prop) (T : Tw) (g : Nat) (w : World) : SWO (ltOf (cfU (S := S) (T := T) (g := g) (w := w))) where
  irrefl x := by simp [ltOf, cfU, cmpF_self]
  trans x y z h1 h2 := decide_eq_true (cmpF_trans _ _ _ (of_decide_eq_true h1) (of_decide_eq_true h2))
  ntrans x y z h1 h2 := decide_eq_false (cmpF_ntrans _ _ _ (of_decide_eq_false h1) (of_decide_eq_false h2))
theorem cmpLays (S : Nat → Prop) (T : Tw) (hs : Small T) (g : Nat) (w : World) (b o bp size : Nat) (hP : PtrP (fun k => k ≠ g) w b o (ofTw T)) (hc : w.cell? ⟨bp, 0, none⟩ = some (.pointer (some ⟨b, o, none⟩))) (hbp : bp ≠ g ∧ bp < w.heap.size) (ax : Rw S T g w) :
    letI : Inhabited (Rw S T g w) := ⟨ax⟩
    CmpLays1 Tryz.prog 54 #[.pointer (some ⟨bp, 0, none⟩)] (encU (S := S) (T := T) (g := g) (w := w)) cfU g 0 size w := by
  letI : Inhabited (Rw S T g w) := ⟨ax⟩
  intro m os dk hsz x y
  have hk := keep_srt (w := w) (enc := encU (S := S) (T := T) (g := g) (w := w)) (g := g) (n := m) (os := os) dk
  have hr : ∀ z : Rw S T g w, Sl2 Any (sortWorld (encU (S := S) (T := T) (g := g) (w := w)) w g 0 m dk os) z.1.1 (z.1.2.map ints) := fun z => Sl2.mono (Sl2.keep z.2.1 (hk.mono fun k hk => hk.2)) (fun _ _ => trivial)
  refine (lat1_any T hs _ b o bp _ _ x.1.2 y.1.2 ((hP.keep hk).mono (fun _ _ => trivial)) ((hk.cell hbp.1 hbp.2).trans hc) (hr x) (hr y) x.2.2 y.2.2).mono ?_
  rintro e w' ⟨rfl, hl⟩
  exact ⟨rfl, hl.grow⟩

/-- a list of subgroups in memory -/
def ListU (S : Nat → Prop) (B : Nat) (w : World) (v : Value) (L : List (List (List Nat))) : Prop :=
  ∃ us, w.ownsRow B 23 1 v L.length us ∧ us.length = L.length ∧ ∀ (i : Nat) (x : List (List Nat)) (u : Value), L[i]? = some x → us[i]? = some u → Sl2 (fun k => S k ∧ some k ≠ v.ownBlock) w u (x.map ints)
def SorR (S : Nat → Prop) (B : Nat) (v : Value) (L : List (List (List Nat))) (w : World) (e : Ending) (w' : World) : Prop :=
  e = .returned (.tuple #[]) ∧ ∃ L', L'.Perm L ∧ ListU S B w' v L' ∧ Keep (fun k => some k ≠ v.ownBlock) w w' ∧ Below (min B w.heap.size) w w'
theorem ListU.nil (S : Nat → Prop) (B : Nat) (w : World) : ListU S B w (.slice none 0 0) [] := ⟨[], World.ownsRow_nil _ _ _ _, rfl, by simp⟩

theorem sort_any (S : Nat → Prop) (T : Tw) (hs : Small T) (B : Nat) (w : World) (v : Value) (L : List (List (List Nat))) (hL : ListU S B w v L) (hbig : L.length < 4611686018427387904) (hU : ∀ x ∈ L, SubU T x) (b o bp : Nat)
    (hP : PtrP (fun k => some k ≠ v.ownBlock) w b o (ofTw T)) (hc : w.cell? ⟨bp, 0, none⟩ = some (.pointer (some ⟨b, o, none⟩))) (hbp : some bp ≠ v.ownBlock ∧ bp < w.heap.size) :
    Calls Tryz.prog 53 #[v, .func (.func 54) #[] #[.pointer (some ⟨bp, 0, none⟩)]] w (SorR S B v L w) := by
  obtain ⟨us, h1, h2, h4⟩ := hL
  rcases h1.2 with ⟨rfl, h5⟩ | ⟨g, cap, cur, rfl, hB, hg, hc1, hc2, hc3, hc4⟩
  · obtain rfl : L = [] := List.eq_nil_of_length_eq_zero h5
    have hc := AnyF.slices_SortFunc_none ({ Tryz.srt2 with } : SlLaysF0.n6 _ _) none 0 (.func (.func 54) #[] #[.pointer (some ⟨bp, 0, none⟩)]) w
    refine hc.mono ?_
    rintro e w' ⟨rfl, rfl⟩
    exact ⟨rfl, [], List.Perm.refl _, ListU.nil _ _ _, Keep.refl _ _, Below.refl _ _⟩
  · have hne : ∀ k, (some k ≠ Value.ownBlock (.slice (some ⟨g, 0, none⟩) L.length cap)) ↔ k ≠ g := fun k => by simp [Value.ownBlock]
    cases L with
    | nil =>
      have hc := AnyF.slices_SortFunc_none ({ Tryz.srt2 with } : SlLaysF0.n6 _ _) (some ⟨g, 0, none⟩) cap (.func (.func 54) #[] #[.pointer (some ⟨bp, 0, none⟩)]) w
      refine hc.mono ?_
      rintro e w' ⟨rfl, rfl⟩
      exact ⟨rfl, [], List.Perm.refl _, ⟨us, h1, h2, h4⟩, Keep.refl _ _, Below.refl _ _⟩
    | cons r0 L0 =>
      generalize hFe : r0 :: L0 = L at *
      have hpos : 0 < L.length := by rw [← hFe]; simp
      have hget : ∀ i : Fin L.length, ∃ u, us[i.1]? = some u ∧ Sl2 (fun k => S k ∧ k ≠ g) w u ((L[i.1]).map ints) ∧ SubU T L[i.1] := fun i => by
        obtain ⟨u, hu⟩ : ∃ u, us[i.1]? = some u := ⟨_, List.getElem?_eq_getElem (by rw [h2]; exact i.2)⟩
        exact ⟨u, hu, Sl2.mono (h4 i.1 _ u (List.getElem?_eq_getElem i.2) hu) (fun k hk => ⟨hk.1, (hne k).1 hk.2⟩), hU _ (List.getElem_mem i.2)⟩
      let dd : Fin L.length → Rw S T g w := fun i => ⟨(us[i.1]'(by rw [h2]; exact i.2), L[i.1]), by
        obtain ⟨u, hu, h5, h6⟩ := hget i
        obtain ⟨hi, e⟩ := List.getElem?_eq_some_iff.1 hu
        rw [e]; exact ⟨h5, h6⟩⟩
      letI : Inhabited (Rw S T g w) := ⟨dd ⟨0, hpos⟩⟩
      let d : Array (Rw S T g w) := Array.ofFn dd
      have hds : d.size = L.length := by simp [d]
      have hdu : d.toList.map encU = us := by
        apply List.ext_getElem
        · simp [d, h2]
        · intro i q1 q2; simp [d, dd, encU]
      have hdF : d.toList.map (fun x => x.1.2) = L := by
        apply List.ext_getElem
        · simp [d]
        · intro i q1 q2; simp [d, dd]
      have hH : Holds (encU (S := S) (T := T) (g := g) (w := w)) w g 0 d := holds_srt hg (by rw [hds, hdu, ← hc4, Nat.mul_one])
      have hgl : g < w.heap.size := (Array.getElem?_eq_some_iff.1 hg).1
      have eg : ∀ args w, (callFunc 54 args).run Tryz.prog w = .ok (.enter 54 args) w := enters_of Tryz.func54 (by kernel_rfl) rfl
      have hc' := Go.Proofs.Any.slices_SortFunc Tryz.srt2 (encU (S := S) (T := T) (g := g) (w := w)) (enc_one S T g w) cfU (swo S T g w) 54 #[.pointer (some ⟨bp, 0, none⟩)] g 0 cap d w eg
        (cmpLays S T hs g w b o bp d.size (hP.mono fun k hk => (hne k).1 hk) hc ⟨(hne bp).1 hbp.1, hbp.2⟩ (dd ⟨0, hpos⟩)) hH hgl (by rw [hds]; exact hbig)
      rw [hds] at hc'
      refine hc'.mono ?_
      rintro e w' ⟨rfl, d', m, os, ⟨p1, p2, p3⟩, _, rfl⟩
      have hd's : d'.size = L.length := by rw [p1, hds]
      have hperm : d'.toList.Perm d.toList := by
        have e1 : d'.extract 0 L.length = d' := by rw [← hd's]; exact Array.extract_size
        have e2 : d.extract 0 L.length = d := by rw [← hds]; exact Array.extract_size
        rwa [e1, e2] at p3
      have hk := keep_srt (w := w) (enc := encU (S := S) (T := T) (g := g) (w := w)) (g := g) (n := m) (os := os) d'
      have hlen' : (d'.toList.map fun x => x.1.2).length = L.length := by simp [hd's]
      refine ⟨rfl, d'.toList.map (fun x => x.1.2), (hperm.map _).trans (by rw [hdF]), ⟨d'.toList.map encU, ?_, by simp, fun i r u hr hu => ?_⟩, hk.mono (fun k h e => h (by rw [e]; rfl)), ⟨rfl, rfl, rfl, hk.size, fun k hk' => hk.block k (by omega) (by omega)⟩⟩
      · rw [hlen']
        refine ⟨by simp [hd's], .inr ⟨g, cap, _, rfl, hB, heap_srt d' hg, hc1, hc2, by simp [putCells, hc3], ?_⟩⟩
        rw [Nat.mul_one, ← hd's]
        exact take_srt _ cur d' (by rw [hd's, hc3]; omega)
      · simp only [List.getElem?_map, Option.map_eq_some_iff] at hr hu
        obtain ⟨x, hx, rfl⟩ := hr
        obtain ⟨y, hy, rfl⟩ := hu
        rw [hx] at hy
        cases hy
        exact Sl2.mono (Sl2.keep x.2.1 (hk.mono fun k hk => hk.2)) (fun k hk => ⟨hk.1, (hne k).2 hk.2⟩)
end Go.Proofs.YtabkibmnghbahaaGreat.CcI
