import Derived.Test.YtabeedimnbkcgaaCyD
import Derived.Test.YtabeedimnbkcgaaCyA
import Derived.Test.YtabeedimnbkcgaaImplYZ
/-
  impl.residue, inverseMod, isModulus, ModInverse; isZero, areElements, orderOfElement, ElementOrder; isAbelian, IsAbelianGroup.
-/
namespace Go.Proofs.Ytabeedimnbkcgaa.CyE
open Go.RowKit Go.Proofs.Ytabeedimnbkcgaa Go.Proofs.Ytabeedimnbkcgaa.Tow Go.Proofs.Ytabeedimnbkcgaa.Val Go.Proofs.Ytabeedimnbkcgaa.Grps Go.Proofs.Ytabeedimnbkcgaa.NumT Go.Proofs.Ytabeedimnbkcgaa.CyA Go.Proofs.Ytabeedimnbkcgaa.CyD
set_option linter.unusedVariables false
set_option linter.unusedSimpArgs false

theorem residue_any (x m : Int) (hm : 0 < m) (h1 : m ≤ 1000) (hx : -1000 ≤ x) (hx2 : x ≤ 1000) (w : World) :
    Calls Try.prog 36 #[.int .i64 x, .int .i64 m] w fun e w' => e = .returned (.int .i64 (x % m)) ∧ w = w' := by
  have hne : m ≠ 0 := by omega
  have hb : -m < x.tmod m ∧ x.tmod m < m := by
    have h3 := Int.tmod_lt_of_pos x hm
    have h4 : -m < x.tmod m := by
      exact Int.lt_tmod_of_pos x hm
    exact ⟨h4, h3⟩
  have hE : x.tmod m % m = x % m := by rw [Int.tmod_def, Int.sub_eq_add_neg, ← Int.mul_neg, Int.add_mul_emod_self_left]
  have hE2 : (x.tmod m + m).tmod m = x % m := by rw [Int.tmod_eq_emod_of_nonneg (by omega), Int.add_emod_right, hE]
  have hw : IntKind.i64.wrap (x.tmod m + m) = x.tmod m + m := IntWalk.i64_in _ (by omega)
  go_enter Try.func36, Try.ntmps36
  go_wp2_with fail
  go_ret
  exact ⟨ret_i (by first | (simp; done) | (simp; exact hE) | exact hE2), rfl⟩
theorem eu_ok {m a : Nat} (hm : m ≤ 27) (h0 : 0 < m) (h : a < m) (j : Nat) (hj : j ≤ 10) : euB m a j = true := by
  have h1 := List.all_eq_true.1 eu_all m (List.mem_range.2 (by omega))
  rw [Bool.or_eq_true] at h1
  rcases h1 with h1 | h1
  · simp at h1; omega
  · have h2 := List.all_eq_true.1 h1 a (List.mem_range.2 h)
    exact List.all_eq_true.1 h2 j (List.mem_range.2 (by omega))
theorem eu_stop {m a : Int} : ∀ {j : Nat} {r x y : Int}, eu m a j = (r, 0, x, y) → ∀ k, eu m a (j + k) = (r, 0, x, y)
  | j, r, x, y, h, 0 => h
  | j, r, x, y, h, k + 1 => by
    rw [show j + (k + 1) = (j + k) + 1 by omega, eu, eu_stop h k]
    exact if_pos rfl
def InvR (m a : Nat) (w : World) (e : Ending) (w' : World) : Prop := ∃ c : Int, e = .returned (.tuple #[.int .i64 c, .bool (invB m a)]) ∧ w = w'
set_option maxRecDepth 100000 in
set_option maxHeartbeats 1000000 in
theorem inverseMod_any (m a : Nat) (hm : m ≤ 27) (h0 : 0 < m) (h : a < m) (w : World) :
    Calls Try.prog 35 #[.int .i64 (a : Int), .int .i64 (m : Int)] w (InvR m a w) := by
  have HOK := Lib.hid (fun j hj => eu_ok hm h0 h j hj)
  have HRES := Lib.hid (fun (x : Int) hx hx2 W => residue_any x m (by omega) (by omega) hx hx2 W)
  clear hm h
  go_enter Try.func35, Try.ntmps35
  go_wp2_with fail
  go_loop [6, 7, 8, 9] (fun rv nv xv yv => ∃ (j : Nat) (r n x y : Int), j ≤ 10 ∧ rv = .int .i64 r ∧ nv = .int .i64 n ∧ xv = .int .i64 x ∧ yv = .int .i64 y ∧ Hid (eu m a j = (r, n, x, y))) (fun _ nv _ _ => (intOf nv).toNat)
  case atStart => exact ⟨0, _, _, _, _, Nat.zero_le _, rfl, rfl, rfl, rfl, Lib.hid rfl⟩
  case round =>
    obtain ⟨j, r, n, x, y, hj, rfl, rfl, rfl, rfl, hS⟩ := hrel
    have hb := HOK.out j hj
    unfold euB at hb
    rw [hS.out] at hb
    simp only [Bool.and_eq_true, decide_eq_true_eq] at hb
    obtain ⟨⟨⟨⟨hr, hn⟩, hx⟩, hy⟩, hrest⟩ := hb
    by_cases hn0 : n = 0
    · subst hn0
      have hinv : invB m a = (r == 1) := by
        unfold invB
        have := eu_stop hS.out (10 - j)
        rw [show j + (10 - j) = 10 by omega] at this
        rw [this]
      have HR := Lib.hid (show InvR m a w (.returned (.tuple #[.int .i64 (x % (m : Int)), .bool (r == 1)])) w from ⟨_, by rw [hinv], rfl⟩)
      have HC := Lib.hid (HRES.out x hx.1 hx.2 w)
      clear hinv hr hn hx hy hrest
      go_wp2_with fail
      refine HC.out.mono ?_
      rintro e w1 ⟨rfl, rfl⟩
      go_wp2_with fail
      exact bodyPost_ret (v := .tuple #[.int .i64 (x % (m : Int)), .bool (r == 1)]) (by simp [results, Try.results35, go_sem]) rfl HR.out
    · rw [if_neg hn0] at hrest
      simp only [Bool.and_eq_true, decide_eq_true_eq] at hrest
      obtain ⟨⟨⟨⟨hq, hqn⟩, hqy⟩, hnn⟩, hj6⟩ := hrest
      have hne : (n != 0) = true := by simpa using hn0
      have HN := Lib.hid (show eu m a (j + 1) = (n, r - r.tdiv n * n, y, x - r.tdiv n * y) by rw [eu, hS.out]; exact if_neg hn0)
      obtain ⟨q, hqq⟩ : ∃ q, r.tdiv n = q := ⟨_, rfl⟩
      rw [hqq] at hq hqn hqy hnn HN
      have w1 : IntKind.i64.wrap (q * n) = q * n := IntWalk.i64_in _ (by omega)
      have w2 : IntKind.i64.wrap (q * y) = q * y := IntWalk.i64_in _ (by omega)
      have w3 : IntKind.i64.wrap (r - q * n) = r - q * n := IntWalk.i64_in _ (by omega)
      have w4 : IntKind.i64.wrap (x - q * y) = x - q * y := IntWalk.i64_in _ (by omega)
      have w5 : IntKind.i64.wrap q = q := IntWalk.i64_in _ (by omega)
      have hn63 : ¬ n = 0 := hn0
      obtain ⟨qn, hqn2⟩ : ∃ qn, q * n = qn := ⟨_, rfl⟩
      obtain ⟨qy, hqy2⟩ : ∃ qy, q * y = qy := ⟨_, rfl⟩
      rw [hqn2] at hqn hnn w1 w3 HN
      rw [hqy2] at hqy w2 w4 HN
      clear hS
      go_wp2_with fail
      go_round
      case rel => exact ⟨j + 1, n, r - qn, y, x - qy, by omega, rfl, by first | rfl | simp [*], rfl, by first | rfl | simp [*], HN⟩
      case measure => simp [intOf, *]; omega
theorem isMod_any (m : Nat) (hm : m ≤ 27) (h0 : 0 < m) (w : World) : Calls Try.prog 34 #[.int .i64 (m : Int)] w fun e w' => e = .returned (.bool true) ∧ w = w' := by
  have HC := Lib.hid (ImplV.inside_T (m : Int) 1 1000000 (by omega) (by omega) w)
  go_enter Try.func34, Try.ntmps34
  go_wp2_with fail
  refine HC.out.mono ?_
  rintro e w1 ⟨rfl, rfl⟩
  go_wp2_with fail
  go_ret
  exact ⟨rfl, rfl⟩
def MInvR (m a : Nat) (w : World) (e : Ending) (w' : World) : Prop := ∃ c : Int, e = .returned (.tuple #[.int .i64 c, .int .i64 (if invB m (a % m) then 0 else 4)]) ∧ w = w'
set_option maxRecDepth 100000 in
set_option maxHeartbeats 1000000 in
theorem modInverse_any (m a : Nat) (hm : m ≤ 27) (h0 : 0 < m) (ha : a ≤ 27) (w : World) : Calls Try.prog 12 #[.int .i64 (a : Int), .int .i64 (m : Int)] w (MInvR m a w) := by
  have HC1 := Lib.hid (isMod_any m hm h0 w)
  have HC2 := Lib.hid (residue_any (a : Int) (m : Int) (by omega) (by omega) (by omega) (by omega) w)
  have hmod : (a : Int) % (m : Int) = ((a % m : Nat) : Int) := rfl
  rw [hmod] at HC2
  have HC3 := Lib.hid (inverseMod_any m (a % m) hm h0 (Nat.mod_lt _ h0) w)
  obtain ⟨r, hr⟩ : ∃ r, a % m = r := ⟨_, rfl⟩
  rw [hr] at HC2 HC3
  have HR := Lib.hid (fun c : Int => (show MInvR m a w (.returned (.tuple #[.int .i64 c, .int .i64 (if invB m r then 0 else 4)])) w from ⟨c, by rw [hr], rfl⟩))
  clear hmod hr
  go_enter Try.func12, Try.ntmps12
  go_wp2_with fail
  refine HC1.out.mono ?_
  rintro e w1 ⟨rfl, rfl⟩
  go_wp2_with fail
  refine HC2.out.mono ?_
  rintro e w1 ⟨rfl, rfl⟩
  go_wp2_with fail
  refine HC3.out.mono ?_
  rintro e w1 ⟨c, rfl, rfl⟩
  cases hb : invB m r with
  | true =>
    have HRR := Lib.hid (HR.out c)
    rw [hb] at HRR
    clear hb HR
    go_wp2_with fail
    exact bodyPost_ret (v := .tuple #[.int .i64 c, .int .i64 0]) (by simp [results, Try.results12, go_sem]) rfl HRR.out
  | false =>
    have HRR := Lib.hid (HR.out 0)
    rw [hb] at HRR
    clear hb HR
    go_wp2_with fail
    exact bodyPost_ret (v := .tuple #[.int .i64 0, .int .i64 4]) (by simp [results, Try.results12, go_sem]) rfl HRR.out

set_option maxHeartbeats 1000000 in
theorem isZero_any (w : World) (v : Value) (x : List Nat) (hv : SlI Any w v (ints x)) (hl : x.length ≤ 1000000) :
    Calls Try.prog 44 #[v] w fun e w' => e = .returned (.bool (zeroL x)) ∧ w = w' := by
  obtain ⟨aX, cX, rfl, _⟩ := hv.open
  have HV := Lib.hid hv
  clear hv
  go_enter Try.func44, Try.ntmps44
  go_wp2_with fail
  go_loop [7] (fun iv => ∃ k : Nat, k ≤ x.length ∧ iv = .int .i64 (k : Int) ∧ Hid (∀ j, j < k → x[j]? = some 0)) (fun iv => x.length - (intOf iv).toNat)
  case atStart => exact ⟨0, Nat.zero_le _, rfl, Lib.hid (fun j h => absurd h (Nat.not_lt_zero _))⟩
  case round =>
    obtain ⟨k, hk, rfl, hR⟩ := hrel
    by_cases hlt : k < x.length
    · obtain ⟨a, ha⟩ : ∃ a, x[k]? = some a := ⟨_, List.getElem?_eq_getElem hlt⟩
      obtain ⟨b, o, rfl, _, hb, hc⟩ := HV.out.at ha
      by_cases h0 : a = 0
      · subst h0
        have HN := Lib.hid (show ∀ j, j < k + 1 → x[j]? = some 0 from fun j hj => by
          rcases Nat.lt_succ_iff_lt_or_eq.1 hj with h | h
          · exact hR.out j h
          · rw [h]; exact ha)
        clear ha hR
        go_wp2_with fail
        go_round
        case rel => exact ⟨k + 1, by omega, by go_num, HN⟩
        case measure => simp [intOf]; omega
      · have hne : ((a : Int) != 0) = true := by simp; omega
        have HE := Lib.hid (show zeroL x = false from by
          rw [← Bool.not_eq_true]
          intro h
          have := List.all_eq_true.1 h a (List.mem_of_getElem? ha)
          simp at this; exact h0 this)
        clear ha hR h0
        go_wp2_with fail
        go_ret
        exact ⟨by rw [HE.out]; rfl, rfl⟩
    · obtain rfl : k = x.length := by omega
      have HE := Lib.hid (show zeroL x = true from List.all_eq_true.2 fun a ha => by
        obtain ⟨j, hj⟩ := List.getElem?_of_mem ha
        have := hR.out j (List.getElem?_eq_some_iff.1 hj).1
        rw [hj] at this
        injection this with this
        simp [this])
      clear hR
      go_wp2_with fail
      go_ret
      exact ⟨by rw [HE.out]; rfl, rfl⟩
theorem take_succ' {α : Type} {l : List α} {k : Nat} {x : α} (h : l[k]? = some x) : l.take (k + 1) = l.take k ++ [x] := by rw [List.take_add_one, h]; rfl
theorem grp_pr' {P : Pres} (h : Grp P) : ∀ x ∈ P.os, primeB x = true := by
  obtain ⟨_, _, _, _, hv, _⟩ := h
  exact hv.pr
set_option maxRecDepth 100000 in
set_option maxHeartbeats 1000000 in
theorem areElements_any (w : World) (b o : Nat) (P : Pres) (vl : Value) (ls : List (List Int)) (hP : PtrP Any w b o P) (hl : Sl2 Any w vl ls) (hG : Grp P) (hE : ∀ l ∈ ls, TailV P.os 0 l) :
    Calls Try.prog 30 #[.pointer (some ⟨b, o, none⟩), vl] w (TrueR w) := by
  have HP := Lib.hid hP
  obtain ⟨_, hbl, vO, vP, vC, hp0, hp1, hp2, hV⟩ := hP
  obtain ⟨a, c, rfl, hlc, hcm⟩ := slg_form hl
  unfold maxLen at hcm
  have hl63 : (ls.length : Int) ≤ 9223372036854775807 := by omega
  have HL := Lib.hid hl
  have HG := Lib.hid (ImplI.group_any w vO vP vC P hV)
  have HPR := Lib.hid (grp_pr' hG)
  have HGP := Lib.hid hG
  have HE := Lib.hid hE
  clear hV hl hcm hG hE hlc
  go_enter Try.func30, Try.ntmps30
  go_wp2_with fail
  refine HG.out.mono ?_
  rintro e w1 ⟨r, rfl, hr, hb1⟩
  have HB1 := Lib.hid hb1
  obtain rfl : r = true := hr.2 HGP.out
  clear hb1 hr
  go_wp2_with fail
  go_loop [14] (fun iv => ∃ k : Nat, k ≤ ls.length ∧ iv = .int .i64 (k : Int)) (fun iv => ls.length - (intOf iv).toNat)
  case atStart => exact ⟨0, Nat.zero_le _, rfl⟩
  case round =>
    obtain ⟨k, hk, rfl⟩ := hrel
    by_cases hlt : k < ls.length
    · obtain ⟨l, hl⟩ : ∃ l, ls[k]? = some l := ⟨_, List.getElem?_eq_getElem hlt⟩
      obtain ⟨b2, o2, u, rfl, _, hb2, hc, hu⟩ := slg_get HL.out hl
      have hcr := ((Keep.of_below (S := Any) HB1.out).cell (b := b2) (o := o2 + k) trivial hb2).trans hc
      have HEC := Lib.hid (ImplV.isExponents_any w1 b o P u l (HP.out.keep (Keep.of_below HB1.out)) (SlI.keep hu (Keep.of_below HB1.out)) HPR.out)
      have HLM := Lib.hid (HE.out l (List.mem_of_getElem? hl))
      clear hl hc hu
      go_wp2_with fail
      refine HEC.out.mono ?_
      rintro e w' ⟨r, rfl, hr, rfl⟩
      obtain rfl : r = true := hr.2 HLM.out
      clear hr HEC
      go_wp2_with fail
      go_round
      case rel => exact ⟨k + 1, by omega, by go_num⟩
      case measure => simp [intOf]; omega
    · obtain rfl : k = ls.length := by omega
      have HRR := Lib.hid (show TrueR w (.returned (.bool true)) w1 from ⟨rfl, HB1.out⟩)
      go_wp2_with fail
      go_ret
      exact HRR.out
end Go.Proofs.Ytabeedimnbkcgaa.CyE
