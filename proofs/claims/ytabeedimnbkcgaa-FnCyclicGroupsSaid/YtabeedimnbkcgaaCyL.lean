import Derived.Test.YtabeedimnbkcgaaCyH
import Derived.Test.YtabeedimnbkcgaaCyK
import Derived.Test.YtabeedimnbkcgaaImplVW
/-
  impl.CyclicPresentation.
-/
namespace Go.Proofs.Ytabeedimnbkcgaa.CyL
open Go.RowKit Go.Proofs.Ytabeedimnbkcgaa Go.Proofs.Ytabeedimnbkcgaa.Tow Go.Proofs.Ytabeedimnbkcgaa.Val Go.Proofs.Ytabeedimnbkcgaa.Grps Go.Proofs.Ytabeedimnbkcgaa.NumT Go.Proofs.Ytabeedimnbkcgaa.CyA Go.Proofs.Ytabeedimnbkcgaa.CyD Go.Proofs.Ytabeedimnbkcgaa.CyI Go.Proofs.Ytabeedimnbkcgaa.CyJ Go.Proofs.Ytabeedimnbkcgaa.CyH
set_option linter.unusedVariables false
set_option linter.unusedSimpArgs false

theorem fac_all : ((List.range 730).all fun n => n == 0 || ((facI 40 2 n).all (fun x => decide (1 ≤ x.2) && decide (x.2 ≤ 10) && decide (x.1 ≤ 729)) && decide ((flat (facI 40 2 n)).length ≤ 10) && decide ((facI 40 2 n).length ≤ 10))) = true := by decide +kernel
def FOk (F : List (Nat × Nat)) : Prop := (∀ x ∈ F, 1 ≤ x.2 ∧ x.2 ≤ 10 ∧ x.1 ≤ 729) ∧ (flat F).length ≤ 10 ∧ F.length ≤ 10
theorem fac_ok {n : Nat} (h1 : 1 ≤ n) (h2 : n ≤ 729) : FOk (facI 40 2 n) := by
  have h := List.all_eq_true.1 fac_all n (List.mem_range.2 (by omega))
  simp only [Bool.or_eq_true, Bool.and_eq_true, decide_eq_true_eq, List.all_eq_true, beq_iff_eq] at h
  rcases h with h | ⟨⟨h3, h4⟩, h5⟩
  · omega
  · exact ⟨fun x hx => by obtain ⟨⟨a, b⟩, c⟩ := h3 x hx; exact ⟨a, b, c⟩, h4, h5⟩
theorem res_ok {n : Nat} (h1 : 1 ≤ n) (h2 : n ≤ 729) : doneI 40 2 n = true ∧ resI n = resS n := by
  have h := List.all_eq_true.1 res_all n (List.mem_range.2 (by omega))
  simp only [Bool.or_eq_true, Bool.and_eq_true, beq_iff_eq] at h
  rcases h with h | h
  · omega
  · exact h
theorem gp_prime (p : Nat) : primeB (p : Int) = gp p := by
  rw [Bool.eq_iff_iff]
  simp [primeB, gp]
  omega
theorem flat_snoc (p e : Nat) : ∀ F : List (Nat × Nat), flat (F ++ [(p, e)]) = flat F ++ List.replicate e p
  | [] => by simp [flat]
  | (q, d) :: F => by rw [List.cons_append, flat, flat, flat_snoc p e F, List.append_assoc]
theorem flat_take {F : List (Nat × Nat)} {k : Nat} : (flat (F.take k)).length ≤ (flat F).length := by
  induction F generalizing k with
  | nil => simp
  | cons x F ih =>
    cases k with
    | zero => simp [flat]
    | succ k => obtain ⟨p, e⟩ := x; rw [List.take_succ_cons, flat, flat, List.length_append, List.length_append]; have := ih (k := k); omega
/-- the orders, or the code, for any number -/
def resN (n : Int) : Nat × List Nat := if 1 ≤ n ∧ n ≤ 729 then resS n.toNat else (2, [])
def resP (r : Nat × List Nat) : Pres := if r.1 = 0 then ⟨ints r.2, (prow r.2.length).map ints, (crow r.2.length).map (·.map ints)⟩ else ⟨[], [], []⟩
def CycR (r : Nat × List Nat) (w : World) (e : Ending) (w' : World) : Prop :=
  ∃ vO vP vC, e = .returned (.tuple #[.agg #[vO, vP, vC], .int .i64 (r.1 : Int)]) ∧ ValP Any w' vO vP vC (resP r) ∧ Below w.heap.size w w'
theorem sl_nil (w : World) : SlI Any w (.slice none 0 0) [] := ⟨none, 0, rfl, Nat.le_refl _, Nat.zero_le _, fun _ => rfl, fun i x hx => by simp at hx⟩
theorem valP_nil (w : World) : ValP Any w (.slice none 0 0) (.slice none 0 0) (.slice none 0 0) ⟨[], [], []⟩ :=
  ⟨sl_nil w, ⟨none, 0, rfl, Nat.le_refl _, Nat.zero_le _, fun _ => rfl, fun i x hx => by simp at hx⟩, ⟨none, 0, rfl, Nat.le_refl _, Nat.zero_le _, fun _ => rfl, fun i x hx => by simp at hx⟩⟩
theorem CycR.none {r : Nat × List Nat} {w w' : World} (c : Nat) (hr : r.1 = c) (h0 : c ≠ 0) (hb : Below w.heap.size w w') : CycR r w (.returned (.tuple #[.agg #[.slice none 0 0, .slice none 0 0, .slice none 0 0], .int .i64 (c : Int)])) w' :=
  ⟨_, _, _, by rw [hr], by unfold resP; rw [if_neg (by rw [hr]; exact h0)]; exact valP_nil w', hb⟩
theorem cyc_err {r : Nat × List Nat} {w W : World} {c : Nat} (hr : r.1 = c) (h0 : c ≠ 0) (hb : Below w.heap.size w W) : CycR r w (.returned (.tuple #[.agg #[.slice none 0 0, .slice none 0 0, .slice none 0 0], .int .i64 (c : Int)])) (((W.setCell ⟨w.heap.size, 0, none⟩ (.slice none 0 0)).setCell ⟨w.heap.size, 1, none⟩ (.slice none 0 0)).setCell ⟨w.heap.size, 2, none⟩ (.slice none 0 0)) :=
  CycR.none c hr h0 (((hb.setCell (p := ⟨w.heap.size, 0, none⟩) (Nat.le_refl _) _).setCell (p := ⟨w.heap.size, 1, none⟩) (Nat.le_refl _) _).setCell (p := ⟨w.heap.size, 2, none⟩) (Nat.le_refl _) _)
theorem ow_sl {B n : Nat} {w : World} {v : Value} {x : List Nat} (h : w.ownsRow B 2 1 v n (vals (ints x))) (hn : x.length = n) : SlI Any w v (ints x) := by
  subst hn
  have h' : Own B w v (ints x) := by unfold Own; rw [ints_length]; exact h
  exact h'.sl.mono fun _ _ => trivial
theorem map_get {F : List (Nat × Nat)} {k : Nat} {x : Nat × Nat} (h : F[k]? = some x) : (ints (F.map (·.1)))[k]? = some ((x.1 : Nat) : Int) ∧ (ints (F.map (·.2)))[k]? = some ((x.2 : Nat) : Int) := by
  simp [ints, h]
theorem take_snoc {α : Type} {l : List α} {k : Nat} {x : α} (h : l[k]? = some x) : l.take (k + 1) = l.take k ++ [x] := by rw [List.take_add_one, h]; rfl
theorem owns_some {B n s : Nat} {e : TypeId} {w : World} {v : Value} {xs : List Value} (h : w.ownsRow B e s v n xs) (hn : 0 < n) : ∃ g c, v = .slice (some ⟨g, 0, none⟩) n c := by
  rcases h.2 with ⟨rfl, hn'⟩ | ⟨g, cap, cur, rfl, _⟩
  · omega
  · exact ⟨g, cap, rfl⟩
theorem vals_app (x y : List Nat) : vals (ints x) ++ vals (ints y) = vals (ints (x ++ y)) := by simp [vals, ints]
/-- the powers, the first k of them in place -/
def prk (n k : Nat) : List (List Nat) := (List.range n).map fun i => if i < k then (List.replicate n 0).set (i + 1) 1 else List.replicate n 0
theorem prk_zero (n : Nat) : zrows n n = prk n 0 := by
  unfold prk zrows
  simp [List.map_const']
theorem prk_get {n k i : Nat} (h : i < n) : (prk n k)[i]? = some (if i < k then (List.replicate n 0).set (i + 1) 1 else List.replicate n 0) := by
  unfold prk
  rw [List.getElem?_map, List.getElem?_range h]; rfl
theorem prk_succ {n k : Nat} (h : k < n) : (prk n k).set k ((List.replicate n 0).set (k + 1) 1) = prk n (k + 1) := by
  apply List.ext_getElem?
  intro i
  by_cases hi : i < n
  · rw [prk_get hi]
    by_cases e : k = i
    · subst e
      rw [List.getElem?_set_self (by unfold prk; simpa using h), if_pos (by omega)]
    · rw [List.getElem?_set_ne e, prk_get hi]
      by_cases h1 : i < k
      · rw [if_pos h1, if_pos (by omega)]
      · rw [if_neg h1, if_neg (by omega)]
  · rw [List.getElem?_eq_none (by unfold prk; simp; omega), List.getElem?_eq_none (by unfold prk; simp; omega)]
theorem prk_full {n k : Nat} (h : n ≤ k + 1) : prk n k = prow n := by
  unfold prk prow
  apply List.map_congr_left
  intro i hi
  have hi := List.mem_range.1 hi
  by_cases h1 : i < k
  · rw [if_pos h1]
  · rw [if_neg h1]
    rw [List.set_eq_of_length_le (by simp; omega)]

set_option maxRecDepth 100000 in
set_option maxHeartbeats 8000000 in
theorem icyc_any (n : Int) (w : World) : Calls Try.prog 6 #[.int .i64 n] w (CycR (resN n) w) := by
  obtain ⟨i0, hi, hz0, hz1, hz2⟩ := info_parts infoI
  go_enter Try.func6, Try.ntmps6
  go_upto_region 1 with fail
  obtain ⟨w1, hw1⟩ : ∃ w1, w1 = w.alloc (.cells #[.slice none 0 0, .slice none 0 0, .slice none 0 0] 29) := ⟨_, rfl⟩
  rw [← hw1]
  have hb1 : Below w.heap.size w w1 := by rw [hw1]; exact (Below.refl _ _).alloc (Nat.le_refl _) _
  have hs1 : w1.heap.size = w.heap.size + 1 := by rw [hw1]; simp
  have G1 := Lib.hid (show w1.heap[w.heap.size]? = some (.cells #[.slice none 0 0, .slice none 0 0, .slice none 0 0] 29 (0, 0)) by rw [hw1]; exact heap_alloc_new _ _)
  have HB1 := Lib.hid hb1
  have HS1 := Lib.hid hs1
  clear hw1 hb1 hs1
  by_cases hin : 1 ≤ n ∧ n ≤ 729
  · obtain ⟨m, rfl⟩ : ∃ m : Nat, n = (m : Int) := ⟨n.toNat, by omega⟩
    have hm1 : 1 ≤ m := by omega
    have hm2 : m ≤ 729 := by omega
    obtain ⟨hdone, hres⟩ := res_ok hm1 hm2
    have HRS := Lib.hid (show resN (m : Int) = resI m from by unfold resN; rw [if_pos hin, hres]; rfl)
    have HFA := Lib.hid (fun W => factors_any m hm1 hm2 hdone W)
    have hFF := fac_ok hm1 hm2
    obtain ⟨F, hF⟩ : ∃ F, facI 40 2 m = F := ⟨_, rfl⟩
    have HRI := Lib.hid (show resI m = if F.all (fun x => gp x.1) then (if 6 < (flat F).length then (3, []) else (0, flat F)) else (2, []) from by rw [← hF]; rfl)
    rw [hF] at HFA hFF
    have HFO := Lib.hid hFF
    have HIN := Lib.hid (fun W => ImplV.inside_T (m : Int) 1 729 (by omega) (by omega) W)
    clear hdone hres hFF hF hin
    go_wp2_with fail
    refine (HIN.out _).mono ?_
    rintro e w2 ⟨rfl, rfl⟩
    go_wp2_with fail
    refine (HFA.out _).mono ?_
    rintro e wf ⟨vp, ve, rfl, hop, hoe, hbf⟩
    obtain ⟨ap, cp, rfl⟩ := owns_form hop
    obtain ⟨ae, ce, rfl⟩ := owns_form hoe
    simp only [List.length_map] at hop hoe ⊢
    have HOP := Lib.hid hop
    have HOE := Lib.hid hoe
    have HBF := Lib.hid hbf
    have HBFS := Lib.hid hbf.size
    obtain ⟨lf, hlf⟩ : ∃ lf, F.length = lf := ⟨_, rfl⟩
    have hlf10 : lf ≤ 10 := by rw [← hlf]; exact HFO.out.2.2
    have HLF := Lib.hid hlf
    rw [hlf] at HOP HOE ⊢
    have HSP := Lib.hid (ow_sl HOP.out (by simp only [List.length_map]))
    have HSE := Lib.hid (ow_sl HOE.out (by simp only [List.length_map]))
    clear hop hoe hbf hlf HFA HIN
    go_wp2_with fail
    go_loopw [6, 22] (fun ov kv wr => ∃ k : Nat, k ≤ lf ∧ kv = .int .i64 (k : Int) ∧ Hid (OwL wf.heap.size wr ov (flat (F.take k)) ∧ (F.take k).all (fun x => gp x.1) = true) ∧ Hid (Below wf.heap.size wf wr)) (fun _ kv _ => lf - (intOf kv).toNat)
    case atStart => exact ⟨0, Nat.zero_le _, rfl, Lib.hid ⟨World.ownsRow_nil _ _ _ _, rfl⟩, Lib.hid (Below.refl _ _)⟩
    case round =>
      obtain ⟨k, hk, rfl, hO, hB⟩ := hrel
      have hlf63 : (lf : Int) ≤ 10 := by omega
      by_cases hlt : k < lf
      · obtain ⟨⟨p, e⟩, hx⟩ : ∃ x, F[k]? = some x := ⟨_, List.getElem?_eq_getElem (by rw [HLF.out]; exact hlt)⟩
        obtain ⟨bP, oP, u, rfl, _, hbP, hcP, rfl⟩ := slg_get HSP.out (map_get hx).1
        obtain ⟨bE, oE, u, rfl, _, hbE, hcE, rfl⟩ := slg_get HSE.out (map_get hx).2
        have hkB := Keep.of_below (S := Any) hB.out
        have hcP' := (hkB.cell (b := bP) (o := oP + k) trivial hbP).trans hcP
        have hcE' := (hkB.cell (b := bE) (o := oE + k) trivial hbE).trans hcE
        have hbP' := Nat.lt_of_lt_of_le hbP hkB.size
        have hbE' := Nat.lt_of_lt_of_le hbE hkB.size
        have hki : (k : Int) < (lf : Int) := by omega
        have hki0 : (0 : Int) ≤ (k : Int) := by omega
        obtain ⟨he1, he10, hp9⟩ := HFO.out.1 _ (List.mem_of_getElem? hx)
        have he1' : 1 ≤ e := he1
        have he10' : e ≤ 10 := he10
        have hp9' : p ≤ 729 := hp9
        have HPR := Lib.hid (fun W => ImplV.prime_any (p : Int) W)
        have HX := Lib.hid hx
        clear hcP hcE hkB hbP hbE he1 he10 hp9 hx
        go_wp2_with fail
        refine (HPR.out _).mono ?_
        rintro r w4 ⟨rfl, rfl⟩
        by_cases hg : gp p = true
        · have hpp : primeB (p : Int) = true := by rw [gp_prime]; exact hg
          have HG := Lib.hid hg
          clear hg
          have hlo : (flat (F.take k)).length ≤ 10 := Nat.le_trans flat_take HFO.out.2.1
          obtain ⟨lo, hlo'⟩ : ∃ lo, (flat (F.take k)).length = lo := ⟨_, rfl⟩
          rw [hlo'] at hlo
          have HLO := Lib.hid hlo'
          have HO1 := Lib.hid (show wr.ownsRow wf.heap.size 2 1 u6 lo (vals (ints (flat (F.take k)))) from by
            have h : wr.ownsRow wf.heap.size 2 1 u6 (flat (F.take k)).length (vals (ints (flat (F.take k)))) := hO.out.1
            rw [hlo'] at h
            exact h)
          obtain ⟨aO, cO, rfl⟩ := owns_form HO1.out
          have HGA := Lib.hid hO.out.2
          have HRP := Lib.hid (CyG.repeat_any p e he1' he10' (wr.alloc (.cells #[.int .i64 (p : Int)] 2)) wr.heap.size (heap_alloc_new _ _))
          have HBs := Lib.hid hB.out.size
          clear hlo' hO
          go_wp2_with fail
          refine HRP.out.mono ?_
          rintro r w5 ⟨g, c5, rfl, ho5, hb5⟩
          rw [show (ints (List.replicate e p)).length = e by simp [ints]] at ho5 ⊢
          have a1 := ownsRow_keep HO1.out (S := Any) (((Keep.refl _ wr).alloc (.cells #[.int .i64 (p : Int)] 2)).trans (Keep.of_below hb5)) (fun _ _ => trivial)
          have HW5 := Lib.hid (show wr.heap.size + 1 ≤ w5.heap.size from by have := hb5.size; simpa using this)
          have HB5 := Lib.hid (show Below wf.heap.size wf w5 from (hB.out.alloc HBs.out (.cells #[.int .i64 (p : Int)] 2)).trans (hb5.mono (by simp; have := HBs.out; omega)))
          have HSL := Lib.hid ho5.sl
          have hl5 : (vals (ints (List.replicate e p))).length = e * 1 := by simp [vals, ints]
          have HL5 := Lib.hid hl5
          clear ho5 hb5 hl5 HRP
          go_wp2_with (at_builtin; (refine wpList_append_lies _ rfl _ _ 25 rfl wf.heap.size 2 i0 (.int .i64 0) 1 8 Try.underlying25 hi hz0 hz1 hz2 rfl (by decide) _ _ _ rfl a1 ⟨g, 0, none⟩ e c5 (vals (ints (List.replicate e p))) rfl HL5.out (SlI.src HSL.out (Keep.refl _ _)) (vals_one _) (by omega) (by unfold maxLen; omega) (by omega) (by have := HW5.out; have := HBs.out; omega) _ rfl ?_))
          intro g6 c6 w6 ho6 hg6 hat6 hlt6
          have HN := Lib.hid (show OwL wf.heap.size w6 (.slice (some ⟨g6, 0, none⟩) (lo + e) c6) (flat (F.take (k + 1))) from by
            rw [take_snoc HX.out, flat_snoc]
            unfold OwL
            rw [List.length_append, HLO.out, List.length_replicate, ← vals_app]
            exact ho6)
          have HGN := Lib.hid (show (F.take (k + 1)).all (fun x => gp x.1) = true from by
            rw [take_snoc HX.out, List.all_append, HGA.out]; simp [HG.out])
          have HBN := Lib.hid (HB5.out.grown hg6 HB5.out.size (by intro b hb; exact (World.ownsRow.lt a1 b hb).1))
          clear ho6 hg6 hat6 hlt6 a1 HB5 hB
          go_wp2_with fail
          go_roundw
          case rel => exact ⟨k + 1, by omega, by go_num, Lib.hid ⟨HN.out, HGN.out⟩, HBN⟩
          case measure => simp [intOf]; omega
        · have hpp : primeB (p : Int) = false := by rw [gp_prime]; simpa using hg
          have HG := Lib.hid hg
          clear hg
          have HRN := Lib.hid (show (resN (m : Int)).1 = 2 from by
            rw [HRS.out, HRI.out, if_neg (fun h => HG.out (List.all_eq_true.1 h (p, e) (List.mem_of_getElem? HX.out)))])
          have HBR := Lib.hid (HBF.out.trans (hB.out.mono HBFS.out))
          have HR0 := Lib.hid (blk' HBR.out (by have := HS1.out; omega) G1.out)
          obtain ⟨⟨r0, r1, r2⟩, s0, s1, s2⟩ := row3f HR0.out
          go_wp2_with fail
          obtain ⟨⟨z0, z1, z2⟩, -⟩ := row3f (put3 (x := .slice none 0 0) (y := .slice none 0 0) (z := .slice none 0 0) HR0.out)
          exact bodyPost_ret (v := .tuple #[.agg #[.slice none 0 0, .slice none 0 0, .slice none 0 0], .int .i64 2]) (by simp [results, Try.results6, go_sem, z0, z1, z2]) rfl (cyc_err (c := 2) HRN.out (by decide) (HB1.out.trans (HBR.out.mono (by have := HS1.out; omega))))
      · obtain rfl : k = lf := by omega
        have HFF := Lib.hid (show F.take k = F from List.take_of_length_le (by rw [HLF.out]; exact Nat.le_refl _))
        rw [HFF.out] at hO
        have HBR := Lib.hid (HBF.out.trans (hB.out.mono HBFS.out))
        have HR0 := Lib.hid (blk' HBR.out (by have := HS1.out; omega) G1.out)
        obtain ⟨⟨r0, r1, r2⟩, s0, s1, s2⟩ := row3f HR0.out
        obtain ⟨os, hos⟩ : ∃ os, flat F = os := ⟨_, rfl⟩
        have HRN := Lib.hid (show resN (m : Int) = if 6 < os.length then (3, []) else (0, os) from by rw [HRS.out, HRI.out, if_pos hO.out.2, hos])
        have HOL := Lib.hid (show os.length ≤ 10 from by rw [← hos]; exact HFO.out.2.1)
        have HOS := Lib.hid (show OwL wf.heap.size wr u6 os from by rw [← hos]; exact hO.out.1)
        obtain ⟨aO, cO, rfl⟩ := owns_form HOS.out
        obtain ⟨l, hl⟩ : ∃ l, os.length = l := ⟨_, rfl⟩
        have HL := Lib.hid hl
        have hl10 : l ≤ 10 := by rw [← hl]; exact HOL.out
        have HSO := Lib.hid (ow_sl HOS.out rfl)
        rw [hl] at HRN HSO ⊢
        clear hl hos hO HSP HSE HOP HOE HRI HRS HFF
        by_cases h6 : 6 < l
        · have HC3 := Lib.hid (show (resN (m : Int)).1 = 3 from by rw [HRN.out, if_pos h6])
          have h6i : (l : Int) > 6 := by omega
          clear h6
          go_wp2_with fail
          obtain ⟨⟨z0, z1, z2⟩, -⟩ := row3f (put3 (x := .slice none 0 0) (y := .slice none 0 0) (z := .slice none 0 0) HR0.out)
          exact bodyPost_ret (v := .tuple #[.agg #[.slice none 0 0, .slice none 0 0, .slice none 0 0], .int .i64 3]) (by simp [results, Try.results6, go_sem, z0, z1, z2]) rfl (cyc_err (c := 3) HC3.out (by decide) (HB1.out.trans (HBR.out.mono (by have := HS1.out; omega))))
        · have HC0 := Lib.hid (show resN (m : Int) = (0, os) from by rw [HRN.out, if_neg h6])
          have h6i : ¬ (l : Int) > 6 := by omega
          have HTV := Lib.hid (triv_any os (.slice aO l cO) wr HSO.out (by rw [HL.out]; omega))
          have hl6 : l ≤ 6 := by omega
          clear h6 HRN
          go_wp2_with fail
          refine HTV.out.mono ?_
          rintro e w6 ⟨vO, vP, vC, bs, g6, rfl, hT6, hb6⟩
          rw [HL.out] at hT6
          obtain ⟨a1, c1, rfl, _, _⟩ := slg_form hT6.O
          obtain ⟨a2, c2, rfl⟩ := owns_form hT6.P
          obtain ⟨us, k1, k2, k3⟩ := hT6.C
          obtain ⟨a3, c3, rfl⟩ := owns_form k1
          rw [crow_len] at hT6 ⊢
          rw [ints_length, HL.out] at hT6 ⊢
          have hbl : bs.length = l := by have := hT6.len; unfold zrows at this; rw [List.length_replicate] at this; omega
          rw [hbl] at hT6 ⊢
          obtain ⟨g7, hg7⟩ : ∃ g7, w6.heap.size = g7 := ⟨_, rfl⟩
          obtain ⟨w7, hw7⟩ : ∃ w7, w7 = w6.alloc (.cells #[.slice a1 l c1, .slice a2 l c2, .slice a3 l c3] 29) := ⟨_, rfl⟩
          have HT7 := Lib.hid (show TS wr.heap.size l w7 g7 (.slice a1 l c1) (.slice a2 l c2) (.slice a3 l c3) os bs (zrows l l) (crow l) from
            TS.rebox hT6 (by rw [hw7]; exact (Below.refl _ _).alloc (Nat.le_refl _) _) (by omega) (by rw [hw7, ← hg7]; exact heap_alloc_new _ _))
          have HB7 := Lib.hid (show Below wr.heap.size wr w7 from by rw [hw7]; exact hb6.alloc hb6.size _)
          have HBL := Lib.hid hbl
          clear hT6 hb6 k1 k2 k3 HTV HSO
          go_upto_region 15 with fail
          rw [← hw7]
          rw [prk_zero] at HT7
          clear hw7 hg7 hbl
          have hl1 : IntKind.i64.wrap ((l : Int) - 1) = (l : Int) - 1 := IntWalk.i64_in _ (by omega)
          obtain ⟨wq, hwq⟩ : ∃ wq, wr.heap.size = wq := ⟨_, rfl⟩
          rw [hwq] at HT7 HB7
          have HWQ := Lib.hid hwq
          have HWF := Lib.hid (show wf.heap.size ≤ wq from by rw [← hwq]; exact hB.out.size)
          have HBf7 := Lib.hid (show Below wf.heap.size wf w7 from hB.out.trans (HB7.out.mono HWF.out))
          go_wp2_with fail
          go_loopw [50] (fun kv wr => ∃ k : Nat, (k + 1 ≤ l ∨ k = 0) ∧ kv = .int .i64 (k : Int) ∧ Hid (TS wq l wr g7 (.slice a1 l c1) (.slice a2 l c2) (.slice a3 l c3) os bs (prk l k) (crow l)) ∧ Hid (Below wq w7 wr)) (fun kv _ => l - (intOf kv).toNat)
          case atStart => exact ⟨0, .inr rfl, rfl, HT7, Lib.hid (Below.refl _ _)⟩
          case round =>
            obtain ⟨k, hk, rfl, hT, hB2⟩ := hrel
            obtain ⟨⟨e0, e1, e2⟩, f0, f1, f2⟩ := row3f hT.out.bx
            have hgl : g7 < wr.heap.size := hT.out.lt
            by_cases hk1 : k + 1 < l
            · have hki : (k : Int) < (l : Int) - 1 := by omega
              obtain ⟨gp2, cp2, hv2⟩ := owns_some hT.out.P (by rw [HBL.out]; omega)
              rw [HBL.out] at hv2
              obtain ⟨rfl, rfl⟩ : a2 = some ⟨gp2, 0, none⟩ ∧ c2 = cp2 := by simpa using hv2
              obtain ⟨b, hb⟩ : ∃ b, bs[k]? = some b := ⟨_, List.getElem?_eq_getElem (by rw [HBL.out]; omega)⟩
              have hrow := prk_get (n := l) (k := k) (i := k) (by omega)
              rw [if_neg (by omega)] at hrow
              have hc1 := World.ownsRow.cells hT.out.P (g := gp2) rfl k (rowV l b) (by rw [List.getElem?_map, hb]; rfl)
              rw [addr_add, Nat.zero_add] at hc1
              have hown := hT.out.R k b _ hb hrow
              obtain ⟨s1, s2⟩ := hown.cell (j := k + 1) (a := 0) (by rw [ints_get, List.getElem?_replicate, if_pos (by omega)]; rfl)
              have hgp := (World.ownsRow.lt hT.out.P gp2 rfl).2
              have hbl2 := hown.lt.2
              have hwk : IntKind.i64.wrap ((k : Int) + 1) = (k : Int) + 1 := IntWalk.i64_in _ (by omega)
              have hk0 : (0 : Int) ≤ (k : Int) := by omega
              have hkl : (k : Int) < (l : Int) := by omega
              have hk2 : (k : Int) + 1 < (l : Int) := by omega
              have hN := TS.poke (j := k + 1) (a := 1) hT.out hb hrow
              rw [prk_succ (by omega)] at hN
              have HN := Lib.hid hN
              have HBN := Lib.hid (hB2.out.setCell (p := ⟨b, k + 1, none⟩) hown.lt.1 (.int .i64 1))
              clear hN hrow hb hown hT hB2 hv2
              go_wp2_with fail
              go_roundw
              case rel => exact ⟨k + 1, .inl (by omega), by go_num, HN, HBN⟩
              case measure => simp [intOf]; omega
            · have hki : ¬ (k : Int) < (l : Int) - 1 := by omega
              have HBR2 := Lib.hid (HBf7.out.trans (hB2.out.mono HWF.out))
              have HBF2 := Lib.hid (HBF.out.trans (HBR2.out.mono HBFS.out))
              have HR2 := Lib.hid (blk' HBF2.out (by have := HS1.out; omega) G1.out)
              obtain ⟨⟨t0, t1, t2⟩, u0, u1, u2⟩ := row3f HR2.out
              obtain ⟨⟨z0, z1, z2⟩, -⟩ := row3f (put3 (x := .slice a1 l c1) (y := .slice a2 l c2) (z := .slice a3 l c3) HR2.out)
              have HFIN := Lib.hid (show CycR (resN (m : Int)) w (.returned (.tuple #[.agg #[.slice a1 l c1, .slice a2 l c2, .slice a3 l c3], .int .i64 0])) (((wr.setCell ⟨w.heap.size, 0, none⟩ (.slice a1 l c1)).setCell ⟨w.heap.size, 1, none⟩ (.slice a2 l c2)).setCell ⟨w.heap.size, 2, none⟩ (.slice a3 l c3)) from by
                have hq : w.heap.size + 1 ≤ wq := by have := HS1.out; have := HBFS.out; have := HWF.out; omega
                refine ⟨_, _, _, by rw [HC0.out]; rfl, ?_, ?_⟩
                · rw [HC0.out]
                  unfold resP
                  rw [if_pos rfl]
                  show ValP Any _ _ _ _ ⟨ints os, (prow os.length).map ints, (crow os.length).map (·.map ints)⟩
                  rw [HL.out, ← prk_full (k := k) (by omega)]
                  exact TS.val (TS.kept hT.out ((((Keep.refl _ wr).setCell (by simp; omega) _).setCell (by simp; omega) _).setCell (by simp; omega) _)) (by rw [HBL.out]; omega)
                · exact (((HB1.out.trans (HBF2.out.mono (by have := HS1.out; omega))).setCell (p := ⟨w.heap.size, 0, none⟩) (Nat.le_refl _) _).setCell (p := ⟨w.heap.size, 1, none⟩) (Nat.le_refl _) _).setCell (p := ⟨w.heap.size, 2, none⟩) (Nat.le_refl _) _)
              clear hT hB2 HBR2 HBF2
              go_wp2_with fail
              exact bodyPost_ret (v := .tuple #[.agg #[.slice a1 l c1, .slice a2 l c2, .slice a3 l c3], .int .i64 0]) (by simp [results, Try.results6, go_sem, z0, z1, z2]) rfl HFIN.out
  · have HRN := Lib.hid (show (resN n).1 = 2 from by unfold resN; rw [if_neg hin])
    have HIN := Lib.hid (fun W => ImplV.inside_F n 1 729 hin W)
    obtain ⟨⟨e0, e1, e2⟩, f0, f1, f2⟩ := row3f G1.out
    clear hin
    go_wp2_with fail
    refine (HIN.out _).mono ?_
    rintro e w2 ⟨rfl, rfl⟩
    go_wp2_with fail
    obtain ⟨⟨z0, z1, z2⟩, -⟩ := row3f (put3 (x := .slice none 0 0) (y := .slice none 0 0) (z := .slice none 0 0) G1.out)
    exact bodyPost_ret (v := .tuple #[.agg #[.slice none 0 0, .slice none 0 0, .slice none 0 0], .int .i64 2]) (by simp [results, Try.results6, go_sem, z0, z1, z2]) rfl (cyc_err (c := 2) HRN.out (by decide) HB1.out)
end Go.Proofs.Ytabeedimnbkcgaa.CyL
