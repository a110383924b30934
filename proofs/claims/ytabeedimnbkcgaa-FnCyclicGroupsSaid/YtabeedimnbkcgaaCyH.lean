import Derived.Test.YtabeedimnbkcgaaCyD
import Derived.Test.YtabeedimnbkcgaaCyA
import Derived.Deep.AppendLies
/-
  impl.factors, spec.l01Prime, l07Factors.
-/
namespace Go.Proofs.Ytabeedimnbkcgaa.CyH
open Go.RowKit Go.Proofs.Ytabeedimnbkcgaa Go.Proofs.Ytabeedimnbkcgaa.Tow Go.Proofs.Ytabeedimnbkcgaa.Val Go.Proofs.Ytabeedimnbkcgaa.CyA Go.Proofs.Ytabeedimnbkcgaa.CyD
set_option linter.unusedVariables false
set_option linter.unusedSimpArgs false

theorem tmod_nat (x n : Nat) : ((x : Int)).tmod (n : Int) = ((x % n : Nat) : Int) := by rw [Int.tmod_eq_emod_of_nonneg (by omega)]; rfl
theorem tdiv_nat (x n : Nat) : ((x : Int)).tdiv (n : Int) = ((x / n : Nat) : Int) := by rw [Int.tdiv_eq_ediv_of_nonneg (by omega)]; rfl
abbrev OwL (B : Nat) (w : World) (v : Value) (x : List Nat) : Prop := w.ownsRow B 2 1 v x.length (vals (ints x))
theorem vals_snoc (x : List Nat) (a : Nat) : vals (ints x) ++ [.int .i64 (a : Int)] = vals (ints (x ++ [a])) := by simp [vals, ints]
theorem strip_more {j q m : Nat} (h : m % q = 0) : stripN (j + 1) q m = ((stripN j q (m / q)).1 + 1, (stripN j q (m / q)).2) := by rw [stripN, if_pos h]
theorem strip_end {j q m : Nat} (h : m % q ≠ 0) : stripN j q m = (0, m) := by cases j with
  | zero => rfl
  | succ j => rw [stripN, if_neg h]
/-- dividing goes on -/
def Sp (q n m e : Nat) : Prop := 1 ≤ m ∧ m ≤ n ∧ e ≤ 10 ∧ m < 2 ^ (10 - e) ∧ stripN 10 q n = (e + (stripN (10 - e) q m).1, (stripN (10 - e) q m).2)
theorem Sp.start {q n : Nat} (h1 : 1 ≤ n) (h2 : n ≤ 1000) : Sp q n n 0 := ⟨h1, Nat.le_refl _, by omega, by show n < 1024; omega, by simp⟩
theorem Sp.step {q n m e : Nat} (h : Sp q n m e) (hq : 2 ≤ q) (hm : m % q = 0) : Sp q n (m / q) (e + 1) ∧ m / q < m ∧ e < 10 := by
  obtain ⟨h1, h2, h3, h4, h5⟩ := h
  have he : e < 10 := by
    refine Nat.lt_of_not_le fun h => ?_
    rw [show 10 - e = 0 by omega] at h4
    simp at h4; omega
  have hd : m / q < m := Nat.div_lt_self (by omega) (by omega)
  have hqm : q ≤ m := Nat.le_of_dvd (by omega) (Nat.dvd_of_mod_eq_zero hm)
  have h1' : 1 ≤ m / q := (Nat.one_le_div_iff (by omega)).2 hqm
  have h2' : m / q < 2 ^ (10 - (e + 1)) := by
    rw [Nat.div_lt_iff_lt_mul (by omega)]
    rw [show 10 - e = (10 - (e + 1)) + 1 by omega, Nat.pow_succ] at h4
    exact Nat.lt_of_lt_of_le h4 (Nat.mul_le_mul (Nat.le_refl _) hq)
  refine ⟨⟨h1', by omega, by omega, h2', ?_⟩, hd, he⟩
  rw [h5, show 10 - e = (10 - (e + 1)) + 1 by omega, strip_more hm]
  exact Prod.ext (by simp only; omega) rfl
theorem Sp.fin {q n m e : Nat} (h : Sp q n m e) (hm : m % q ≠ 0) : stripN 10 q n = (e, m) := by
  obtain ⟨h1, h2, h3, h4, h5⟩ := h
  rw [h5, strip_end hm]; rfl

/-- two rows in the making, apart -/
def Two (B : Nat) (w : World) (v u : Value) (F : List (Nat × Nat)) (G : List (Nat × Nat)) : Prop := OwL B w v (F.map (·.1)) ∧ OwL B w u (G.map (·.2)) ∧ ∀ k, v.ownBlock = some k → u.ownBlock ≠ some k
def FacR (F : List (Nat × Nat)) (w : World) (e : Ending) (w' : World) : Prop := ∃ v u, e = .returned (.tuple #[v, u]) ∧ OwL w.heap.size w' v (F.map (·.1)) ∧ OwL w.heap.size w' u (F.map (·.2)) ∧ Below w.heap.size w w'
/-- what is still to come -/
def FI (F : List (Nat × Nat)) (gk p n : Nat) (F1 : List (Nat × Nat)) : Prop := doneI gk p n = true ∧ F1 ++ facI gk p n = F ∧ F1.length + gk ≤ 40
theorem FI.fin {F F1 : List (Nat × Nat)} {gk p n : Nat} (h : FI F gk p n F1) (hn : n ≤ 1) : F1 = F := by
  obtain ⟨_, h2, _⟩ := h
  cases gk with
  | zero => rw [← h2, facI, List.append_nil]
  | succ k => rw [← h2, facI, if_pos hn, List.append_nil]
theorem FI.pos {F F1 : List (Nat × Nat)} {gk p n : Nat} (h : FI F gk p n F1) (hn : ¬ n ≤ 1) : ∃ k, gk = k + 1 := by
  cases gk with
  | zero => have := h.1; rw [doneI] at this; simp at this; omega
  | succ k => exact ⟨k, rfl⟩
theorem FI.next {F F1 : List (Nat × Nat)} {f p n q e m : Nat} (h : FI F (f + 1) p n F1) (hn : ¬ n ≤ 1) (hq : nxt p n = q) (hs : stripN 10 q n = (e, m)) : (e = 0 → FI F f (q + 1) m F1) ∧ (e ≠ 0 → FI F f (q + 1) m (F1 ++ [(q, e)])) := by
  obtain ⟨d1, d2, d3⟩ := h
  rw [doneI, hq, hs, Bool.or_eq_true, decide_eq_true_eq] at d1
  have d1 := d1.resolve_left hn
  rw [facI, if_neg hn, hq, hs] at d2
  simp only at d2 d1
  refine ⟨fun he => ⟨d1, ?_, by omega⟩, fun he => ⟨d1, ?_, by rw [List.length_append, List.length_singleton]; omega⟩⟩
  · rw [he, if_neg (Nat.lt_irrefl _), List.nil_append] at d2; exact d2
  · rw [if_pos (by omega)] at d2
    rw [List.append_assoc]; exact d2
theorem own_push {B : Nat} {w' : World} {v' : Value} {x : List Nat} {a : Nat} (h : w'.ownsRow B 2 1 v' (x.length + 1) (vals (ints x) ++ [.int .i64 (a : Int)])) : OwL B w' v' (x ++ [a]) := by
  unfold OwL
  rw [← vals_snoc, List.length_append]
  exact h
theorem grow_apart {B n : Nat} {w w' : World} {v u : Value} {xs : List Value} (hu : w.ownsRow B 2 1 u n xs) (hg : w.grownBy w' v.ownBlock) (hap : ∀ k, v.ownBlock = some k → u.ownBlock ≠ some k) : w'.ownsRow B 2 1 u n xs := by
  refine World.ownsRow.kept hu hg ?_
  cases h : u.ownBlock with
  | none => exact .inl rfl
  | some k => exact .inr fun e => hap k e.symm h
theorem apart_new {B n n' c g H : Nat} {w : World} {v u : Value} {xs : List Value} (hat : v.ownBlock = some g ∨ g = H) (hH : w.heap.size ≤ H) (hu : w.ownsRow B 2 1 u n xs) (hap : ∀ k, v.ownBlock = some k → u.ownBlock ≠ some k) :
    ∀ k, (Value.slice (some ⟨g, 0, none⟩) n' c).ownBlock = some k → u.ownBlock ≠ some k := by
  intro k hk
  have hk : g = k := by simpa [Value.ownBlock] using hk
  subst hk
  rcases hat with h | h
  · exact hap _ h
  · intro e
    have := (World.ownsRow.lt hu _ e).2
    omega
theorem apart_sym {v u : Value} (h : ∀ k, v.ownBlock = some k → u.ownBlock ≠ some k) : ∀ k, u.ownBlock = some k → v.ownBlock ≠ some k := fun k h1 h2 => h k h2 h1

set_option maxRecDepth 100000 in
set_option maxHeartbeats 16000000 in
theorem factors_any (n0 : Nat) (h1 : 1 ≤ n0) (h2 : n0 ≤ 729) (hd : doneI 40 2 n0 = true) (w : World) : Calls Try.prog 19 #[.int .i64 (n0 : Int)] w (FacR (facI 40 2 n0) w) := by
  obtain ⟨i0, hi, hz0, hz1, hz2⟩ := info_parts infoI
  obtain ⟨F, hF⟩ : ∃ F, facI 40 2 n0 = F := ⟨_, rfl⟩
  have HF := Lib.hid (show FI F 40 2 n0 [] from ⟨hd, hF, by simp⟩)
  rw [hF]
  clear hd hF
  go_enter Try.func19, Try.ntmps19
  go_wp2_with fail
  go_loopg [0, 4, 5, 6] 40 (fun gk nv vv uv pv wr => ∃ (n p : Nat) (F1 : List (Nat × Nat)), nv = .int .i64 (n : Int) ∧ pv = .int .i64 (p : Int) ∧ 1 ≤ n ∧ n ≤ 729 ∧ 2 ≤ p ∧ p ≤ 730 ∧ gk ≤ 40 ∧ Hid (FI F gk p n F1) ∧ Hid (Two w.heap.size wr vv uv F1 F1) ∧ Hid (Below w.heap.size w wr))
  case atStart => exact ⟨n0, 2, [], rfl, rfl, h1, h2, by omega, by omega, Nat.le_refl _, HF, Lib.hid ⟨World.ownsRow_nil _ _ _ _, World.ownsRow_nil _ _ _ _, fun k h => by simp [Value.ownBlock] at h⟩, Lib.hid (Below.refl _ _)⟩
  case round =>
    obtain ⟨n, p, F1, rfl, rfl, hn1, hn2, hp1, hp2, hg40, hFI, hT, hB⟩ := hrel
    by_cases hn : n ≤ 1
    · have hq : ¬ (n : Int) > 1 := by omega
      have HE := Lib.hid (hFI.out.fin hn)
      have HR := Lib.hid (show ∀ v u, Two w.heap.size wr v u F1 F1 → FacR F w (.returned (.tuple #[v, u])) wr from fun v u h => ⟨v, u, rfl, by rw [← HE.out]; exact h.1, by rw [← HE.out]; exact h.2.1, hB.out⟩)
      have HRR := Lib.hid (HR.out _ _ hT.out)
      clear hT hB HR hFI
      go_wp2_with fail
      exact bodyPost_ret (v := .tuple #[u4, u5]) (by simp [results, Try.results19, go_sem]) rfl HRR.out
    · have hq : (n : Int) > 1 := by omega
      obtain ⟨f, rfl⟩ := hFI.out.pos hn
      have hl40 : F1.length ≤ 39 := by have := hFI.out.2.2; omega
      have hpp : IntKind.i64.wrap ((p : Int) * (p : Int)) = (p : Int) * (p : Int) := by
        rw [← Int.natCast_mul]
        have := Nat.mul_le_mul hp2 hp2
        exact IntWalk.i64_in _ (by omega)
      have HN := Lib.hid hn
      by_cases hpn : n < p * p
      · have hpi : (p : Int) * (p : Int) > (n : Int) := by rw [← Int.natCast_mul]; omega
        have HNX := Lib.hid (show nxt p n = n from by unfold nxt; rw [if_pos hpn])
        have hq2 : 2 ≤ n := by omega
        have hq3 : n ≤ 729 := hn2
        clear hn hpn
        have HSP0 := Lib.hid (Sp.start (q := n) hn1 (by omega))
        go_wp2_with fail
        go_loop [0, 7] (fun nv ev => ∃ m e : Nat, nv = .int .i64 (m : Int) ∧ ev = .int .i64 (e : Int) ∧ Hid (Sp n n m e)) (fun nv _ => (intOf nv).toNat)
        case atStart => exact ⟨n, 0, rfl, rfl, HSP0⟩
        case round =>
          obtain ⟨m, e, rfl, rfl, hSP⟩ := hrel
          have hmod : ((m : Int)).tmod (n : Int) = ((m % n : Nat) : Int) := tmod_nat m n
          have hdiv : ((m : Int)).tdiv (n : Int) = ((m / n : Nat) : Int) := tdiv_nat m n
          have hq0 : ¬ (n : Int) = 0 := by omega
          have hm1 : 1 ≤ m ∧ m ≤ 729 := by have := hSP.out; unfold Sp at this; omega
          obtain ⟨r, hr⟩ : ∃ r, m % n = r := ⟨_, rfl⟩
          obtain ⟨dv, hdv⟩ : ∃ dv, m / n = dv := ⟨_, rfl⟩
          rw [hr] at hmod
          rw [hdv] at hdiv
          have hwr : IntKind.i64.wrap (r : Int) = (r : Int) := by
            have : r ≤ m := by rw [← hr]; exact Nat.mod_le _ _
            exact IntWalk.i64_in _ (by omega)
          have hwd : IntKind.i64.wrap (dv : Int) = (dv : Int) := by
            have : dv ≤ m := by rw [← hdv]; exact Nat.div_le_self _ _
            exact IntWalk.i64_in _ (by omega)
          by_cases hr0 : r = 0
          · have hst := hSP.out.step hq2 (hr.trans hr0)
            rw [hdv] at hst
            have HST := Lib.hid hst.1
            have hdm := hst.2.1
            have he10 := hst.2.2
            have hri : ((r : Int) == 0) = true := by simp; omega
            have hwe : IntKind.i64.wrap ((e : Int) + 1) = (e : Int) + 1 := IntWalk.i64_in _ (by omega)
            clear hst hSP hr hdv
            go_wp2_with fail
            go_round
            case rel => exact ⟨dv, e + 1, rfl, by go_num, HST⟩
            case measure => simp [intOf]; omega
          · have hri : ((r : Int) == 0) = false := by simp; omega
            have HFN := Lib.hid (hSP.out.fin (q := n) (by rw [hr]; exact hr0))
            have hm3 : 1 ≤ m ∧ m ≤ n ∧ e ≤ 10 := by have := hSP.out; unfold Sp at this; exact ⟨this.1, this.2.1, this.2.2.1⟩
            have HNEXT := Lib.hid (hFI.out.next HN.out HNX.out HFN.out)
            have hwp : IntKind.i64.wrap ((n : Int) + 1) = (n : Int) + 1 := IntWalk.i64_in _ (by omega)
            clear hSP hr hdv hdiv hFI HFN
            by_cases he0 : e = 0
            · have HFA := Lib.hid (HNEXT.out.1 he0)
              have hei : ¬ ((e : Int) > 0) := by omega
              go_wp2_with fail
              go_roundg f
              case measure => omega
              case rel => exact ⟨m, n + 1, F1, rfl, by go_num, hm3.1, by omega, by omega, by omega, by omega, HFA, hT, hB⟩
            · have HFA := Lib.hid (HNEXT.out.2 he0)
              have hei : (e : Int) > 0 := by omega
              have heN : 0 < e := by omega
              obtain ⟨t1, t2, t3⟩ := hT.out
              have a1 := ownsRow_keep t1 (S := Any) ((Keep.refl _ wr).alloc (.cells #[.int .i64 (n : Int)] 2)) (fun _ _ => trivial)
              have a2 := ownsRow_keep t2 (S := Any) ((Keep.refl _ wr).alloc (.cells #[.int .i64 (n : Int)] 2)) (fun _ _ => trivial)
              have HA2 := Lib.hid a2
              have HT3 := Lib.hid t3
              have hBs := hB.out.size
              have HLM := Lib.hid (show (F1.map (·.1)).length = F1.length ∧ (F1.map (·.2)).length = F1.length by simp)
              rw [HLM.out.1] at a1
              rw [HLM.out.2] at HA2
              clear t1 t2 t3 a2 hT HNEXT
              go_wp2_with (at_builtin; (refine wpList_append_lies _ rfl _ _ 25 rfl w.heap.size 2 i0 (.int .i64 0) 1 8 Try.underlying25 hi hz0 hz1 hz2 rfl (by decide) _ _ _ rfl a1 ⟨wr.heap.size, 0, none⟩ 1 1 [.int .i64 (n : Int)] rfl rfl (World.news_of_block (cs := #[.int .i64 (n : Int)]) (t := 2) (fr := (0, 0)) (heap_alloc_new wr _)) (by simp [Value.oneCell']) (by decide) (by unfold maxLen; omega) (by omega) (by simp; omega) _ rfl ?_))
              intro g2 cap2 w2 hown2 hgrow2 hat2 hlt2
              have hBa := hB.out.alloc hBs (.cells #[.int .i64 (n : Int)] 2)
              have HB2 := Lib.hid (show Below w.heap.size w w2 from hBa.grown hgrow2 hBa.size (fun g hg => (World.ownsRow.lt a1 g hg).1))
              have HV2 := Lib.hid hown2
              have HU2 := Lib.hid (grow_apart HA2.out hgrow2 HT3.out)
              have HAP2 := Lib.hid (apart_sym (apart_new (n' := F1.length + 1) (c := cap2) hat2 (by first | exact Nat.le_refl _ | simp) HA2.out HT3.out))
              have b1 := ownsRow_keep HU2.out (S := Any) ((Keep.refl _ w2).alloc (.cells #[.int .i64 (e : Int)] 2)) (fun _ _ => trivial)
              have HV3 := Lib.hid (ownsRow_keep HV2.out (S := Any) ((Keep.refl _ w2).alloc (.cells #[.int .i64 (e : Int)] 2)) (fun _ _ => trivial))
              have hBs2 := HB2.out.size
              clear a1 hown2 hgrow2 hat2 hlt2 hBa hB hBs HA2 HT3
              go_wp2_with (at_builtin; (refine wpList_append_lies _ rfl _ _ 25 rfl w.heap.size 2 i0 (.int .i64 0) 1 8 Try.underlying25 hi hz0 hz1 hz2 rfl (by decide) _ _ _ rfl b1 ⟨w2.heap.size, 0, none⟩ 1 1 [.int .i64 (e : Int)] rfl rfl (World.news_of_block (cs := #[.int .i64 (e : Int)]) (t := 2) (fr := (0, 0)) (heap_alloc_new w2 _)) (by simp [Value.oneCell']) (by decide) (by unfold maxLen; omega) (by omega) (by simp; omega) _ rfl ?_))
              intro g3 cap3 w3 hown3 hgrow3 hat3 hlt3
              have hBa := HB2.out.alloc hBs2 (.cells #[.int .i64 (e : Int)] 2)
              have HB3 := Lib.hid (show Below w.heap.size w w3 from hBa.grown hgrow3 hBa.size (fun g hg => (World.ownsRow.lt b1 g hg).1))
              have HT3 := Lib.hid (show Two w.heap.size w3 (.slice (some ⟨g2, 0, none⟩) (F1.length + 1) cap2) (.slice (some ⟨g3, 0, none⟩) (F1.length + 1) cap3) (F1 ++ [(n, e)]) (F1 ++ [(n, e)]) from by
                refine ⟨?_, ?_, apart_sym (apart_new (n' := F1.length + 1) (c := cap3) hat3 (by first | exact Nat.le_refl _ | simp) HV3.out HAP2.out)⟩
                · rw [List.map_append]
                  exact own_push (by rw [HLM.out.1]; exact grow_apart HV3.out hgrow3 HAP2.out)
                · rw [List.map_append]
                  exact own_push (by rw [HLM.out.2]; exact hown3))
              clear b1 hown3 hgrow3 hat3 hlt3 hBa HV3 HV2 HU2 HB2 hBs2 HAP2
              go_wp2_with fail
              go_roundg f
              case measure => omega
              case rel => exact ⟨m, n + 1, _, rfl, by go_num, hm3.1, by omega, by omega, by omega, by omega, HFA, HT3, HB3⟩
      · have hpi : ¬ (p : Int) * (p : Int) > (n : Int) := by rw [← Int.natCast_mul]; omega
        have HNX := Lib.hid (show nxt p n = p from by unfold nxt; rw [if_neg hpn])
        have hq2 : 2 ≤ p := hp1
        have hq3 : p ≤ 729 := by
          refine Nat.le_of_not_lt fun h => hpn ?_
          have := Nat.mul_le_mul (Nat.le_of_lt h) (Nat.le_of_lt h)
          omega
        clear hn hpn
        have HSP0 := Lib.hid (Sp.start (q := p) hn1 (by omega))
        go_wp2_with fail
        go_loop [0, 7] (fun nv ev => ∃ m e : Nat, nv = .int .i64 (m : Int) ∧ ev = .int .i64 (e : Int) ∧ Hid (Sp p n m e)) (fun nv _ => (intOf nv).toNat)
        case atStart => exact ⟨n, 0, rfl, rfl, HSP0⟩
        case round =>
          obtain ⟨m, e, rfl, rfl, hSP⟩ := hrel
          have hmod : ((m : Int)).tmod (p : Int) = ((m % p : Nat) : Int) := tmod_nat m p
          have hdiv : ((m : Int)).tdiv (p : Int) = ((m / p : Nat) : Int) := tdiv_nat m p
          have hq0 : ¬ (p : Int) = 0 := by omega
          have hm1 : 1 ≤ m ∧ m ≤ 729 := by have := hSP.out; unfold Sp at this; omega
          obtain ⟨r, hr⟩ : ∃ r, m % p = r := ⟨_, rfl⟩
          obtain ⟨dv, hdv⟩ : ∃ dv, m / p = dv := ⟨_, rfl⟩
          rw [hr] at hmod
          rw [hdv] at hdiv
          have hwr : IntKind.i64.wrap (r : Int) = (r : Int) := by
            have : r ≤ m := by rw [← hr]; exact Nat.mod_le _ _
            exact IntWalk.i64_in _ (by omega)
          have hwd : IntKind.i64.wrap (dv : Int) = (dv : Int) := by
            have : dv ≤ m := by rw [← hdv]; exact Nat.div_le_self _ _
            exact IntWalk.i64_in _ (by omega)
          by_cases hr0 : r = 0
          · have hst := hSP.out.step hq2 (hr.trans hr0)
            rw [hdv] at hst
            have HST := Lib.hid hst.1
            have hdm := hst.2.1
            have he10 := hst.2.2
            have hri : ((r : Int) == 0) = true := by simp; omega
            have hwe : IntKind.i64.wrap ((e : Int) + 1) = (e : Int) + 1 := IntWalk.i64_in _ (by omega)
            clear hst hSP hr hdv
            go_wp2_with fail
            go_round
            case rel => exact ⟨dv, e + 1, rfl, by go_num, HST⟩
            case measure => simp [intOf]; omega
          · have hri : ((r : Int) == 0) = false := by simp; omega
            have HFN := Lib.hid (hSP.out.fin (q := p) (by rw [hr]; exact hr0))
            have hm3 : 1 ≤ m ∧ m ≤ n ∧ e ≤ 10 := by have := hSP.out; unfold Sp at this; exact ⟨this.1, this.2.1, this.2.2.1⟩
            have HNEXT := Lib.hid (hFI.out.next HN.out HNX.out HFN.out)
            have hwp : IntKind.i64.wrap ((p : Int) + 1) = (p : Int) + 1 := IntWalk.i64_in _ (by omega)
            clear hSP hr hdv hdiv hFI HFN
            by_cases he0 : e = 0
            · have HFA := Lib.hid (HNEXT.out.1 he0)
              have hei : ¬ ((e : Int) > 0) := by omega
              go_wp2_with fail
              go_roundg f
              case measure => omega
              case rel => exact ⟨m, p + 1, F1, rfl, by go_num, hm3.1, by omega, by omega, by omega, by omega, HFA, hT, hB⟩
            · have HFA := Lib.hid (HNEXT.out.2 he0)
              have hei : (e : Int) > 0 := by omega
              have heN : 0 < e := by omega
              obtain ⟨t1, t2, t3⟩ := hT.out
              have a1 := ownsRow_keep t1 (S := Any) ((Keep.refl _ wr).alloc (.cells #[.int .i64 (p : Int)] 2)) (fun _ _ => trivial)
              have a2 := ownsRow_keep t2 (S := Any) ((Keep.refl _ wr).alloc (.cells #[.int .i64 (p : Int)] 2)) (fun _ _ => trivial)
              have HA2 := Lib.hid a2
              have HT3 := Lib.hid t3
              have hBs := hB.out.size
              have HLM := Lib.hid (show (F1.map (·.1)).length = F1.length ∧ (F1.map (·.2)).length = F1.length by simp)
              rw [HLM.out.1] at a1
              rw [HLM.out.2] at HA2
              clear t1 t2 t3 a2 hT HNEXT
              go_wp2_with (at_builtin; (refine wpList_append_lies _ rfl _ _ 25 rfl w.heap.size 2 i0 (.int .i64 0) 1 8 Try.underlying25 hi hz0 hz1 hz2 rfl (by decide) _ _ _ rfl a1 ⟨wr.heap.size, 0, none⟩ 1 1 [.int .i64 (p : Int)] rfl rfl (World.news_of_block (cs := #[.int .i64 (p : Int)]) (t := 2) (fr := (0, 0)) (heap_alloc_new wr _)) (by simp [Value.oneCell']) (by decide) (by unfold maxLen; omega) (by omega) (by simp; omega) _ rfl ?_))
              intro g2 cap2 w2 hown2 hgrow2 hat2 hlt2
              have hBa := hB.out.alloc hBs (.cells #[.int .i64 (p : Int)] 2)
              have HB2 := Lib.hid (show Below w.heap.size w w2 from hBa.grown hgrow2 hBa.size (fun g hg => (World.ownsRow.lt a1 g hg).1))
              have HV2 := Lib.hid hown2
              have HU2 := Lib.hid (grow_apart HA2.out hgrow2 HT3.out)
              have HAP2 := Lib.hid (apart_sym (apart_new (n' := F1.length + 1) (c := cap2) hat2 (by first | exact Nat.le_refl _ | simp) HA2.out HT3.out))
              have b1 := ownsRow_keep HU2.out (S := Any) ((Keep.refl _ w2).alloc (.cells #[.int .i64 (e : Int)] 2)) (fun _ _ => trivial)
              have HV3 := Lib.hid (ownsRow_keep HV2.out (S := Any) ((Keep.refl _ w2).alloc (.cells #[.int .i64 (e : Int)] 2)) (fun _ _ => trivial))
              have hBs2 := HB2.out.size
              clear a1 hown2 hgrow2 hat2 hlt2 hBa hB hBs HA2 HT3
              go_wp2_with (at_builtin; (refine wpList_append_lies _ rfl _ _ 25 rfl w.heap.size 2 i0 (.int .i64 0) 1 8 Try.underlying25 hi hz0 hz1 hz2 rfl (by decide) _ _ _ rfl b1 ⟨w2.heap.size, 0, none⟩ 1 1 [.int .i64 (e : Int)] rfl rfl (World.news_of_block (cs := #[.int .i64 (e : Int)]) (t := 2) (fr := (0, 0)) (heap_alloc_new w2 _)) (by simp [Value.oneCell']) (by decide) (by unfold maxLen; omega) (by omega) (by simp; omega) _ rfl ?_))
              intro g3 cap3 w3 hown3 hgrow3 hat3 hlt3
              have hBa := HB2.out.alloc hBs2 (.cells #[.int .i64 (e : Int)] 2)
              have HB3 := Lib.hid (show Below w.heap.size w w3 from hBa.grown hgrow3 hBa.size (fun g hg => (World.ownsRow.lt b1 g hg).1))
              have HT3 := Lib.hid (show Two w.heap.size w3 (.slice (some ⟨g2, 0, none⟩) (F1.length + 1) cap2) (.slice (some ⟨g3, 0, none⟩) (F1.length + 1) cap3) (F1 ++ [(p, e)]) (F1 ++ [(p, e)]) from by
                refine ⟨?_, ?_, apart_sym (apart_new (n' := F1.length + 1) (c := cap3) hat3 (by first | exact Nat.le_refl _ | simp) HV3.out HAP2.out)⟩
                · rw [List.map_append]
                  exact own_push (by rw [HLM.out.1]; exact grow_apart HV3.out hgrow3 HAP2.out)
                · rw [List.map_append]
                  exact own_push (by rw [HLM.out.2]; exact hown3))
              clear b1 hown3 hgrow3 hat3 hlt3 hBa HV3 HV2 HU2 HB2 hBs2 HAP2
              go_wp2_with fail
              go_roundg f
              case measure => omega
              case rel => exact ⟨m, p + 1, _, rfl, by go_num, hm3.1, by omega, by omega, by omega, by omega, HFA, HT3, HB3⟩

theorem prime_any (x : Int) (w : World) : Calls Try.prog 41 #[.int .i64 x] w fun e w' => e = .returned (.bool (primeB x)) ∧ w = w' := by
  by_cases h2 : x = 2
  · subst h2
    go_enter Try.func41, Try.ntmps41
    go_wp2_with fail
    go_ret
    exact ⟨rfl, rfl⟩
  have h2' : (x == 2) = false := by simpa using h2
  by_cases h3 : x = 3
  · subst h3
    go_enter Try.func41, Try.ntmps41
    go_wp2_with fail
    go_ret
    exact ⟨rfl, rfl⟩
  have h3' : (x == 3) = false := by simpa using h3
  by_cases h5 : x = 5
  · subst h5
    go_enter Try.func41, Try.ntmps41
    go_wp2_with fail
    go_ret
    exact ⟨rfl, rfl⟩
  have h5' : (x == 5) = false := by simpa using h5
  have HP := Lib.hid (show primeB x = (x == 7) by unfold primeB; rw [h2', h3', h5']; rfl)
  go_enter Try.func41, Try.ntmps41
  go_wp2_with fail
  go_ret
  exact ⟨by rw [HP.out]; rfl, rfl⟩

/-- what is found, for the numbers from d on -/
def dsF (d : Nat) : List Nat := [2, 3, 5, 7].filter (fun p => decide (d ≤ p))
def FSR (r : List Nat × Nat) (w : World) (e : Ending) (w' : World) : Prop := ∃ v, e = .returned (.tuple #[v, .bool (r.2 == 1)]) ∧ OwL w.heap.size w' v r.1 ∧ Below w.heap.size w w'
theorem dsF_prime {d : Nat} (h : primeB (d : Int) = true) : dsF d = d :: dsF (d + 1) := by
  simp [primeB] at h
  rcases h with ((h | h) | h) | h
  · obtain rfl : d = 2 := by omega
    rfl
  · obtain rfl : d = 3 := by omega
    rfl
  · obtain rfl : d = 5 := by omega
    rfl
  · obtain rfl : d = 7 := by omega
    rfl
theorem dsF_not {d : Nat} (hd : 2 ≤ d ∧ d ≤ 7) (h : primeB (d : Int) = false) : dsF d = dsF (d + 1) := by
  simp [primeB] at h
  have : d = 4 ∨ d = 6 := by omega
  rcases this with rfl | rfl <;> rfl
theorem FS_next {d m m' e : Nat} {ds : List Nat} {R : List Nat × Nat} {out : List Nat} (h : out ++ (facS (d :: ds) m).1 = R.1 ∧ (facS (d :: ds) m).2 = R.2) (hs : stripN 10 d m = (e, m')) : (out ++ List.replicate e d) ++ (facS ds m').1 = R.1 ∧ (facS ds m').2 = R.2 := by
  rw [facS, hs] at h
  simp only at h
  rw [List.append_assoc]
  exact h
theorem rep_snoc (out : List Nat) (e d : Nat) : out ++ List.replicate e d ++ [d] = out ++ List.replicate (e + 1) d := by
  rw [List.append_assoc, List.replicate_succ']
set_option maxRecDepth 100000 in
set_option maxHeartbeats 16000000 in
theorem facS_any (n0 : Nat) (h1 : 1 ≤ n0) (h2 : n0 ≤ 729) (w : World) : Calls Try.prog 24 #[.int .i64 (n0 : Int)] w (FSR (facS [2, 3, 5, 7] n0) w) := by
  obtain ⟨i0, hi, hz0, hz1, hz2⟩ := info_parts infoI
  obtain ⟨R, hR⟩ : ∃ R, facS [2, 3, 5, 7] n0 = R := ⟨_, rfl⟩
  have HR0 := Lib.hid (show [] ++ (facS (dsF 2) n0).1 = R.1 ∧ (facS (dsF 2) n0).2 = R.2 from by rw [← hR]; exact ⟨rfl, rfl⟩)
  rw [hR]
  have H00 := Lib.hid (show OwL w.heap.size (w.alloc (.cells #[] 2)) (.slice (some ⟨w.heap.size, 0, none⟩) 0 0) [] from World.ownsRow_made (base := w.heap.size) (e := 2) (size := 1) w #[] 0 (Nat.le_refl _) (Nat.zero_le _) rfl)
  have HP := Lib.hid (fun d W => prime_any d W)
  clear hR
  go_enter Try.func24, Try.ntmps24
  go_wp2_with fail
  go_loopw [0, 4, 5] (fun nv ov dv wr => ∃ (m d : Nat) (out : List Nat), nv = .int .i64 (m : Int) ∧ dv = .int .i64 (d : Int) ∧ 1 ≤ m ∧ m ≤ 729 ∧ 2 ≤ d ∧ d ≤ 8 ∧ out.length ≤ 10 * d ∧ Hid (out ++ (facS (dsF d) m).1 = R.1 ∧ (facS (dsF d) m).2 = R.2) ∧ Hid (OwL w.heap.size wr ov out) ∧ Hid (Below w.heap.size w wr)) (fun _ _ dv _ => 8 - (intOf dv).toNat)
  case atStart => exact ⟨n0, 2, [], rfl, rfl, h1, h2, Nat.le_refl _, by omega, by simp, HR0, H00, Lib.hid ((Below.refl _ _).alloc (Nat.le_refl _) _)⟩
  case round =>
    obtain ⟨m, d, out, rfl, rfl, hm1, hm2, hd2, hd8, hol, hF, hO, hB⟩ := hrel
    by_cases hd7 : d ≤ 7
    · have hdi : (d : Int) ≤ 7 := by omega
      have hwd : IntKind.i64.wrap ((d : Int) + 1) = (d : Int) + 1 := IntWalk.i64_in _ (by omega)
      cases hp : primeB (d : Int) with
      | false =>
        have HPC := Lib.hid (fun W => by have h := HP.out (d : Int) W; rw [hp] at h; exact h)
        have HF' := Lib.hid (show out ++ (facS (dsF (d + 1)) m).1 = R.1 ∧ (facS (dsF (d + 1)) m).2 = R.2 by rw [← dsF_not ⟨hd2, hd7⟩ hp]; exact hF.out)
        clear hp hF
        go_wp2_with fail
        rename World => wo
        go_loopw [0, 4] (fun nv ov wr => nv = .int .i64 (m : Int) ∧ Hid (OwL w.heap.size wr ov out) ∧ Hid (Below w.heap.size w wr)) (fun _ _ _ => 0)
        case atStart => exact ⟨rfl, hO, hB⟩
        case round =>
          clear hO hB
          obtain ⟨rfl, hO, hB⟩ := hrel
          go_wp2_with fail
          refine (HPC.out _).mono ?_
          rintro e w1 ⟨rfl, rfl⟩
          go_wp2_with fail
          go_roundw
          case rel => exact ⟨m, d + 1, out, rfl, by go_num, hm1, hm2, by omega, by omega, by omega, HF', hO, hB⟩
          case measure => simp [intOf]; omega
      | true =>
        have HPC := Lib.hid (fun W => by have h := HP.out (d : Int) W; rw [hp] at h; exact h)
        have HF' := Lib.hid (show out ++ (facS (d :: dsF (d + 1)) m).1 = R.1 ∧ (facS (d :: dsF (d + 1)) m).2 = R.2 by rw [← dsF_prime hp]; exact hF.out)
        have HSP0 := Lib.hid (Sp.start (q := d) hm1 (by omega))
        have HO0 := Lib.hid (show ∀ v W, OwL w.heap.size W v out → OwL w.heap.size W v (out ++ List.replicate 0 d) from fun v W h => by simpa using h)
        clear hp hF
        go_wp2_with fail
        rename World => wo
        go_loopw [0, 4] (fun nv ov wr => ∃ m' e : Nat, nv = .int .i64 (m' : Int) ∧ Hid (Sp d m m' e) ∧ Hid (OwL w.heap.size wr ov (out ++ List.replicate e d)) ∧ Hid (Below w.heap.size w wr)) (fun nv _ _ => (intOf nv).toNat)
        case atStart => exact ⟨m, 0, rfl, HSP0, Lib.hid (HO0.out _ _ hO.out), hB⟩
        case round =>
          clear hO hB HO0
          obtain ⟨m', e, rfl, hSP, hO, hB⟩ := hrel
          have hmod : ((m' : Int)).tmod (d : Int) = ((m' % d : Nat) : Int) := tmod_nat m' d
          have hdiv : ((m' : Int)).tdiv (d : Int) = ((m' / d : Nat) : Int) := tdiv_nat m' d
          have hq0 : ¬ (d : Int) = 0 := by omega
          have hm3 : 1 ≤ m' ∧ m' ≤ 729 ∧ e ≤ 10 := by have := hSP.out; unfold Sp at this; omega
          obtain ⟨r, hr⟩ : ∃ r, m' % d = r := ⟨_, rfl⟩
          obtain ⟨dv, hdv⟩ : ∃ dv, m' / d = dv := ⟨_, rfl⟩
          rw [hr] at hmod
          rw [hdv] at hdiv
          have hwr : IntKind.i64.wrap (r : Int) = (r : Int) := by
            have : r ≤ m' := by rw [← hr]; exact Nat.mod_le _ _
            exact IntWalk.i64_in _ (by omega)
          have hwv : IntKind.i64.wrap (dv : Int) = (dv : Int) := by
            have : dv ≤ m' := by rw [← hdv]; exact Nat.div_le_self _ _
            exact IntWalk.i64_in _ (by omega)
          by_cases hr0 : r = 0
          · have hst := hSP.out.step hd2 (hr.trans hr0)
            rw [hdv] at hst
            have HST := Lib.hid hst.1
            have hdm := hst.2.1
            have he10 := hst.2.2
            have hri : ((r : Int) == 0) = true := by simp; omega
            have a1 := ownsRow_keep hO.out (S := Any) ((Keep.refl _ wr).alloc (.cells #[.int .i64 (d : Int)] 2)) (fun _ _ => trivial)
            obtain ⟨ll, hll⟩ : ∃ ll, (out ++ List.replicate e d).length = ll := ⟨_, rfl⟩
            have hll1 : ll ≤ 90 := by rw [← hll]; simp; omega
            have HLL := Lib.hid hll
            rw [hll] at a1
            have hBs := hB.out.size
            clear hst hSP hr hdv hO hll
            go_wp2_with fail
            refine (HPC.out _).mono ?_
            rintro e' w1 ⟨rfl, rfl⟩
            go_wp2_with (at_builtin; (refine wpList_append_lies _ rfl _ _ 25 rfl w.heap.size 2 i0 (.int .i64 0) 1 8 Try.underlying25 hi hz0 hz1 hz2 rfl (by decide) _ _ _ rfl a1 ⟨wr.heap.size, 0, none⟩ 1 1 [.int .i64 (d : Int)] rfl rfl (World.news_of_block (cs := #[.int .i64 (d : Int)]) (t := 2) (fr := (0, 0)) (heap_alloc_new wr _)) (by simp [Value.oneCell']) (by decide) (by unfold maxLen; omega) (by omega) (by simp; omega) _ rfl ?_))
            intro g2 cap2 w2 hown2 hgrow2 hat2 hlt2
            have hBa := hB.out.alloc hBs (.cells #[.int .i64 (d : Int)] 2)
            have HB2 := Lib.hid (show Below w.heap.size w w2 from hBa.grown hgrow2 hBa.size (fun g hg => (World.ownsRow.lt a1 g hg).1))
            have HO2 := Lib.hid (show OwL w.heap.size w2 (.slice (some ⟨g2, 0, none⟩) (ll + 1) cap2) (out ++ List.replicate (e + 1) d) from by
              rw [← rep_snoc]
              exact own_push (by rw [HLL.out]; exact hown2))
            clear a1 hown2 hgrow2 hat2 hlt2 hBa hB hBs
            go_wp2_with fail
            go_roundw
            case rel => exact ⟨dv, e + 1, rfl, HST, HO2, HB2⟩
            case measure => simp [intOf]; omega
          · have hri : ((r : Int) == 0) = false := by simp; omega
            have HFN := Lib.hid (FS_next HF'.out (hSP.out.fin (q := d) (by rw [hr]; exact hr0)))
            have hlo : (out ++ List.replicate e d).length ≤ 10 * (d + 1) := by simp; omega
            clear hSP hr hdv hdiv HF'
            go_wp2_with fail
            refine (HPC.out _).mono ?_
            rintro e' w1 ⟨rfl, rfl⟩
            go_wp2_with fail
            go_roundw
            case rel => exact ⟨m', d + 1, _, rfl, by go_num, hm3.1, hm3.2.1, by omega, by omega, hlo, HFN, hO, hB⟩
            case measure => simp [intOf]; omega
    · obtain rfl : d = 8 := by omega
      have hdi : ¬ ((8 : Nat) : Int) ≤ 7 := by decide
      have HR := Lib.hid (show ∀ v, OwL w.heap.size wr v out → FSR R w (.returned (.tuple #[v, .bool ((m : Int) == 1)])) wr from fun v h => by
        have hf := hF.out
        have h8 : dsF 8 = [] := rfl
        rw [h8, facS] at hf
        simp only [List.append_nil] at hf
        refine ⟨v, ?_, by rw [← hf.1]; exact h, hB.out⟩
        rw [← hf.2, show ((m : Int) == 1) = (m == 1) from by rw [Bool.eq_iff_iff]; simp; omega])
      have HRR := Lib.hid (HR.out _ hO.out)
      clear hO hB HR hF
      go_wp2_with fail
      exact bodyPost_ret (v := .tuple #[u4, .bool ((m : Int) == 1)]) (by simp [results, Try.results24, go_sem]) rfl HRR.out
end Go.Proofs.Ytabeedimnbkcgaa.CyH
