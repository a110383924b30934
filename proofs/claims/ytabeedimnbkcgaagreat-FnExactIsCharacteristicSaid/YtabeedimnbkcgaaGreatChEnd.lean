import Derived.Test.YtabeedimnbkcgaaGreatChSeq
import Derived.Test.YtabeedimnbkcgaaGreatOrbAC
/-
  Plain: what is the sequence of a subgroup, what is a characteristic one, by the numbers that are given; one answer. No program in sight.
-/
namespace Go.Proofs.YtabeedimnbkcgaaGreat.ChV
open Go.RowKit Go.Proofs.YtabeedimnbkcgaaGreat Go.Proofs.YtabeedimnbkcgaaGreat.Tow Go.Proofs.YtabeedimnbkcgaaGreat.Val Go.Proofs.YtabeedimnbkcgaaGreat.Grps Go.Proofs.YtabeedimnbkcgaaGreat.NumT Go.Proofs.YtabeedimnbkcgaaGreat.Gen Go.Proofs.YtabeedimnbkcgaaGreat.GenC Go.Proofs.YtabeedimnbkcgaaGreat.GenL Go.Proofs.YtabeedimnbkcgaaGreat.ChP Go.Proofs.YtabeedimnbkcgaaGreat.OrbC
set_option linter.unusedVariables false
set_option linter.unusedSimpArgs false

theorem El_tail' {T : Tw} {x : List Nat} (h : El T x) : TailV (ofTw T).os 0 (ints x) := by
  refine ⟨by rw [ints_length, ofTw_os, El_length h], fun j y q hy hq => ?_⟩
  rw [ints_get, Option.map_eq_some_iff] at hy
  obtain ⟨a, ha, rfl⟩ := hy
  obtain ⟨L, hL, hlt⟩ := El_lt h ha
  rw [ofTw_os_get T j L hL] at hq
  cases hq
  exact ⟨by simp, by simp; omega, fun h => absurd h (Nat.not_lt_zero _)⟩
/-- the sequence of a subgroup -/
def SubV (P : Pres) (l : List (List Int)) : Prop := Grp P ∧ ∃ T rows, P = ofTw T ∧ l = rows.map ints ∧ CanL T rows rows
/-- each automorphism maps the sequence into the subgroup -/
def Chr (T : Tw) (rows : List (List Nat)) : Prop := ∀ f ∈ Grow.grow T T T.length [], ∀ u ∈ rows, Gen (mul T) (Tow.one T) rows (prodL (mul T) (Tow.one T) (f.map (at_ T)) u)
def ChaV (P : Pres) (l : List (List Int)) (b : Bool) (k : Int) : Prop :=
  (¬ SubV P l ∧ b = false ∧ k = 1) ∨ (SubV P l ∧ ∃ T rows, P = ofTw T ∧ l = rows.map ints ∧ ((27 < sz T ∧ b = false ∧ k = 3) ∨ (sz T ≤ 27 ∧ k = 0 ∧ (b = true ↔ Chr T rows))))
theorem rows_inj {a b : List (List Nat)} (h : a.map ints = b.map ints) : a = b := by
  induction a generalizing b with
  | nil => cases b with
    | nil => rfl
    | cons y b => simp at h
  | cons x a ih => cases b with
    | nil => simp at h
    | cons y b =>
      simp only [List.map_cons, List.cons.injEq] at h
      rw [TowD.ints_inj.1 h.1, ih h.2]
theorem cha_one {P : Pres} {l : List (List Int)} {b b' : Bool} {k k' : Int} (h : ChaV P l b k) (h' : ChaV P l b' k') : b' = b ∧ k' = k := by
  rcases h with ⟨h, rfl, rfl⟩ | ⟨h, T, rows, rfl, rfl, h1⟩
  · rcases h' with ⟨_, rfl, rfl⟩ | ⟨h', _⟩
    · exact ⟨rfl, rfl⟩
    · exact absurd h' h
  · rcases h' with ⟨h', _⟩ | ⟨_, T', rows', hT, hr, h2⟩
    · exact absurd h h'
    · obtain rfl := Grps.ofTw_inj hT
      obtain rfl := rows_inj hr
      rcases h1 with ⟨h3, rfl, rfl⟩ | ⟨h3, rfl, h4⟩ <;> rcases h2 with ⟨h5, rfl, rfl⟩ | ⟨h5, rfl, h6⟩
      · exact ⟨rfl, rfl⟩
      · omega
      · omega
      · refine ⟨?_, rfl⟩
        have := h4.trans h6.symm
        cases b <;> cases b' <;> simp_all
theorem SubV.len {T : Tw} {l : List (List Int)} (h : SubV (ofTw T) l) : l.length ≤ T.length := by
  obtain ⟨_, T', rows, hT, rfl, hc⟩ := h
  obtain rfl := Grps.ofTw_inj hT
  rw [List.length_map]
  exact hc.le
theorem SubV.row {P : Pres} {l : List (List Int)} (h : SubV P l) : ∀ r ∈ l, TailV P.os 0 r := by
  obtain ⟨_, T', rows, rfl, rfl, hc⟩ := h
  intro r hr
  obtain ⟨x, hx, rfl⟩ := List.mem_map.1 hr
  exact El_tail' (hc.el x hx)
theorem SubV.iff {T : Tw} (hT : Wf T) (hg : Tow.Good T) (hG : Grp (ofTw T)) {rows us : List (List Nat)} (hc : CanL T rows us) : SubV (ofTw T) (rows.map ints) ↔ us = rows := by
  constructor
  · rintro ⟨_, T', rows', hT', hr, h'⟩
    obtain rfl := Grps.ofTw_inj hT'
    obtain rfl := rows_inj hr
    exact hc.uniq hT hg h'
  · rintro rfl
    exact ⟨hG, T, us, rfl, rfl, hc⟩
theorem SubV.can {T : Tw} {rows : List (List Nat)} (h : SubV (ofTw T) (rows.map ints)) : CanL T rows rows := by
  obtain ⟨_, T', rows', hT', hr, h'⟩ := h
  obtain rfl := Grps.ofTw_inj hT'
  obtain rfl := rows_inj hr
  exact h'
theorem rows_of {T : Tw} : ∀ {l : List (List Int)}, (∀ r ∈ l, TailV (ofTw T).os 0 r) → ∃ rows : List (List Nat), l = rows.map ints ∧ ∀ u ∈ rows, El T u
  | [], _ => ⟨[], rfl, fun u hu => by simp at hu⟩
  | r :: l, h => by
    obtain ⟨x, hx, hE⟩ := el_of (h r List.mem_cons_self)
    obtain ⟨rows, hr, hE'⟩ := rows_of (l := l) (fun r hr => h r (List.mem_cons_of_mem _ hr))
    exact ⟨x :: rows, by rw [List.map_cons, hx, hr], fun u hu => by
      rcases List.mem_cons.1 hu with rfl | hu
      · exact hE
      · exact hE' u hu⟩
theorem img_El {T : Tw} (hT : Wf T) {f x : List Nat} : El T (prodL (mul T) (Tow.one T) (f.map (at_ T)) x) := by
  refine prodL_inv (El T) (mul T) (fun x y hx hy => El_mul hT hx hy) _ (fun c hc => ?_) x (Tow.one T) (El_one hT)
  obtain ⟨k, _, rfl⟩ := List.mem_map.1 hc
  exact at_El hT k
theorem usF_full {α : Type} {t : Nat → Option α} : ∀ {k d : Nat}, (usF t k d).length = k → ∀ j, d ≤ j → j < d + k → t j ≠ none
  | 0, d, _, j, h1, h2 => by omega
  | k + 1, d, h, j, h1, h2 => by
    have hle := usF_le t k (d + 1)
    rw [usF] at h
    cases ht : t d with
    | none => rw [ht] at h; simp only at h; omega
    | some y =>
      rw [ht] at h
      rw [List.length_cons] at h
      rcases Nat.lt_or_ge d j with h3 | h3
      · exact usF_full (k := k) (d := d + 1) (by omega) j (by omega) (by omega)
      · obtain rfl : j = d := by omega
        rw [ht]; simp
/-- as many as the group has: all of it -/
theorem full_gen {T : Tw} (hT : Wf T) (hg : Tow.Good T) {im us : List (List Nat)} (h : CanL T im us) (hl : us.length = T.length) {x : List Nat} (hx : El T x) : Gen (mul T) (Tow.one T) im x := by
  obtain ⟨t, t2, h1, h2, rfl⟩ := h
  have F := fil hT hg
  obtain ⟨s, h3, h4, h5⟩ := GenM.rep_spec hT hg h1 T.length 0 (by omega) (Cf.cfp h2 0).w x hx
  refine (has_iff F h1 hx h3 h5).1 (F.ze (F.G.cl hx h3.1.1) fun j hj => h5 j (Nat.zero_le _) hj fun hn => ?_)
  exact usF_full hl j (Nat.zero_le _) (by omega) ((h2 j).1 hn)
theorem chr_full {T : Tw} (hT : Wf T) (hg : Tow.Good T) {rows : List (List Nat)} (h : CanL T rows rows) (hl : rows.length = T.length) : Chr T rows := fun f _ u _ => full_gen hT hg h hl (img_El hT)
end Go.Proofs.YtabeedimnbkcgaaGreat.ChV

/-
  impl.sameRows, impl.areSubgroups, impl.isMember, impl.IsCharacteristic.
-/
namespace Go.Proofs.YtabeedimnbkcgaaGreat.ChX
open Go.RowKit Go.Proofs.YtabeedimnbkcgaaGreat Go.Proofs.YtabeedimnbkcgaaGreat.Tow Go.Proofs.YtabeedimnbkcgaaGreat.Val Go.Proofs.YtabeedimnbkcgaaGreat.Grps Go.Proofs.YtabeedimnbkcgaaGreat.NumT Go.Proofs.YtabeedimnbkcgaaGreat.Gen Go.Proofs.YtabeedimnbkcgaaGreat.GenC Go.Proofs.YtabeedimnbkcgaaGreat.GenL Go.Proofs.YtabeedimnbkcgaaGreat.ImplD Go.Proofs.YtabeedimnbkcgaaGreat.LawE Go.Proofs.YtabeedimnbkcgaaGreat.LawF Go.Proofs.YtabeedimnbkcgaaGreat.FindA Go.Proofs.YtabeedimnbkcgaaGreat.FindB Go.Proofs.YtabeedimnbkcgaaGreat.FindD Go.Proofs.YtabeedimnbkcgaaGreat.Elt Go.Proofs.YtabeedimnbkcgaaGreat.OrbC Go.Proofs.YtabeedimnbkcgaaGreat.ChA Go.Proofs.YtabeedimnbkcgaaGreat.ChP Go.Proofs.YtabeedimnbkcgaaGreat.ChV Go.Proofs.YtabeedimnbkcgaaGreat.ChD Go.Proofs.YtabeedimnbkcgaaGreat.ChS Go.Proofs.YtabeedimnbkcgaaGreat.ChU Go.Proofs.YtabeedimnbkcgaaGreat.ChW
set_option linter.unusedVariables false
set_option linter.unusedSimpArgs false

set_option maxRecDepth 100000 in
set_option maxHeartbeats 2000000 in
theorem eqf_any (w : World) (va vb : Value) (a b : List (List Int)) (ha : Sl2 Any w va a) (hb : Sl2 Any w vb b) :
    Calls Tryz.prog 148 #[va, vb, .func (.func 149) #[] #[]] w (YesR (a = b) w) := by
  obtain ⟨aA, cA, rfl, hlA, hmA⟩ := SlG.form ha
  obtain ⟨aB, cB, rfl, hlB, hmB⟩ := SlG.form hb
  unfold maxLen at hmA hmB
  obtain ⟨n, hn⟩ : ∃ n, a.length = n := ⟨_, rfl⟩
  have HA := Lib.hid ha
  have HB := Lib.hid hb
  have HN := Lib.hid hn
  have HEQ := Lib.hid (fun W u v x y (h1 : SlI Any W u x) (h2 : SlI Any W v y) => ImplG.equal_any W u v x y h1 h2)
  rw [hn] at HA hlA ⊢
  have hn63 : (n : Int) ≤ 9223372036854775807 := by omega
  obtain ⟨n', hn'⟩ : ∃ n', b.length = n' := ⟨_, rfl⟩
  have HN' := Lib.hid hn'
  rw [hn'] at HB hlB ⊢
  clear ha hb hn hn' hmA hmB hlA hlB
  by_cases hl : n = n'
  · subst hl
    have hl2 : ((n : Int) != (n : Int)) = false := by simp
    go_enter Tryz.func148, Tryz.ntmps148
    go_wp2_with fail
    go_loopw [17] (fun iv wr => ∃ k : Nat, k ≤ n ∧ iv = .int .i64 (k : Int) ∧ Hid (∀ j, j < k → a[j]? = b[j]?) ∧ Hid (Below w.heap.size w wr)) (fun iv _ => n - (intOf iv).toNat)
    case atStart => exact ⟨0, Nat.zero_le _, rfl, Lib.hid (fun j h => absurd h (Nat.not_lt_zero _)), Lib.hid (Below.refl _ _)⟩
    case round =>
      obtain ⟨k, hk, rfl, hR, hB⟩ := hrel
      by_cases hlt : k < n
      · obtain ⟨x, hx⟩ : ∃ x, a[k]? = some x := ⟨_, List.getElem?_eq_getElem (by rw [HN.out]; omega)⟩
        obtain ⟨y, hy⟩ : ∃ y, b[k]? = some y := ⟨_, List.getElem?_eq_getElem (by rw [HN'.out]; omega)⟩
        obtain ⟨bA, oA, u, rfl, _, hbA, hcA, hu⟩ := SlG.get HA.out hx
        obtain ⟨bB, oB, v, rfl, _, hbB, hcB, hv⟩ := SlG.get HB.out hy
        have hkB := Keep.of_below (S := Any) hB.out
        have hcA' := (hkB.cell (b := bA) (o := oA + k) trivial hbA).trans hcA
        have hcB' := (hkB.cell (b := bB) (o := oB + k) trivial hbB).trans hcB
        have hbA' := Nat.lt_of_lt_of_le hbA hkB.size
        have hbB' := Nat.lt_of_lt_of_le hbB hkB.size
        have HEC := Lib.hid (HEQ.out wr u v x y (SlI.keep hu hkB) (SlI.keep hv hkB))
        have HX := Lib.hid hx
        have HY := Lib.hid hy
        have hki : (k : Int) < (n : Int) := by omega
        clear hx hy hcA hcB hu hv hkB
        go_wp2_with fail
        refine HEC.out.mono ?_
        rintro e w2 ⟨rfl, hq⟩
        have HB2 := Lib.hid (hB.out.trans ((bel_drawn (Below.refl wr.heap.size wr) hq).mono hB.out.size))
        clear hq HEC
        by_cases hxy : x = y
        · have h2 : decide (x = y) = true := by simpa using hxy
          have HNN := Lib.hid (show ∀ j, j < k + 1 → a[j]? = b[j]? from fun j hj => by
            rcases Nat.lt_succ_iff_lt_or_eq.1 hj with h | h
            · exact hR.out j h
            · subst h; rw [HX.out, HY.out, hxy])
          clear hxy hR hB
          go_wp2_with fail
          go_roundw
          case rel => exact ⟨k + 1, by omega, by go_num, HNN, HB2⟩
          case measure => simp [intOf]; omega
        · have h2 : decide (x = y) = false := by simpa using hxy
          have HR := Lib.hid (show YesR (a = b) w (.returned (.bool false)) w2 from YesR.f (fun e => hxy (by
            have h1 := HX.out
            rw [e, HY.out] at h1
            exact (Option.some.inj h1).symm)) HB2.out)
          clear hxy hR hB
          go_wp2_with fail
          go_ret
          exact HR.out
      · obtain rfl : k = n := by omega
        have HR := Lib.hid (show YesR (a = b) w (.returned (.bool true)) wr from YesR.t (List.ext_getElem? fun j => by
          by_cases hj : j < k
          · exact hR.out j hj
          · rw [List.getElem?_eq_none (by rw [HN.out]; omega), List.getElem?_eq_none (by rw [HN'.out]; omega)]) hB.out)
        clear hR hB
        go_wp2_with fail
        go_ret
        exact HR.out
  · have hl2 : ((n : Int) != (n' : Int)) = true := by simp; omega
    have HR := Lib.hid (show YesR (a = b) w (.returned (.bool false)) w from YesR.f (fun e => hl (by rw [← HN.out, ← HN'.out, e])) (Below.refl _ _))
    clear hl
    go_enter Tryz.func148, Tryz.ntmps148
    go_wp2_with fail
    go_ret
    exact HR.out
theorem sameRows_any (w : World) (va vb : Value) (a b : List (List Int)) (ha : Sl2 Any w va a) (hb : Sl2 Any w vb b) :
    Calls Tryz.prog 106 #[va, vb] w (YesR (a = b) w) := by
  have HC := Lib.hid (eqf_any w va vb a b ha hb)
  clear ha hb
  go_enter Tryz.func106, Tryz.ntmps106
  go_wp2_with fail
  refine HC.out.mono ?_
  rintro e w1 ⟨r, rfl, hr, hb⟩
  have HR := Lib.hid (show YesR (a = b) w (.returned (.bool r)) w1 from ⟨r, rfl, hr, hb⟩)
  clear hr hb HC
  go_wp2_with fail
  go_ret
  exact HR.out

theorem CanL.led {T : Tw} {im us : List (List Nat)} (h : CanL T im us) : Led T us := by
  obtain ⟨t, t2, h1, h2, rfl⟩ := h
  intro u hu
  obtain ⟨j, h3, h4, h5⟩ := usF_mem hu
  obtain ⟨h6, h7, _⟩ := CfP.row (Cf.cfp h2 0) (Nat.zero_le _) h5
  have hd := GenM.dep_of h6.1 (by omega) (show j < T.length by omega)
  exact ⟨h6.1.1, by omega, by rw [hd]; exact h7⟩
theorem isMember_any (T : Tw) (hT : Wf T) (hs : Small T) (hg : Tow.Good T) (w : World) (b o : Nat) (vu vx : Value) (us : List (List Nat)) (x : List Nat) (hc : CanL T us us) (hP : PtrP Any w b o (ofTw T)) (hu : Sl2 Any w vu (us.map ints)) (hx : SlI Any w vx (ints x)) (hn : NN vx) (hE : El T x) :
    Calls Tryz.prog 76 #[.pointer (some ⟨b, o, none⟩), vu, vx] w (YesR (Gen.Gen (mul T) (Tow.one T) us x) w) := by
  have HC := Lib.hid (rep_any T hT hs hg w b o vu vx us x hP hu (Nat.le_trans hc.le hs.1) hx hn hE (CanL.led hc))
  have HRE := Lib.hid (GenM.rep_El hT hg us hc.el hE)
  have HG := Lib.hid (hc.rep hT hg hE)
  have HONE := Lib.hid (GenM.dep_one hT HRE.out)
  have hs6 := hs.1
  have HZ := Lib.hid (fun W v h => isZero_any W v (GenM.rep T us x) h (by rw [El_length HRE.out]; omega))
  clear hc hP hu hx hn hE hT hs hg
  go_enter Tryz.func76, Tryz.ntmps76
  go_wp2_with fail
  refine HC.out.mono ?_
  rintro e w1 ⟨g, c, rfl, ho, hb⟩
  have HB := Lib.hid hb
  have HZC := Lib.hid (HZ.out w1 _ (ho.sl.mono (fun _ _ => trivial)))
  clear ho hb HC HZ
  go_wp2_with fail
  refine HZC.out.mono ?_
  rintro e w2 ⟨r, rfl, hr, rfl⟩
  have HR := Lib.hid (show YesR (Gen.Gen (mul T) (Tow.one T) us x) w (.returned (.bool r)) w1 from ⟨r, rfl, hr.trans (HONE.out.trans HG.out), HB.out⟩)
  clear hr HZC
  go_wp2_with fail
  go_ret
  exact HR.out

set_option maxRecDepth 100000 in
set_option maxHeartbeats 4000000 in
theorem areSub_any (w : World) (b o g : Nat) (P : Pres) (vu : Value) (l : List (List Int)) (hP : PtrP Any w b o P) (hg : g < w.heap.size) (hc : w.cell? ⟨g, 0, none⟩ = some vu) (hu : Sl2 Any w vu l) :
    Calls Tryz.prog 75 #[.pointer (some ⟨b, o, none⟩), .slice (some ⟨g, 0, none⟩) 1 1] w (YesR (SubV P l) w) := by
  have HP := Lib.hid hP
  have HU := Lib.hid hu
  obtain ⟨aU, cU, rfl, hlU, hmU⟩ := SlG.form hu
  obtain ⟨_, hPb, vO, vP, vC, p0, p1, p2, hv⟩ := hP
  have HGC := Lib.hid (ImplI.group_any w vO vP vC P hv)
  obtain ⟨n, hn⟩ : ∃ n, l.length = n := ⟨_, rfl⟩
  have HNL := Lib.hid hn
  rw [hn] at HU hlU hc
  have hn63 : (n : Int) ≤ 9223372036854775807 := by unfold maxLen at hmU; omega
  have HCC := Lib.hid hc
  clear hu hv hn hmU hlU
  go_enter Tryz.func75, Tryz.ntmps75
  go_wp2_with fail
  refine HGC.out.mono ?_
  rintro e w1 ⟨r, rfl, hr, hb1⟩
  have HB1 := Lib.hid hb1
  clear hb1 HGC p0 p1 p2 hc
  by_cases hG : Grp P
  · obtain rfl : r = true := hr.2 hG
    obtain ⟨T, hTE⟩ : ∃ T, P = ofTw T := by obtain ⟨T, _, _, h, _⟩ := hG; exact ⟨T, h⟩
    subst hTE
    obtain ⟨hT, hsT, hgT, hpT⟩ := SpecX.grp_parts hG
    have hs6 := hsT.1
    have HPRM := Lib.hid (grp_pr hG)
    have HSL := Lib.hid (fun h => SubV.len (T := T) (l := l) h)
    have HSR := Lib.hid (fun h => SubV.row (P := ofTw T) (l := l) h)
    have HIFF := Lib.hid (fun rows us h => SubV.iff hT hgT hG (rows := rows) (us := us) h)
    have HGEN := Lib.hid (fun W vl im h1 h2 h3 h4 => gen_any T hT hsT hgT hpT W b o vl im h1 h2 h3 h4)
    clear hr hG hT hsT hgT hpT
    go_wp2_with fail
    go_loopw [16] (fun iv wr => ∃ i : Nat, i ≤ 1 ∧ iv = .int .i64 (i : Int) ∧ Hid (i = 1 → SubV (ofTw T) l) ∧ Hid (Below w.heap.size w wr)) (fun iv _ => 1 - (intOf iv).toNat)
    case atStart => exact ⟨0, Nat.zero_le _, rfl, Lib.hid (fun h => absurd h (by omega)), HB1⟩
    case round =>
      obtain ⟨i, hi, rfl, hS, hB⟩ := hrel
      have hkB := Keep.of_below (S := Any) hB.out
      by_cases hi0 : i = 0
      · have HI0 := Lib.hid hi0
        have hcg : wr.cell? ⟨g, i, none⟩ = some (.slice aU n cU) := by rw [hi0]; exact (hkB.cell (b := g) (o := 0) trivial hg).trans HCC.out
        have hii : (i : Int) < (1 : Int) := by omega
        have hii0 : (0 : Int) ≤ (i : Int) := by omega
        have hin : i < 1 := by omega
        clear hi0
        have hgw : g < wr.heap.size := Nat.lt_of_lt_of_le hg hkB.size
        obtain ⟨-, hPb', vO', vP', vC', p0, p1, p2, hv⟩ := HP.out.keep hkB
        obtain ⟨aO, cO, aP, cP, aC, cC, rfl, rfl, rfl, -, -, -⟩ := hv.open
        have HUr := Lib.hid (Sl2.keep HU.out hkB)
        by_cases hlen : T.length < n
        · have hd : decide ((n : Int) > (T.length : Int)) = true := by simp; omega
          have HR := Lib.hid (show YesR (SubV (ofTw T) l) w (.returned (.bool false)) wr from YesR.f (fun h => by have h1 := HSL.out h; rw [HNL.out] at h1; omega) hB.out)
          clear hv hkB hS hB
          go_wp2_with fail
          go_ret
          exact HR.out
        · have hd : decide ((n : Int) > (T.length : Int)) = false := by simp; omega
          clear hv hkB hS
          go_wp2_with fail
          go_loopw [30] (fun jv wi => ∃ j : Nat, j ≤ n ∧ jv = .int .i64 (j : Int) ∧ Hid (∀ k r, k < j → l[k]? = some r → TailV (ofTw T).os 0 r) ∧ Hid (Below w.heap.size w wi)) (fun jv _ => n - (intOf jv).toNat)
          case atStart => exact ⟨0, Nat.zero_le _, rfl, Lib.hid (fun k r h => absurd h (Nat.not_lt_zero _)), hB⟩
          case round =>
            clear hB hcg hgw hPb' p0 p1 p2 HUr
            obtain ⟨j, hj, rfl, hR, hB⟩ := hrel
            have hkB := Keep.of_below (S := Any) hB.out
            by_cases hlt : j < n
            · obtain ⟨x, hx⟩ : ∃ x, l[j]? = some x := ⟨_, List.getElem?_eq_getElem (by rw [HNL.out]; omega)⟩
              obtain ⟨bU, oU, u, rfl, _, hbU, hcU, hu⟩ := SlG.get HU.out hx
              have hcU' := (hkB.cell (b := bU) (o := oU + j) trivial hbU).trans hcU
              have hbU' := Nat.lt_of_lt_of_le hbU hkB.size
              have HXC := Lib.hid (ImplV.isExponents_any _ b o (ofTw T) u x (HP.out.keep hkB) (SlI.keep hu hkB) HPRM.out)
              have HX := Lib.hid hx
              have hji : (j : Int) < (n : Int) := by omega
              clear hx hcU hu hkB
              go_wp2_with fail
              refine HXC.out.mono ?_
              rintro e w3 ⟨r, rfl, hr, rfl⟩
              cases r with
              | false =>
                have HRR := Lib.hid (show YesR (SubV (ofTw T) l) w (.returned (.bool false)) _ from YesR.f (fun h => Bool.noConfusion (hr.2 (HSR.out h x (List.mem_of_getElem? HX.out)))) hB.out)
                clear hr HXC hR hB
                go_wp2_with fail
                go_ret
                exact HRR.out
              | true =>
                have HN := Lib.hid (show ∀ k r, k < j + 1 → l[k]? = some r → TailV (ofTw T).os 0 r from fun k r hk hr' => by
                  rcases Nat.lt_succ_iff_lt_or_eq.1 hk with h | h
                  · exact hR.out k r h hr'
                  · subst h
                    rw [HX.out] at hr'
                    injection hr' with hr'
                    rw [← hr']; exact hr.1 rfl)
                clear hr HXC hR
                go_wp2_with fail
                go_roundw
                case rel => exact ⟨j + 1, by omega, by go_num, HN, hB⟩
                case measure => simp [intOf]; omega
            · obtain rfl : j = n := by omega
              obtain ⟨rows, hrows, hrE⟩ := rows_of (T := T) (l := l) (fun r hr => by
                obtain ⟨k, hk⟩ := List.getElem?_of_mem hr
                exact hR.out k r (by have := (List.getElem?_eq_some_iff.1 hk).1; rw [HNL.out] at this; exact this) hk)
              have HUr := Lib.hid (Sl2.keep HU.out hkB)
              have HGC := Lib.hid (HGEN.out _ (.slice aU j cU) rows (HP.out.keep hkB) (by rw [← hrows]; exact HUr.out) hrE (by
                have : rows.length = j := by rw [← HNL.out, hrows, List.length_map]
                omega))
              have HRW := Lib.hid hrows
              clear hrows hrE hkB hR
              go_wp2_with fail
              refine HGC.out.mono ?_
              rintro e w3 ⟨v3, us, rfl, hcan, hsl, hb3⟩
              have HB3 := Lib.hid (hB.out.trans (hb3.mono hB.out.size))
              have HCAN := Lib.hid hcan
              have HSC := Lib.hid (sameRows_any w3 v3 (.slice aU j cU) (us.map ints) l hsl (Sl2.keep HUr.out (Keep.of_below hb3)))
              clear hcan hsl hb3 HGC hB HUr
              go_wp2_with fail
              refine HSC.out.mono ?_
              rintro e w4 ⟨r, rfl, hr, hb4⟩
              have HB4 := Lib.hid (HB3.out.trans (hb4.mono HB3.out.size))
              have HI := Lib.hid (show SubV (ofTw T) l ↔ us.map ints = l from by
                have h := HIFF.out rows us HCAN.out
                rw [HRW.out, h]
                exact ⟨fun h => by rw [h], fun h => rows_inj h⟩)
              clear hb4 HSC
              cases r with
              | false =>
                have HRR := Lib.hid (show YesR (SubV (ofTw T) l) w (.returned (.bool false)) w4 from YesR.f (fun h => Bool.noConfusion (hr.2 (HI.out.1 h))) HB4.out)
                clear hr
                go_wp2_with fail
                go_ret
                exact HRR.out
              | true =>
                have HN := Lib.hid (show SubV (ofTw T) l from HI.out.2 (hr.1 rfl))
                clear hr
                go_wp2_with fail
                go_roundw
                case rel => exact ⟨i + 1, by omega, by go_num, Lib.hid (fun _ => HN.out), HB4⟩
                case measure => simp [intOf]; omega
      · obtain rfl : i = 1 := by omega
        have HR := Lib.hid (show YesR (SubV (ofTw T) l) w (.returned (.bool true)) wr from YesR.t (hS.out rfl) hB.out)
        clear hS hB hkB
        go_wp2_with fail
        go_ret
        exact HR.out
  · obtain rfl : r = false := by
      cases r with
      | false => rfl
      | true => exact absurd (hr.1 rfl) hG
    have HR := Lib.hid (show YesR (SubV P l) w (.returned (.bool false)) w1 from YesR.f (fun h => hG h.1) HB1.out)
    clear hr hG
    go_wp2_with fail
    go_ret
    exact HR.out
end Go.Proofs.YtabeedimnbkcgaaGreat.ChX

/-
  impl.IsCharacteristic.
-/
namespace Go.Proofs.YtabeedimnbkcgaaGreat.ChY
open Go.RowKit Go.Proofs.YtabeedimnbkcgaaGreat Go.Proofs.YtabeedimnbkcgaaGreat.Tow Go.Proofs.YtabeedimnbkcgaaGreat.Val Go.Proofs.YtabeedimnbkcgaaGreat.Grps Go.Proofs.YtabeedimnbkcgaaGreat.NumT Go.Proofs.YtabeedimnbkcgaaGreat.Gen Go.Proofs.YtabeedimnbkcgaaGreat.GenC Go.Proofs.YtabeedimnbkcgaaGreat.GenL Go.Proofs.YtabeedimnbkcgaaGreat.ImplD Go.Proofs.YtabeedimnbkcgaaGreat.LawE Go.Proofs.YtabeedimnbkcgaaGreat.LawF Go.Proofs.YtabeedimnbkcgaaGreat.FindA Go.Proofs.YtabeedimnbkcgaaGreat.FindB Go.Proofs.YtabeedimnbkcgaaGreat.FindD Go.Proofs.YtabeedimnbkcgaaGreat.Elt Go.Proofs.YtabeedimnbkcgaaGreat.OrbC Go.Proofs.YtabeedimnbkcgaaGreat.ChP Go.Proofs.YtabeedimnbkcgaaGreat.ChV Go.Proofs.YtabeedimnbkcgaaGreat.ChX
set_option linter.unusedVariables false
set_option linter.unusedSimpArgs false

def IChaR (P : Pres) (l : List (List Int)) (w : World) (e : Ending) (w' : World) : Prop := ∃ (b : Bool) (k : Int), e = .returned (.tuple #[.bool b, .int .i64 k]) ∧ ChaV P l b k ∧ Below w.heap.size w w'
/-- an image of the sequence is a member -/
abbrev ImM (T : Tw) (rows : List (List Nat)) (f u : List Nat) : Prop := Gen.Gen (mul T) (Tow.one T) rows (prodL (mul T) (Tow.one T) (f.map (at_ T)) u)

set_option maxRecDepth 100000 in
set_option maxHeartbeats 4000000 in
theorem impl_is (w : World) (vO vP vC vU : Value) (P : Pres) (l : List (List Int)) (hP : ValP Any w vO vP vC P) (hU : Sl2 Any w vU l) :
    Calls Tryz.prog 40 #[.agg #[vO, vP, vC], vU] w (IChaR P l w) := by
  obtain ⟨aU, cU, rfl, hlU, hmU⟩ := SlG.form hU
  obtain ⟨n, hn⟩ : ∃ n, l.length = n := ⟨_, rfl⟩
  have HNL := Lib.hid hn
  rw [hn] at hU hlU ⊢
  have hn63 : (n : Int) ≤ 9223372036854775807 := by unfold maxLen at hmU; omega
  obtain ⟨W0, hW0⟩ : ∃ W0, W0 = w.alloc (.cells #[vO, vP, vC] 30) := ⟨_, rfl⟩
  have HB0 := Lib.hid (show Below (w.heap.size + 1) (w.alloc (.cells #[vO, vP, vC] 30)) W0 by rw [hW0]; exact Below.refl _ _)
  obtain ⟨⟨e0, e1, e2⟩, hk, hbw, hs⟩ := bx1 HB0.out
  have HPT := Lib.hid (show PtrP Any W0 w.heap.size 0 P from ⟨trivial, by omega, _, _, _, e0, e1, e2, hP.keep hk⟩)
  have HU := Lib.hid (Sl2.keep hU hk)
  obtain ⟨W1, hW1⟩ : ∃ W1, W1 = W0.alloc (.cells #[.slice aU n cU] 23) := ⟨_, rfl⟩
  have hb1 : Below W0.heap.size W0 W1 := by rw [hW1]; exact (Below.refl _ _).alloc (Nat.le_refl _) _
  have HPT1 := Lib.hid (HPT.out.keep (Keep.of_below hb1))
  have HU1 := Lib.hid (Sl2.keep HU.out (Keep.of_below hb1))
  have HB1 := Lib.hid (HB0.out.trans (hb1.mono hs))
  have HAS := Lib.hid (areSub_any W1 w.heap.size 0 W0.heap.size P (.slice aU n cU) l HPT1.out (by rw [hW1]; simp) (by rw [hW1]; exact cell_of_row _ _ _ #[.slice aU n cU] _ (0, 0) (heap_alloc_new _ _)) HU1.out)
  clear e0 e1 e2 hk hbw hs hP hU hb1 hn hlU hmU
  go_enter Tryz.func40, Tryz.ntmps40
  go_upto_region 1 with fail
  rw [← hW0]
  clear hW0
  go_wp2_with fail
  rw [← hW1]
  clear hW1
  refine HAS.out.mono ?_
  rintro e w2 ⟨r, rfl, hr, hb2⟩
  have HB2 := Lib.hid (HB1.out.trans (hb2.mono (bx1 HB1.out).2.2.2))
  have HPT2 := Lib.hid (HPT1.out.keep (Keep.of_below hb2))
  have HU2 := Lib.hid (Sl2.keep HU1.out (Keep.of_below hb2))
  clear hb2 HAS HPT HPT1 HU HU1 HB0 HB1
  by_cases hE : SubV P l
  · obtain rfl : r = true := hr.2 hE
    have HE := Lib.hid hE
    have HC := Lib.hid (ImplY.isomorphisms_any w2 w.heap.size 0 w.heap.size 0 P P HPT2.out HPT2.out)
    clear hr hE
    go_wp2_with fail
    refine HC.out.mono ?_
    rintro e w3 ⟨v, k, rfl, hb3, h⟩
    have HB3 := Lib.hid (HB2.out.trans (hb3.mono (bx1 HB2.out).2.2.2))
    have HPT3 := Lib.hid (HPT2.out.keep (Keep.of_below hb3))
    have HU3 := Lib.hid (Sl2.keep HU2.out (Keep.of_below hb3))
    have HBW3 := Lib.hid (bx1 HB3.out).2.2.1
    clear hb3 HC HPT2 HU2 HB2
    rcases h with ⟨rfl, rfl, h⟩ | ⟨T, U, hTE, hUE, gP, -, h⟩
    · exact absurd ⟨HE.out.1, HE.out.1⟩ h
    subst hTE
    obtain rfl : T = U := Grps.ofTw_inj hUE
    clear hUE
    obtain ⟨rows, hrows⟩ : ∃ rows : List (List Nat), l = rows.map ints := by obtain ⟨_, _, rows, _, h, _⟩ := HE.out; exact ⟨rows, h⟩
    subst hrows
    have HCAN := Lib.hid HE.out.can
    rcases h with ⟨rfl, rfl, h⟩ | ⟨rfl, rfl, h1, h2, h3⟩ | ⟨rfl, h1, h2, F, hperm, hasc, ho⟩
    · have HR := Lib.hid (show IChaR (ofTw T) (rows.map ints) w (.returned (.tuple #[.bool false, .int .i64 3])) w3 from ⟨_, 3, rfl, .inr ⟨HE.out, T, rows, rfl, rfl, .inl ⟨by omega, rfl, rfl⟩⟩, HBW3.out⟩)
      clear h gP
      go_wp2_with fail
      exact bodyPost_ret (v := .tuple #[.bool false, .int .i64 3]) (by simp [results, Tryz.results40, go_sem]) rfl HR.out
    · exact absurd rfl h3
    · obtain ⟨hT, hsT, hgT, hpT⟩ := SpecX.grp_parts gP
      obtain ⟨aF, cF, rfl, hlF, hmF⟩ := ho.form
      have hT6 := hsT.1
      have hF9 : F.length ≤ 1000000000 := by
        have h6 : 27 ^ T.length ≤ 27 ^ 6 := Nat.pow_le_pow_right (by omega) hsT.1
        have hgl := Grow.grow_length T T h2 T.length []
        rw [hperm.length_eq]
        omega
      have HFR := Lib.hid (show ∀ f ∈ F, f.length = T.length ∧ ∀ q ∈ f, q < sz T from fun f hf => ⟨by simpa using ImplY.grow_rows _ _ _ (hperm.mem_iff.1 hf), FindB.grow_lt hT _ _ (by simp) f (hperm.mem_iff.1 hf)⟩)
      have HEL := Lib.hid (fun W u (f : List Nat) (hp : PtrP Any W w.heap.size 0 (ofTw T)) (hu : SlI Any W u (ints f)) (hf : f.length = T.length) (hq : ∀ q ∈ f, q < sz T) => elementsAt_any T hT hsT.1 (by omega) W w.heap.size 0 hp u f hu (by have := hsT.1; omega) (fun q h => by have := hq q h; omega))
      have HAP := Lib.hid (fun W u vx (f x : List Nat) (hp : PtrP Any W w.heap.size 0 (ofTw T)) (hu : Sl2 Any W u (f.map fun q => ints (at_ T q))) (hx : SlI Any W vx (ints x)) (hf : f.length = T.length) (hxE : El T x) => OrbA.apply_any T hT hsT hgT W w.heap.size 0 hp u vx (f.map (at_ T)) x (by rw [List.map_map]; exact hu) hx (fun c hc => by obtain ⟨i, _, rfl⟩ := List.mem_map.1 hc; exact at_El hT i) (by rw [List.length_map]; have := El_length hxE; omega) (by have := hsT.1; have := El_length hxE; omega) (fun a ha => by
        obtain ⟨j, hj⟩ := List.getElem?_of_mem ha
        have := hsT.lt (s := 0) (x := x) hxE (Nat.zero_le _) hj
        omega))
      have HIM := Lib.hid (fun W vu vx x hp hu hx hn hxE => isMember_any T hT hsT hgT W w.heap.size 0 vu vx rows x HCAN.out hp hu hx hn hxE)
      have HIE := Lib.hid (fun f x : List Nat => show El T (prodL (mul T) (Tow.one T) (f.map (at_ T)) x) from img_El hT)
      have HRE := Lib.hid HCAN.out.el
      have HCH := Lib.hid (show ∀ b : Bool, (b = true ↔ Chr T rows) → ChaV (ofTw T) (rows.map ints) b 0 from fun b hb => .inr ⟨HE.out, T, rows, rfl, rfl, .inr ⟨h2, rfl, hb⟩⟩)
      have HPM := Lib.hid hperm
      have HO := Lib.hid ho
      have HNR := Lib.hid (show rows.length = n by have := HNL.out; rwa [List.length_map] at this)
      have HDP := Lib.hid HCAN.out.dep
      obtain ⟨mF, hmf⟩ : ∃ mF, F.length = mF := ⟨_, rfl⟩
      have HMF := Lib.hid hmf
      rw [hmf] at HO hF9 ⊢
      clear hT hsT hgT hpT ho hperm hasc gP h1 h2 hlF hmF hmf
      go_wp2_with fail
      go_loopw [26] (fun iv wr => ∃ i : Nat, i ≤ mF ∧ iv = .int .i64 (i : Int) ∧ Hid (∀ k f, k < i → F[k]? = some f → ∀ u ∈ rows, ImM T rows f u) ∧ Hid (Below w3.heap.size w3 wr)) (fun iv _ => mF - (intOf iv).toNat)
      case atStart => exact ⟨0, Nat.zero_le _, rfl, Lib.hid (fun k f h => absurd h (Nat.not_lt_zero _)), Lib.hid (Below.refl _ _)⟩
      case round =>
        obtain ⟨i, hi, rfl, hS, hB⟩ := hrel
        have hkB := Keep.of_below (S := Any) hB.out
        by_cases hlt : i < mF
        · obtain ⟨f, hf⟩ : ∃ f, F[i]? = some f := ⟨_, List.getElem?_eq_getElem (by rw [HMF.out]; exact hlt)⟩
          obtain ⟨g, cap, uf, e1, _, hgl, hcf, hrow⟩ := HO.out.at hf
          simp only [Value.slice.injEq] at e1
          obtain ⟨rfl, -, rfl⟩ := e1
          have hcr := (hkB.cell (b := g) (o := i) trivial hgl).trans hcf
          have hgr := Nat.lt_of_lt_of_le hgl hkB.size
          obtain ⟨hfl, hfq⟩ := HFR.out f (List.mem_of_getElem? hf)
          have HEI := Lib.hid (HEL.out wr uf f (HPT3.out.keep hkB) ((hrow.sl.mono (fun _ _ => trivial)).keep hkB) hfl hfq)
          have HFI := Lib.hid hf
          have HFL := Lib.hid hfl
          have hii : (i : Int) < (mF : Int) := by omega
          clear hf hcf hrow hfl hfq hkB
          go_wp2_with fail
          refine HEI.out.mono ?_
          rintro e w4 ⟨v4, rfl, ⟨L4, hL4, hL4r, -⟩, hb4⟩
          have HB4 := Lib.hid (hB.out.trans (hb4.mono hB.out.size))
          have HS4 := Lib.hid (show Sl2 Any w4 v4 (f.map fun q => ints (at_ T q)) from by have h := Rows2.sl2 hL4.rows; rwa [hL4r] at h)
          have HAPF := Lib.hid (fun W vx (x : List Nat) hp hu hx hxE => HAP.out W v4 vx f x hp hu hx HFL.out hxE)
          clear hL4 hL4r hb4 HEI hcr hgr
          go_wp2_with fail
          go_loopw [34] (fun jv wr => ∃ j : Nat, j ≤ n ∧ jv = .int .i64 (j : Int) ∧ Hid (∀ k u, k < j → rows[k]? = some u → ImM T rows f u) ∧ Hid (Below w4.heap.size w4 wr)) (fun jv _ => n - (intOf jv).toNat)
          case atStart => exact ⟨0, Nat.zero_le _, rfl, Lib.hid (fun k f h => absurd h (Nat.not_lt_zero _)), Lib.hid (Below.refl _ _)⟩
          case round =>
            clear hB
            obtain ⟨j, hj, rfl, hR, hB4⟩ := hrel
            have HBX := Lib.hid (HB4.out.trans (hB4.out.mono HB4.out.size))
            have hkX := Keep.of_below (S := Any) HBX.out
            by_cases hjn : j < n
            · obtain ⟨u, hu⟩ : ∃ u, rows[j]? = some u := ⟨_, List.getElem?_eq_getElem (by rw [HNR.out]; exact hjn)⟩
              obtain ⟨bU, oU, q, rfl, _, hbU, hcU, hq⟩ := SlG.get HU3.out (k := j) (x := ints u) (by rw [List.getElem?_map, hu]; rfl)
              have hcU' := (hkX.cell (b := bU) (o := oU + j) trivial hbU).trans hcU
              have hbU' := Nat.lt_of_lt_of_le hbU hkX.size
              have huE := HRE.out u (List.mem_of_getElem? hu)
              have hud := HDP.out u (List.mem_of_getElem? hu)
              have HPX := Lib.hid (HPT3.out.keep hkX)
              have HUX := Lib.hid (Sl2.keep HU3.out hkX)
              have HAC := Lib.hid (HAPF.out _ q u HPX.out (Sl2.keep HS4.out (Keep.of_below hB4.out)) (SlI.keep hq hkX) huE)
              have HUI := Lib.hid hu
              have hji : (j : Int) < (n : Int) := by omega
              have hTp : 0 < T.length := by omega
              clear hu hcU hq hkX hud
              go_wp2_with fail
              refine HAC.out.mono ?_
              rintro e w5 ⟨g5, c5, rfl, ho5, hb5⟩
              have hyl : (ints (prodL (mul T) (Tow.one T) (f.map (at_ T)) u)).length = T.length := by rw [ints_length, El_length (HIE.out f u)]
              rw [hyl] at ho5
              have HB5 := Lib.hid (HBX.out.trans (hb5.mono HBX.out.size))
              have HB45 := Lib.hid (hB4.out.trans (hb5.mono hB4.out.size))
              have HMC := Lib.hid (HIM.out w5 (.slice (some ⟨bU, oU, none⟩) n cU) (.slice (some ⟨g5, 0, none⟩) T.length c5) _ (HPX.out.keep (Keep.of_below hb5)) (Sl2.keep HUX.out (Keep.of_below hb5)) (ho5.sl.mono (fun _ _ => trivial)) (NN_some _ _ _) (HIE.out f u))
              rw [hyl]
              clear hyl ho5 hb5 HAC HPX HUX hcU'
              go_wp2_with fail
              refine HMC.out.mono ?_
              rintro e w6 ⟨r, rfl, hr, hb6⟩
              have HB46 := Lib.hid (HB45.out.trans (hb6.mono HB45.out.size))
              have HB6 := Lib.hid (HB5.out.trans (hb6.mono HB5.out.size))
              clear hb6 HMC hB4 HBX HB45 HB5
              cases r with
              | false =>
                have HRR := Lib.hid (show IChaR (ofTw T) (rows.map ints) w (.returned (.tuple #[.bool false, .int .i64 0])) w6 from ⟨_, _, rfl, HCH.out false ⟨fun h => Bool.noConfusion h, fun h => Bool.noConfusion (hr.2 (h f (HPM.out.mem_iff.1 (List.mem_of_getElem? HFI.out)) u (List.mem_of_getElem? HUI.out)))⟩, HBW3.out.trans (HB6.out.mono HBW3.out.size)⟩)
                clear hr hR hS
                go_wp2_with fail
                exact bodyPost_ret (v := .tuple #[.bool false, .int .i64 0]) (by simp [results, Tryz.results40, go_sem]) rfl HRR.out
              | true =>
                have HN := Lib.hid (show ∀ k u, k < j + 1 → rows[k]? = some u → ImM T rows f u from fun k u' hk hu' => by
                  rcases Nat.lt_succ_iff_lt_or_eq.1 hk with h | h
                  · exact hR.out k u' h hu'
                  · subst h
                    rw [HUI.out] at hu'
                    injection hu' with hu'
                    rw [← hu']; exact hr.1 rfl)
                clear hr hR
                go_wp2_with fail
                go_roundw
                case rel => exact ⟨j + 1, by omega, by go_num, HN, HB46⟩
                case measure => simp [intOf]; omega
            · obtain rfl : j = n := by omega
              have HN := Lib.hid (show ∀ k f, k < i + 1 → F[k]? = some f → ∀ u ∈ rows, ImM T rows f u from fun k f' hk hf' => by
                rcases Nat.lt_succ_iff_lt_or_eq.1 hk with h | h
                · exact hS.out k f' h hf'
                · subst h
                  rw [HFI.out] at hf'
                  injection hf' with hf'
                  rw [← hf']
                  intro u hu
                  obtain ⟨k', hk'⟩ := List.getElem?_of_mem hu
                  exact hR.out k' u (by have := (List.getElem?_eq_some_iff.1 hk').1; rw [HNR.out] at this; exact this) hk')
              clear hR hS hkX hB4
              go_wp2_with fail
              go_roundw
              case rel => exact ⟨i + 1, by omega, by go_num, HN, HBX⟩
              case measure => simp [intOf]; omega
        · obtain rfl : i = mF := by omega
          have HRR := Lib.hid (show IChaR (ofTw T) (rows.map ints) w (.returned (.tuple #[.bool true, .int .i64 0])) wr from ⟨_, _, rfl, HCH.out true ⟨fun _ f hf u hu => by
            obtain ⟨k, hk⟩ := List.getElem?_of_mem (HPM.out.mem_iff.2 hf)
            exact hS.out k f (by have := (List.getElem?_eq_some_iff.1 hk).1; rw [HMF.out] at this; exact this) hk u hu, fun _ => rfl⟩, HBW3.out.trans (hB.out.mono HBW3.out.size)⟩)
          clear hS hB hkB
          go_wp2_with fail
          exact bodyPost_ret (v := .tuple #[.bool true, .int .i64 0]) (by simp [results, Tryz.results40, go_sem]) rfl HRR.out
  · obtain rfl : r = false := by
      cases r with
      | false => rfl
      | true => exact absurd (hr.1 rfl) hE
    have HR := Lib.hid (show IChaR P l w (.returned (.tuple #[.bool false, .int .i64 1])) w2 from ⟨_, 1, rfl, .inl ⟨hE, rfl, rfl⟩, (bx1 HB2.out).2.2.1⟩)
    clear hr hE
    go_wp2_with fail
    exact bodyPost_ret (v := .tuple #[.bool false, .int .i64 1]) (by simp [results, Tryz.results40, go_sem]) rfl HR.out
end Go.Proofs.YtabeedimnbkcgaaGreat.ChY

/-
  spec.l12Reduce, l12Table, l12Sift, l12Has.
-/
namespace Go.Proofs.YtabeedimnbkcgaaGreat.ChZ
open Go.RowKit Go.Proofs.YtabeedimnbkcgaaGreat Go.Proofs.YtabeedimnbkcgaaGreat.Tow Go.Proofs.YtabeedimnbkcgaaGreat.Val Go.Proofs.YtabeedimnbkcgaaGreat.Grps Go.Proofs.YtabeedimnbkcgaaGreat.NumT Go.Proofs.YtabeedimnbkcgaaGreat.Gen Go.Proofs.YtabeedimnbkcgaaGreat.GenC Go.Proofs.YtabeedimnbkcgaaGreat.GenL Go.Proofs.YtabeedimnbkcgaaGreat.GenM Go.Proofs.YtabeedimnbkcgaaGreat.Tab Go.Proofs.YtabeedimnbkcgaaGreat.ImplD Go.Proofs.YtabeedimnbkcgaaGreat.SpecD Go.Proofs.YtabeedimnbkcgaaGreat.SpecI Go.Proofs.YtabeedimnbkcgaaGreat.SpecJ Go.Proofs.YtabeedimnbkcgaaGreat.SpecK Go.Proofs.YtabeedimnbkcgaaGreat.SpecL Go.Proofs.YtabeedimnbkcgaaGreat.LawE Go.Proofs.YtabeedimnbkcgaaGreat.LawF Go.Proofs.YtabeedimnbkcgaaGreat.Elt Go.Proofs.YtabeedimnbkcgaaGreat.ChA Go.Proofs.YtabeedimnbkcgaaGreat.ChP Go.Proofs.YtabeedimnbkcgaaGreat.ChV Go.Proofs.YtabeedimnbkcgaaGreat.ChD Go.Proofs.YtabeedimnbkcgaaGreat.ChU
set_option linter.unusedVariables false
set_option linter.unusedSimpArgs false

def RedR (n : Nat) (y : List Nat) (w : World) (e : Ending) (w' : World) : Prop := ∃ a c, e = .returned (.slice a n c) ∧ SlI Any w' (.slice a n c) (ints y) ∧ Below w.heap.size w w'

set_option maxRecDepth 100000 in
set_option maxHeartbeats 4000000 in
theorem reduce_any (T : Tw) (hT : Wf T) (hs : Small T) (hg : Tow.Good T) (w : World) (vO vP vC vt vx : Value) (tl : List (List Nat)) (x : List Nat) (hP : ValP Any w vO vP vC (ofTw T)) (ht : Sl2 Any w vt (tl.map ints)) (htl : tl.length = T.length) (hx : SlI Any w vx (ints x)) (hE : El T x)
    (hr : ∀ r ∈ tl, r ≠ [] → El T r) : Calls Tryz.prog 143 #[.agg #[vO, vP, vC], vt, vx] w (RedR T.length (redT T (tabF tl) T.length 0 x) w) := by
  have HP := Lib.hid hP
  have HT := Lib.hid ht
  have HSM := Lib.hid hs
  have HROW := Lib.hid hr
  have HE := Lib.hid hE
  have HG := Lib.hid (grp hT hg)
  have HVE := Lib.hid (fun q (hq : El T q) => (vinv_spec hT hg hq).1)
  have HPW := Lib.hid (fun W va y K hK h0 hP ha hE => pow_neg_any T hT hs hg W vO vP vC va y K hK h0 hP ha hE)
  have HM := Lib.hid (fun W va vb a b h1 h2 h3 h4 h5 => SpecD.mul_any T hT hs W vO vP vC va vb a b h1 h2 h3 h4 h5)
  have hxl : x.length = T.length := El_length hE
  have hs6 := hs.1
  have HOW := Lib.hid (fun W h => SpecA.own_any Any vx (ints x) W h (by rw [ints_length]; omega))
  have HX := Lib.hid hx
  obtain ⟨aT, cT, rfl, _, _⟩ := SlG.form ht
  rw [List.length_map, htl] at HT ⊢
  obtain ⟨W0, hW0⟩ : ∃ W0, W0 = w.alloc (.cells #[vO, vP, vC] 30) := ⟨_, rfl⟩
  have HB0 := Lib.hid (show Below (w.heap.size + 1) (w.alloc (.cells #[vO, vP, vC] 30)) W0 by rw [hW0]; exact Below.refl _ _)
  have HC0 := Lib.hid (HOW.out W0 (HX.out.keep (bx1 HB0.out).2.1))
  clear hP ht hT hs hg hx hE hr HOW
  go_enter Tryz.func143, Tryz.ntmps143
  go_upto_region 1 with fail
  rw [← hW0]
  clear hW0
  go_wp2_with fail
  refine HC0.out.mono ?_
  rintro e w1 ⟨g1, c1, rfl, ho1, hb1⟩
  rw [ints_length, hxl] at ho1 ⊢
  have HO1 := Lib.hid (ho1.sl.mono (S' := Any) (fun _ _ => trivial))
  have HB1 := Lib.hid (HB0.out.trans (hb1.mono (bx1 HB0.out).2.2.2))
  clear ho1 hb1 HC0
  go_wp2_with fail
  go_loopw [7, 8] (fun ov dv wr => ∃ (k : Nat) (y : List Nat) (a : Option Addr) (c : Nat), k ≤ T.length ∧ ov = .slice a T.length c ∧ dv = .int .i64 (k : Int) ∧ Hid (redT T (tabF tl) T.length 0 x = redT T (tabF tl) (T.length - k) k y) ∧ Hid (El T y) ∧ Hid (SlI Any wr (.slice a T.length c) (ints y)) ∧ Hid (Below (w.heap.size + 1) (w.alloc (.cells #[vO, vP, vC] 30)) wr)) (fun _ dv _ => T.length - (intOf dv).toNat)
  case atStart => exact ⟨0, x, _, c1, Nat.zero_le _, rfl, rfl, Lib.hid rfl, HE, HO1, HB1⟩
  case round =>
    obtain ⟨k, y, aY, cY, hk, rfl, rfl, hR, hY, hO, hB⟩ := hrel
    obtain ⟨⟨f0, f1, f2⟩, hkB, hbw, hsB⟩ := bx1 hB.out
    by_cases hlt : k < T.length
    · obtain ⟨j, hj⟩ : ∃ j, T.length - k = j + 1 := ⟨T.length - k - 1, by omega⟩
      obtain ⟨r, hr⟩ : ∃ r, tl[k]? = some r := ⟨_, List.getElem?_eq_getElem (by omega)⟩
      obtain ⟨bT, oT, u, rfl, _, hbT, hcT, hu⟩ := SlG.get HT.out (k := k) (x := ints r) (by rw [List.getElem?_map, hr]; rfl)
      have hcT' := (hkB.cell (b := bT) (o := oT + k) trivial hbT).trans hcT
      have hbT' := Nat.lt_of_lt_of_le hbT hkB.size
      have HU := Lib.hid (SlI.keep hu hkB)
      obtain ⟨aR, cR, rfl, _⟩ := SlI.open hu
      obtain ⟨a, ha⟩ : ∃ a, y[k]? = some a := ⟨_, List.getElem?_eq_getElem (by rw [El_length hY.out]; omega)⟩
      obtain ⟨bY, oY, rfl, _, hbY, hcY⟩ := SlI.at hO.out ha
      have hfa : fF k y = a := fF_get ha
      have hki : (k : Int) < (T.length : Int) := by omega
      have hki0 : (0 : Int) ≤ (k : Int) := by omega
      have ha7 : a < 7 := HSM.out.lt (s := 0) hY.out (Nat.zero_le _) ha
      have hjk : T.length - (k + 1) = j := by omega
      have hw0 : w.heap.size < wr.heap.size := by omega
      obtain ⟨lr, hlr⟩ : ∃ lr, r.length = lr := ⟨_, rfl⟩
      rw [hlr] at hcT' HU
      by_cases hr0 : r = []
      · obtain rfl : lr = 0 := by rw [← hlr, hr0]; rfl
        have hql : decide (((0 : Nat) : Int) > 0) = false := by simp
        have HR' := Lib.hid (show redT T (tabF tl) T.length 0 x = redT T (tabF tl) (T.length - (k + 1)) (k + 1) y by rw [hR.out, hj, red_none (tabF_none (by rw [hr, hr0])), hjk])
        clear hlt hr hu ha hfa hr0 hj hjk hcT hkB hlr hbw hsB
        go_wp2_with fail
        go_roundw
        case rel => exact ⟨k + 1, y, _, cY, by omega, rfl, by go_num, HR', hY, hO, hB⟩
        case measure => simp [intOf] <;> omega
      · have HRE := Lib.hid (HROW.out r (List.mem_of_getElem? hr) hr0)
        have hlp : 0 < lr := by
          have : r.length ≠ 0 := fun h => hr0 (List.eq_nil_of_length_eq_zero h)
          omega
        have hql : decide ((lr : Int) > 0) = true := by simp; omega
        have hlpi : (0 : Int) < (lr : Int) := by omega
        by_cases ha0 : a = 0
        · subst ha0
          have hz : (((0 : Nat) : Int) != 0) = false := by simp
          have HR' := Lib.hid (show redT T (tabF tl) T.length 0 x = redT T (tabF tl) (T.length - (k + 1)) (k + 1) y by rw [hR.out, hj, red_zero hfa, hjk])
          clear hlt hr hu ha hfa hr0 hj hjk hcT hkB hlr hbw hsB
          go_wp2_with fail
          go_roundw
          case rel => exact ⟨k + 1, y, _, cY, by omega, rfl, by go_num, HR', hY, hO, hB⟩
          case measure => simp [intOf] <;> omega
        · have hz : ((a : Int) != 0) = true := by simp; omega
          have hap : 0 < a := by omega
          have hwn : IntKind.i64.wrap (-(a : Int)) = -(a : Int) := IntWalk.i64_in _ (by omega)
          have HPE := Lib.hid (HG.out.npow (HVE.out r HRE.out) a)
          have HR' := Lib.hid (show redT T (tabF tl) T.length 0 x = redT T (tabF tl) (T.length - (k + 1)) (k + 1) (mul T y (npow (mul T) (Tow.one T) (vinv T r) a)) by rw [hR.out, hj, red_some (tabF_some hr hr0) (by rw [hfa]; exact ha0), hjk, hfa])
          have HP5 := Lib.hid (HP.out.keep hkB)
          have HYE := Lib.hid (HG.out.cl hY.out HPE.out)
          clear hlt hr hu ha hfa hr0 hj hjk hcT hkB hlr hbw ha0
          go_wp2_with fail
          go_region_held3 (fun w' => (∀ b o, b < wr.heap.size → w'.cell? ⟨b, o, none⟩ = wr.cell? ⟨b, o, none⟩) ∧ Keep (fun _ => True) wr w')
            (first | exact ks_mk (by repeat (first | exact (Keep.refl _ _).drew | exact Keep.refl _ _ | refine Keep.trans ?_ (Keep.of_below (by assumption)))))
            (first | (go_at_call 146; refine (HPW.out _ (.slice aR lr cR) r a (by omega) hap (HP5.out.keep (by repeat (first | exact (Keep.refl _ _).drew | exact Keep.refl _ _ | exact (Keep.refl _ _).alloc _ | exact ((Keep.refl _ _).alloc _).drew | refine Keep.trans ?_ (Keep.of_below (by assumption))))) (HU.out.keep (by repeat (first | exact (Keep.refl _ _).drew | exact Keep.refl _ _ | exact (Keep.refl _ _).alloc _ | exact ((Keep.refl _ _).alloc _).drew | refine Keep.trans ?_ (Keep.of_below (by assumption))))) HRE.out).mono ?_; rintro e w6 ⟨v6, rfl, ho6, hb6⟩) | (go_at_call_of 145 v6; refine (HM.out _ (.slice (some ⟨bY, oY, none⟩) T.length cY) v6 y (npow (mul T) (Tow.one T) (vinv T r) a) (HP5.out.keep (by repeat (first | exact (Keep.refl _ _).drew | exact Keep.refl _ _ | exact (Keep.refl _ _).alloc _ | exact ((Keep.refl _ _).alloc _).drew | refine Keep.trans ?_ (Keep.of_below (by assumption))))) (hO.out.keep (by repeat (first | exact (Keep.refl _ _).drew | exact Keep.refl _ _ | exact (Keep.refl _ _).alloc _ | exact ((Keep.refl _ _).alloc _).drew | refine Keep.trans ?_ (Keep.of_below (by assumption))))) (ho6.sl.mono (fun _ _ => trivial)) hY.out HPE.out).mono ?_; rintro e w8 ⟨v8, rfl, ho8, hb8⟩))
          rename_i hHd
          clear hHd
          have hb46 : Below wr.heap.size wr w6 := ((Below.refl _ _).drew).trans hb6
          have HB8 := Lib.hid (hB.out.trans ((hb46.trans (hb8.mono hb46.size)).mono hsB))
          have hs8 := ho8.sl
          obtain ⟨a8, c8, rfl, _⟩ := SlI.open hs8
          rw [El_length HYE.out] at hs8 ⊢
          have HO8 := Lib.hid (hs8.mono (S' := Any) (fun _ _ => trivial))
          clear ho6 ho8 hb6 hb8 hb46 hs8 f0 f1 f2 hcT' hcY hsB
          go_wp2_with fail
          go_roundw
          case rel => exact ⟨k + 1, _, a8, c8, by omega, rfl, by go_num, HR', HYE, HO8, HB8⟩
          case measure => simp [intOf] <;> omega
    · obtain rfl : k = T.length := by omega
      have HR := Lib.hid (show RedR T.length (redT T (tabF tl) T.length 0 x) w (.returned (.slice aY T.length cY)) wr from ⟨aY, cY, rfl, by
        have h := hR.out
        rw [Nat.sub_self] at h
        rw [h]; exact hO.out, hbw⟩)
      clear hR hO hB hkB hbw hsB f0 f1 f2 hlt
      go_wp2_with fail
      go_ret
      exact HR.out

/-- a table of rows that the call was given -/
abbrev RowG (g : Nat) : World → Value → List Nat → Prop := fun W v r => SlI (fun k => k ≠ g) W v (ints r)
def TblR (n : Nat) (us : List (List Nat)) (w : World) (e : Ending) (w' : World) : Prop := ∃ v, e = .returned v ∧ Sl2 Any w' v ((tbl n us).map ints) ∧ Below w.heap.size w w'
theorem tbl_take {us : List (List Nat)} {u : List Nat} {k : Nat} (hu : us[k]? = some u) (tl : List (List Nat)) : (us.take (k + 1)).foldl (fun tl u => tl.set (GenM.dep u) u) tl = ((us.take k).foldl (fun tl u => tl.set (GenM.dep u) u) tl).set (GenM.dep u) u := by
  rw [List.take_add_one, hu]
  simp
set_option maxRecDepth 100000 in
set_option maxHeartbeats 4000000 in
theorem table_any (T : Tw) (hs : Small T) (w : World) (vO vP vC vu : Value) (us : List (List Nat)) (hP : ValP Any w vO vP vC (ofTw T)) (hu : Sl2 Any w vu (us.map ints)) (hul : us.length ≤ 6) (hL : ∀ u ∈ us, El T u ∧ GenM.dep u < T.length) :
    Calls Tryz.prog 144 #[.agg #[vO, vP, vC], vu] w (TblR T.length us w) := by
  have hs6 := hs.1
  obtain ⟨aO, cO, aP, cP, aC, cC, rfl, rfl, rfl, hO1, hP1, hC1⟩ := hP.open
  have HU := Lib.hid hu
  have HL := Lib.hid hL
  have hmk := SpecO.mk23 T.length hs6
  obtain ⟨aU, cU, rfl, _, _⟩ := SlG.form hu
  obtain ⟨m, hm⟩ : ∃ m, us.length = m := ⟨_, rfl⟩
  rw [List.length_map, hm] at HU ⊢
  rw [hm] at hul
  have HM := Lib.hid hm
  obtain ⟨W0, hW0⟩ : ∃ W0, W0 = w.alloc (.cells #[.slice aO T.length cO, .slice aP T.length cP, .slice aC T.length cC] 30) := ⟨_, rfl⟩
  have HB0 := Lib.hid (show Below (w.heap.size + 1) (w.alloc (.cells #[.slice aO T.length cO, .slice aP T.length cP, .slice aC T.length cC] 30)) W0 by rw [hW0]; exact Below.refl _ _)
  obtain ⟨g, hg⟩ : ∃ g, W0.heap.size = g := ⟨_, rfl⟩
  have HGG := Lib.hid (show w.heap.size + 1 ≤ g by rw [← hg]; exact (bx1 HB0.out).2.2.2)
  have HT0 := Lib.hid (show TabR (RowG g) (W0.alloc (.cells (madeCells #[.slice none 0 0] T.length) 22)) g (List.replicate T.length []) by
    have := TabR.made (R := RowG g) W0 T.length (by unfold maxLen; omega) (SlI_nil _ _)
    rwa [hg] at this)
  have HB1 := Lib.hid (show Below (w.heap.size + 1) (w.alloc (.cells #[.slice aO T.length cO, .slice aP T.length cP, .slice aC T.length cC] 30)) (W0.alloc (.cells (madeCells #[.slice none 0 0] T.length) 22)) from HB0.out.alloc (bx1 HB0.out).2.2.2 _)
  clear hP hu hL hm hs
  go_enter Tryz.func144, Tryz.ntmps144
  go_upto_region 1 with fail
  rw [← hW0]
  clear hW0
  obtain ⟨⟨e0, e1, e2⟩, hk0, hbw0, hs0⟩ := bx1 HB0.out
  go_upto_region 2 with fail
  clear e0 e1 e2 hk0 hbw0 hs0 hmk hg
  go_wp2_with fail
  go_loopw [6] (fun iv wr => ∃ k : Nat, k ≤ m ∧ iv = .int .i64 (k : Int) ∧ Hid (TabR (RowG g) wr g ((us.take k).foldl (fun tl u => tl.set (GenM.dep u) u) (List.replicate T.length []))) ∧ Hid (Below (w.heap.size + 1) (w.alloc (.cells #[.slice aO T.length cO, .slice aP T.length cP, .slice aC T.length cC] 30)) wr)) (fun iv _ => m - (intOf iv).toNat)
  case atStart => exact ⟨0, Nat.zero_le _, rfl, HT0, HB1⟩
  case round =>
    obtain ⟨k, hk, rfl, hT, hB⟩ := hrel
    obtain ⟨-, hkB, hbw, hsB⟩ := bx1 hB.out
    have hlen : ((us.take k).foldl (fun tl u => tl.set (GenM.dep u) u) (List.replicate T.length [])).length = T.length := by rw [tbl_len]; simp
    by_cases hlt : k < m
    · obtain ⟨u, hu⟩ : ∃ u, us[k]? = some u := ⟨_, List.getElem?_eq_getElem (by rw [HM.out]; exact hlt)⟩
      obtain ⟨huE, hud⟩ := HL.out u (List.mem_of_getElem? hu)
      obtain ⟨a, ha, ha0⟩ := GenM.dep_get (x := u) (by rw [El_length huE]; exact hud)
      obtain ⟨bU, oU, q, rfl, _, hbU, hcU, hq⟩ := SlG.get HU.out (k := k) (x := ints u) (by rw [List.getElem?_map, hu]; rfl)
      have hcU' := (hkB.cell (b := bU) (o := oU + k) trivial hbU).trans hcU
      have hbU' := Nat.lt_of_lt_of_le hbU hkB.size
      have HQ := Lib.hid (SlI.keep hq hkB)
      have HDC := Lib.hid (fun W h => depth_any W q u h (GenM.dep u) a (fun j hj => GenM.dep_zero hj) ha ha0 (by rw [El_length huE]; omega))
      have HTK := Lib.hid (tbl_take hu (List.replicate T.length []))
      obtain ⟨d, hd⟩ : ∃ d, GenM.dep u = d := ⟨_, rfl⟩
      rw [hd] at hud HDC HTK
      obtain ⟨old, hold⟩ : ∃ old, ((us.take k).foldl (fun tl u => tl.set (GenM.dep u) u) (List.replicate T.length []))[d]? = some old := ⟨_, List.getElem?_eq_getElem (by rw [hlen]; exact hud)⟩
      obtain ⟨ut, hct, hft, _⟩ := hT.out.at hold
      have hgl := hT.out.lt
      have HQG := Lib.hid (show SlI (fun k => k ≠ g) wr q (ints u) from ((SlI_lt hq).keep (hkB.mono (fun _ _ => trivial))).mono (fun k hk => by have := HGG.out; omega))
      have hdi : (d : Int) < (T.length : Int) := by omega
      have hdi0 : (0 : Int) ≤ (d : Int) := by omega
      have hki : (k : Int) < (m : Int) := by omega
      clear hu huE ha ha0 hcU hq hd hold hkB hlen hbw
      obtain ⟨aQ, cQ, rfl, _⟩ := SlI.open HQ.out
      have HT' := Lib.hid (show TabR (RowG g) ((wr.setCell ⟨g, d, none⟩ (.slice aQ u.length cQ)).drew) g ((us.take (k + 1)).foldl (fun tl u => tl.set (GenM.dep u) u) (List.replicate T.length [])) from by
        rw [HTK.out]
        exact (TabR.set hT.out d (fun _ _ _ _ => trivial) (fun v r h => SlI.keep h ((Keep.refl _ _).setCell (p := ⟨g, d, none⟩) (by simp) _)) HQG.out).keep (S := Any) ((Keep.refl _ _).drew) trivial (fun v r h => SlI.keep h ((Keep.refl _ _).drew)))
      have HB' := Lib.hid ((hB.out.setCell (p := ⟨g, d, none⟩) (by have := HGG.out; show _ ≤ g; omega) (.slice aQ u.length cQ)).drew)
      clear hT hB HQG
      go_wp2_with fail
      go_region_law
        (first | (go_simp; go_at_call 191; refine (HDC.out _ (HQ.out.keep (by repeat (first | exact (Keep.refl _ _).drew | exact Keep.refl _ _)))).mono ?_; rintro e w5 ⟨rfl, rfl⟩))
      all_goals
        go_wp2_with fail
        go_roundw
        case rel => exact ⟨k + 1, by omega, by go_num, HT', HB'⟩
        case measure => simp [intOf] <;> omega
    · obtain rfl : k = m := by omega
      have HR := Lib.hid (show TblR T.length us w (.returned (.slice (some ⟨g, 0, none⟩) T.length T.length)) wr from ⟨_, rfl, by
        have h := TabR.sl2 hT.out (fun _ _ h => h.mono (fun _ _ => trivial))
        rw [hlen] at h
        rw [← HM.out, List.take_length] at h
        exact h, hbw⟩)
      clear hT hB hkB hbw hsB hlt hlen
      go_wp2_with fail
      go_ret
      exact HR.out
end Go.Proofs.YtabeedimnbkcgaaGreat.ChZ

/-
  spec.l12Sift, l12Has, l10Elements, l01Same2, l12Is, IsSubgroup, IsCharacteristic.
-/
namespace Go.Proofs.YtabeedimnbkcgaaGreat.ChM
open Go.RowKit Go.Proofs.YtabeedimnbkcgaaGreat Go.Proofs.YtabeedimnbkcgaaGreat.Tow Go.Proofs.YtabeedimnbkcgaaGreat.Val Go.Proofs.YtabeedimnbkcgaaGreat.Grps Go.Proofs.YtabeedimnbkcgaaGreat.NumT Go.Proofs.YtabeedimnbkcgaaGreat.Gen Go.Proofs.YtabeedimnbkcgaaGreat.GenC Go.Proofs.YtabeedimnbkcgaaGreat.GenL Go.Proofs.YtabeedimnbkcgaaGreat.Tab Go.Proofs.YtabeedimnbkcgaaGreat.ImplD Go.Proofs.YtabeedimnbkcgaaGreat.LawE Go.Proofs.YtabeedimnbkcgaaGreat.LawF Go.Proofs.YtabeedimnbkcgaaGreat.Elt Go.Proofs.YtabeedimnbkcgaaGreat.OrbC Go.Proofs.YtabeedimnbkcgaaGreat.ChA Go.Proofs.YtabeedimnbkcgaaGreat.ChP Go.Proofs.YtabeedimnbkcgaaGreat.ChV Go.Proofs.YtabeedimnbkcgaaGreat.ChZ
set_option linter.unusedVariables false
set_option linter.unusedSimpArgs false

theorem tbl_row {T : Tw} {us : List (List Nat)} (hE : ∀ u ∈ us, El T u) : ∀ r ∈ tbl T.length us, r ≠ [] → El T r := by
  have key : ∀ (us : List (List Nat)) (tl : List (List Nat)), (∀ u ∈ us, El T u) → (∀ r ∈ tl, r ≠ [] → El T r) → ∀ r ∈ us.foldl (fun tl u => tl.set (GenM.dep u) u) tl, r ≠ [] → El T r := by
    intro us
    induction us with
    | nil => intro tl _ h; exact h
    | cons u us ih =>
      intro tl hu h
      refine ih _ (fun v hv => hu v (List.mem_cons_of_mem _ hv)) (fun r hr hne => ?_)
      rcases List.mem_or_eq_of_mem_set hr with h1 | h1
      · exact h r h1 hne
      · rw [h1]; exact hu u List.mem_cons_self
  refine key us _ hE (fun r hr hne => ?_)
  exact absurd (List.eq_of_mem_replicate hr) hne
set_option maxRecDepth 100000 in
set_option maxHeartbeats 2000000 in
theorem sift_any (T : Tw) (hT : Wf T) (hs : Small T) (hg : Tow.Good T) (w : World) (vO vP vC vu vx : Value) (us : List (List Nat)) (x : List Nat) (hc : CanL T us us) (hP : ValP Any w vO vP vC (ofTw T)) (hu : Sl2 Any w vu (us.map ints)) (hx : SlI Any w vx (ints x)) (hE : El T x) :
    Calls Tryz.prog 103 #[.agg #[vO, vP, vC], vu, vx] w (RedR T.length (redT T (tabF (tbl T.length us)) T.length 0 x) w) := by
  have HP := Lib.hid hP
  have HU := Lib.hid hu
  have HX := Lib.hid hx
  have HE := Lib.hid hE
  have HTB := Lib.hid (fun W h1 h2 => table_any T hs W vO vP vC vu us h1 h2 (Nat.le_trans hc.le hs.1) (fun u hu => ⟨hc.el u hu, hc.dep u hu⟩))
  have HRD := Lib.hid (fun W vt h1 h2 h3 => reduce_any T hT hs hg W vO vP vC vt vx (tbl T.length us) x h1 h2 (by unfold tbl; rw [tbl_len]; simp) h3 HE.out (tbl_row hc.el))
  obtain ⟨W0, hW0⟩ : ∃ W0, W0 = w.alloc (.cells #[vO, vP, vC] 30) := ⟨_, rfl⟩
  have HB0 := Lib.hid (show Below (w.heap.size + 1) (w.alloc (.cells #[vO, vP, vC] 30)) W0 by rw [hW0]; exact Below.refl _ _)
  clear hc hP hu hx hE hT hs hg
  go_enter Tryz.func103, Tryz.ntmps103
  go_upto_region 1 with fail
  rw [← hW0]
  clear hW0
  obtain ⟨⟨e0, e1, e2⟩, hk0, hbw0, hs0⟩ := bx1 HB0.out
  have HP0 := Lib.hid (HP.out.keep hk0)
  have HU0 := Lib.hid (Sl2.keep HU.out hk0)
  have HX0 := Lib.hid (HX.out.keep hk0)
  have hl0 : w.heap.size < W0.heap.size := by omega
  clear hk0 hbw0
  go_wp2_with fail
  go_region_held3 (fun w' => (∀ b o, b < W0.heap.size → w'.cell? ⟨b, o, none⟩ = W0.cell? ⟨b, o, none⟩) ∧ Keep (fun _ => True) W0 w')
    (first | exact ks_mk (by repeat (first | exact (Keep.refl _ _).drew | exact Keep.refl _ _ | refine Keep.trans ?_ (Keep.of_below (by assumption)))))
    (first | (go_at_call 144; refine (HTB.out _ (HP0.out.keep (by repeat (first | exact (Keep.refl _ _).drew | exact Keep.refl _ _ | refine Keep.trans ?_ (Keep.of_below (by assumption))))) (Sl2.keep HU0.out (by repeat (first | exact (Keep.refl _ _).drew | exact Keep.refl _ _ | refine Keep.trans ?_ (Keep.of_below (by assumption)))))).mono ?_; rintro e w6 ⟨v6, rfl, ho6, hb6⟩) | (go_at_call_of 143 v6; refine (HRD.out _ v6 (HP0.out.keep (by repeat (first | exact (Keep.refl _ _).drew | exact Keep.refl _ _ | refine Keep.trans ?_ (Keep.of_below (by assumption))))) ho6 (HX0.out.keep (by repeat (first | exact (Keep.refl _ _).drew | exact Keep.refl _ _ | refine Keep.trans ?_ (Keep.of_below (by assumption)))))).mono ?_; rintro e w8 ⟨a8, c8, rfl, ho8, hb8⟩))
  rename_i hHd
  clear hHd
  have hb06 : Below W0.heap.size W0 w6 := ((Below.refl _ _).drew).trans hb6
  have HB8 := Lib.hid (HB0.out.trans ((hb06.trans (hb8.mono hb06.size)).mono hs0))
  have HR := Lib.hid (show RedR T.length (redT T (tabF (tbl T.length us)) T.length 0 x) w (.returned (.slice a8 T.length c8)) w8 from ⟨a8, c8, rfl, ho8, (bx1 HB8.out).2.2.1⟩)
  clear ho6 hb6 ho8 hb8 hb06 e0 e1 e2
  go_wp2_with fail
  go_ret
  exact HR.out
set_option maxRecDepth 100000 in
set_option maxHeartbeats 2000000 in
theorem has_any (T : Tw) (hT : Wf T) (hs : Small T) (hg : Tow.Good T) (hn0 : 0 < T.length) (w : World) (vO vP vC vu vx : Value) (us : List (List Nat)) (x : List Nat) (hc : CanL T us us) (hP : ValP Any w vO vP vC (ofTw T)) (hu : Sl2 Any w vu (us.map ints)) (hx : SlI Any w vx (ints x)) (hE : El T x) :
    Calls Tryz.prog 73 #[.agg #[vO, vP, vC], vu, vx] w (YesR (Gen.Gen (mul T) (Tow.one T) us x) w) := by
  have HRE := Lib.hid (red_El hT hg (t := tabF (tbl T.length us)) (fun j u h => by
    obtain ⟨h1, h2⟩ := tabF_inv h
    exact tbl_row hc.el u (List.mem_of_getElem? h1) h2) T.length 0 x hE)
  have HG := Lib.hid (hc.red hT hg hn0 hE)
  have HONE := Lib.hid (GenM.dep_one hT HRE.out)
  have hs6 := hs.1
  have HZ := Lib.hid (fun W v h => zero_any W v (redT T (tabF (tbl T.length us)) T.length 0 x) h)
  obtain ⟨W0, hW0⟩ : ∃ W0, W0 = w.alloc (.cells #[vO, vP, vC] 30) := ⟨_, rfl⟩
  have HB0 := Lib.hid (show Below (w.heap.size + 1) (w.alloc (.cells #[vO, vP, vC] 30)) W0 by rw [hW0]; exact Below.refl _ _)
  obtain ⟨⟨e0, e1, e2⟩, hk0, hbw0, hs0⟩ := bx1 HB0.out
  have HC := Lib.hid (sift_any T hT hs hg W0 vO vP vC vu vx us x hc (hP.keep hk0) (Sl2.keep hu hk0) (hx.keep hk0) hE)
  clear hc hP hu hx hE hT hs hg hk0 hbw0 hs0 e0 e1 e2
  go_enter Tryz.func73, Tryz.ntmps73
  go_upto_region 1 with fail
  rw [← hW0]
  clear hW0
  obtain ⟨⟨e0, e1, e2⟩, -, -, hs0⟩ := bx1 HB0.out
  go_wp2_with fail
  refine HC.out.mono ?_
  rintro e w1 ⟨a, c, rfl, ho, hb⟩
  have HB := Lib.hid (bx1 (HB0.out.trans (hb.mono hs0))).2.2.1
  have HZC := Lib.hid (HZ.out w1 _ ho)
  clear ho hb HC HZ e0 e1 e2 hs0
  go_wp2_with fail
  refine HZC.out.mono ?_
  rintro e w2 ⟨r, rfl, hr, rfl⟩
  have HR := Lib.hid (show YesR (Gen.Gen (mul T) (Tow.one T) us x) w (.returned (.bool r)) w1 from ⟨r, rfl, hr.trans (HONE.out.trans HG.out), HB.out⟩)
  clear hr HZC
  go_wp2_with fail
  go_ret
  exact HR.out

set_option maxRecDepth 100000 in
set_option maxHeartbeats 2000000 in
theorem elements_any (w : World) (vO vP vC vu : Value) (P : Pres) (l : List (List Int)) (hP : ValP Any w vO vP vC P) (hu : Sl2 Any w vu l) (hpr : ∀ x ∈ P.os, primeB x = true) :
    Calls Tryz.prog 140 #[.agg #[vO, vP, vC], vu] w (YesR (∀ r ∈ l, TailV P.os 0 r) w) := by
  have HP := Lib.hid hP
  have HU := Lib.hid hu
  have HEL := Lib.hid (fun W vx r h1 h2 => l10Element_any W vO vP vC vx P r h1 h2 hpr)
  obtain ⟨aU, cU, rfl, hlU, hmU⟩ := SlG.form hu
  obtain ⟨n, hn⟩ : ∃ n, l.length = n := ⟨_, rfl⟩
  have HNL := Lib.hid hn
  rw [hn] at HU hlU ⊢
  have hn63 : (n : Int) ≤ 9223372036854775807 := by unfold maxLen at hmU; omega
  obtain ⟨W0, hW0⟩ : ∃ W0, W0 = w.alloc (.cells #[vO, vP, vC] 30) := ⟨_, rfl⟩
  have HB0 := Lib.hid (show Below (w.heap.size + 1) (w.alloc (.cells #[vO, vP, vC] 30)) W0 by rw [hW0]; exact Below.refl _ _)
  clear hP hu hpr hn hlU hmU
  go_enter Tryz.func140, Tryz.ntmps140
  go_upto_region 1 with fail
  rw [← hW0]
  clear hW0
  go_wp2_with fail
  go_loopw [5] (fun iv wr => ∃ k : Nat, k ≤ n ∧ iv = .int .i64 (k : Int) ∧ Hid (∀ j r, j < k → l[j]? = some r → TailV P.os 0 r) ∧ Hid (Below (w.heap.size + 1) (w.alloc (.cells #[vO, vP, vC] 30)) wr)) (fun iv _ => n - (intOf iv).toNat)
  case atStart => exact ⟨0, Nat.zero_le _, rfl, Lib.hid (fun j r h => absurd h (Nat.not_lt_zero _)), HB0⟩
  case round =>
    obtain ⟨k, hk, rfl, hR, hB⟩ := hrel
    obtain ⟨⟨e0, e1, e2⟩, hkB, hbw, hsB⟩ := bx1 hB.out
    by_cases hlt : k < n
    · obtain ⟨x, hx⟩ : ∃ x, l[k]? = some x := ⟨_, List.getElem?_eq_getElem (by rw [HNL.out]; exact hlt)⟩
      obtain ⟨bU, oU, q, rfl, _, hbU, hcU, hq⟩ := SlG.get HU.out hx
      have hcU' := (hkB.cell (b := bU) (o := oU + k) trivial hbU).trans hcU
      have hbU' := Nat.lt_of_lt_of_le hbU hkB.size
      have HX := Lib.hid hx
      have HQ := Lib.hid (SlI.keep hq hkB)
      have HPr := Lib.hid (HP.out.keep hkB)
      have hki : (k : Int) < (n : Int) := by omega
      have hki0 : (0 : Int) ≤ (k : Int) := by omega
      have hw0 : w.heap.size < wr.heap.size := by omega
      clear hx hcU hq hkB hbw
      go_wp2_with fail
      go_region_held3 (fun w' => (∀ b o, b < wr.heap.size → w'.cell? ⟨b, o, none⟩ = wr.cell? ⟨b, o, none⟩) ∧ Keep (fun _ => True) wr w')
        (first | exact ks_mk (by repeat (first | exact (Keep.refl _ _).drew | exact Keep.refl _ _ | refine Keep.trans ?_ (Keep.of_below (by assumption)))))
        (first | (go_at_call 112; refine (HEL.out _ q x (HPr.out.keep (by repeat (first | exact (Keep.refl _ _).drew | exact Keep.refl _ _))) (HQ.out.keep (by repeat (first | exact (Keep.refl _ _).drew | exact Keep.refl _ _)))).mono ?_; rintro e w6 ⟨r, rfl, hr, hb6⟩))
      rename_i hHd
      clear hHd
      have HB6 := Lib.hid (hB.out.trans ((((Below.refl wr.heap.size wr).drew).trans hb6).mono hsB))
      clear hb6 hcU' e0 e1 e2 hB
      cases r with
      | false =>
        have HRR := Lib.hid (show YesR (∀ r ∈ l, TailV P.os 0 r) w (.returned (.bool false)) w6 from YesR.f (fun h => Bool.noConfusion (hr.2 (h x (List.mem_of_getElem? HX.out)))) (bx1 HB6.out).2.2.1)
        clear hr hR
        go_wp2_with fail
        go_ret
        exact HRR.out
      | true =>
        have HN := Lib.hid (show ∀ j r, j < k + 1 → l[j]? = some r → TailV P.os 0 r from fun j r hj hr' => by
          rcases Nat.lt_succ_iff_lt_or_eq.1 hj with h | h
          · exact hR.out j r h hr'
          · subst h
            rw [HX.out] at hr'
            injection hr' with hr'
            rw [← hr']; exact hr.1 rfl)
        clear hr hR
        go_wp2_with fail
        go_roundw
        case rel => exact ⟨k + 1, by omega, by go_num, HN, HB6⟩
        case measure => simp [intOf]; omega
    · obtain rfl : k = n := by omega
      have HRR := Lib.hid (show YesR (∀ r ∈ l, TailV P.os 0 r) w (.returned (.bool true)) wr from YesR.t (fun r hr => by
        obtain ⟨j, hj⟩ := List.getElem?_of_mem hr
        exact hR.out j r (by have := (List.getElem?_eq_some_iff.1 hj).1; rw [HNL.out] at this; exact this) hj) hbw)
      clear hR hB hkB hbw hsB hlt e0 e1 e2
      go_wp2_with fail
      go_ret
      exact HRR.out

set_option maxRecDepth 100000 in
set_option maxHeartbeats 2000000 in
theorem same2_any (w : World) (va vb : Value) (a b : List (List Int)) (ha : Sl2 Any w va a) (hb : Sl2 Any w vb b) :
    Calls Tryz.prog 141 #[va, vb] w (YesR (a = b) w) := by
  obtain ⟨aA, cA, rfl, hlA, hmA⟩ := SlG.form ha
  obtain ⟨aB, cB, rfl, hlB, hmB⟩ := SlG.form hb
  unfold maxLen at hmA hmB
  obtain ⟨n, hn⟩ : ∃ n, a.length = n := ⟨_, rfl⟩
  have HA := Lib.hid ha
  have HB := Lib.hid hb
  have HN := Lib.hid hn
  have HEQ := Lib.hid (fun W u v x y (h1 : SlI Any W u x) (h2 : SlI Any W v y) => (SpecD.same_any W u v x y h1 h2).mono (R' := YesR (x = y) W) fun e w' h => ⟨_, h.1, by simp, bel_drawn (Below.refl _ _) h.2⟩)
  rw [hn] at HA hlA ⊢
  have hn63 : (n : Int) ≤ 9223372036854775807 := by omega
  obtain ⟨n', hn'⟩ : ∃ n', b.length = n' := ⟨_, rfl⟩
  have HN' := Lib.hid hn'
  rw [hn'] at HB hlB ⊢
  clear ha hb hn hn' hmA hmB hlA hlB
  by_cases hl : n = n'
  · subst hl
    have hl2 : ((n : Int) != (n : Int)) = false := by simp
    go_enter Tryz.func141, Tryz.ntmps141
    go_wp2_with fail
    go_loopw [5] (fun iv wr => ∃ k : Nat, k ≤ n ∧ iv = .int .i64 (k : Int) ∧ Hid (∀ j, j < k → a[j]? = b[j]?) ∧ Hid (Below w.heap.size w wr)) (fun iv _ => n - (intOf iv).toNat)
    case atStart => exact ⟨0, Nat.zero_le _, rfl, Lib.hid (fun j h => absurd h (Nat.not_lt_zero _)), Lib.hid (Below.refl _ _)⟩
    case round =>
      obtain ⟨k, hk, rfl, hR, hB⟩ := hrel
      by_cases hlt : k < n
      · obtain ⟨x, hx⟩ : ∃ x, a[k]? = some x := ⟨_, List.getElem?_eq_getElem (by rw [HN.out]; omega)⟩
        obtain ⟨y, hy⟩ : ∃ y, b[k]? = some y := ⟨_, List.getElem?_eq_getElem (by rw [HN'.out]; omega)⟩
        obtain ⟨bA, oA, u, rfl, _, hbA, hcA, hu⟩ := SlG.get HA.out hx
        obtain ⟨bB, oB, v, rfl, _, hbB, hcB, hv⟩ := SlG.get HB.out hy
        have hkB := Keep.of_below (S := Any) hB.out
        have hcA' := (hkB.cell (b := bA) (o := oA + k) trivial hbA).trans hcA
        have hcB' := (hkB.cell (b := bB) (o := oB + k) trivial hbB).trans hcB
        have hbA' := Nat.lt_of_lt_of_le hbA hkB.size
        have hbB' := Nat.lt_of_lt_of_le hbB hkB.size
        have HUU := Lib.hid (SlI.keep hu hkB)
        have HVV := Lib.hid (SlI.keep hv hkB)
        have HX := Lib.hid hx
        have HY := Lib.hid hy
        have hki : (k : Int) < (n : Int) := by omega
        have hki0 : (0 : Int) ≤ (k : Int) := by omega
        clear hx hy hcA hcB hu hv hkB
        go_wp2_with fail
        go_region_held3 (fun w' => (∀ b o, b < wr.heap.size → w'.cell? ⟨b, o, none⟩ = wr.cell? ⟨b, o, none⟩) ∧ Keep (fun _ => True) wr w')
          (first | exact ks_mk (by repeat (first | exact (Keep.refl _ _).drew | exact Keep.refl _ _ | refine Keep.drewN ?_ _ | refine Keep.trans ?_ (Keep.of_below (by assumption)))))
          (first | (go_at_call 171; refine (HEQ.out _ u v x y (HUU.out.keep (by repeat (first | exact (Keep.refl _ _).drew | exact Keep.refl _ _))) (HVV.out.keep (by repeat (first | exact (Keep.refl _ _).drew | exact Keep.refl _ _)))).mono ?_; rintro e w6 ⟨r, rfl, hr, hb6⟩))
        rename_i hHd
        clear hHd
        have HB6 := Lib.hid (hB.out.trans ((((Below.refl wr.heap.size wr).drew).trans hb6).mono hB.out.size))
        clear hb6 hcA' hcB' HUU HVV
        cases r with
        | true =>
          have HNN := Lib.hid (show ∀ j, j < k + 1 → a[j]? = b[j]? from fun j hj => by
            rcases Nat.lt_succ_iff_lt_or_eq.1 hj with h | h
            · exact hR.out j h
            · subst h; rw [HX.out, HY.out, hr.1 rfl])
          clear hr hR hB
          go_wp2_with fail
          go_roundw
          case rel => exact ⟨k + 1, by omega, by go_num, HNN, HB6⟩
          case measure => simp [intOf]; omega
        | false =>
          have HR := Lib.hid (show YesR (a = b) w (.returned (.bool false)) w6 from YesR.f (fun e => Bool.noConfusion (hr.2 (by
            have h1 := HX.out
            rw [e, HY.out] at h1
            exact (Option.some.inj h1).symm))) HB6.out)
          clear hr hR hB
          go_wp2_with fail
          go_ret
          exact HR.out
      · obtain rfl : k = n := by omega
        have HR := Lib.hid (show YesR (a = b) w (.returned (.bool true)) wr from YesR.t (List.ext_getElem? fun j => by
          by_cases hj : j < k
          · exact hR.out j hj
          · rw [List.getElem?_eq_none (by rw [HN.out]; omega), List.getElem?_eq_none (by rw [HN'.out]; omega)]) hB.out)
        clear hR hB
        go_wp2_with fail
        go_ret
        exact HR.out
  · have hl2 : ((n : Int) != (n' : Int)) = true := by simp; omega
    have HR := Lib.hid (show YesR (a = b) w (.returned (.bool false)) w from YesR.f (fun e => hl (by rw [← HN.out, ← HN'.out, e])) (Below.refl _ _))
    clear hl
    go_enter Tryz.func141, Tryz.ntmps141
    go_wp2_with fail
    go_ret
    exact HR.out
end Go.Proofs.YtabeedimnbkcgaaGreat.ChM

/-
  spec.l12Close without generators, l12Is, IsSubgroup.
-/
namespace Go.Proofs.YtabeedimnbkcgaaGreat.ChN
open Go.RowKit Go.Proofs.YtabeedimnbkcgaaGreat Go.Proofs.YtabeedimnbkcgaaGreat.Tow Go.Proofs.YtabeedimnbkcgaaGreat.Val Go.Proofs.YtabeedimnbkcgaaGreat.Grps Go.Proofs.YtabeedimnbkcgaaGreat.NumT Go.Proofs.YtabeedimnbkcgaaGreat.Gen Go.Proofs.YtabeedimnbkcgaaGreat.GenC Go.Proofs.YtabeedimnbkcgaaGreat.GenL Go.Proofs.YtabeedimnbkcgaaGreat.GenD Go.Proofs.YtabeedimnbkcgaaGreat.Tab Go.Proofs.YtabeedimnbkcgaaGreat.ImplD Go.Proofs.YtabeedimnbkcgaaGreat.SpecO Go.Proofs.YtabeedimnbkcgaaGreat.LawE Go.Proofs.YtabeedimnbkcgaaGreat.LawF Go.Proofs.YtabeedimnbkcgaaGreat.Elt Go.Proofs.YtabeedimnbkcgaaGreat.OrbC Go.Proofs.YtabeedimnbkcgaaGreat.ChA Go.Proofs.YtabeedimnbkcgaaGreat.ChP Go.Proofs.YtabeedimnbkcgaaGreat.ChV Go.Proofs.YtabeedimnbkcgaaGreat.ChZ Go.Proofs.YtabeedimnbkcgaaGreat.ChM
set_option linter.unusedVariables false
set_option linter.unusedSimpArgs false

def NilR (w : World) (e : Ending) (w' : World) : Prop := ∃ v, e = .returned v ∧ Sl2 Any w' v [] ∧ Below w.heap.size w w'
theorem mk0 (w : World) : (Instr.makeSlice 23 (.int .i64 0) (.int .i64 0)).run Tryz.prog w = .ok (.slice (some ⟨w.heap.size, 0, none⟩) 0 0) (w.alloc (.cells (madeCells #[.slice none 0 0] 0) 22)) := SpecO.mk23 0 (by omega) w
theorem sl2_nil (w : World) (b o c : Nat) (hc : c ≤ maxLen) : Sl2 Any w (.slice (some ⟨b, o, none⟩) 0 c) [] := ⟨_, c, rfl, Nat.zero_le _, hc, fun h => (by cases h), fun i x hx => (by simp at hx)⟩
set_option maxRecDepth 100000 in
set_option maxHeartbeats 1000000 in
theorem full0_any (w : World) (vO vP vC : Value) (aT : Option Addr) (cT : Nat) : Calls Tryz.prog 190 #[.agg #[vO, vP, vC], .slice aT 0 cT] w (NilR w) := by
  have hmk := mk0
  obtain ⟨W0, hW0⟩ : ∃ W0, W0 = w.alloc (.cells #[vO, vP, vC] 30) := ⟨_, rfl⟩
  have HB0 := Lib.hid (show Below (w.heap.size + 1) (w.alloc (.cells #[vO, vP, vC] 30)) W0 by rw [hW0]; exact Below.refl _ _)
  have HB1 := Lib.hid (show Below (w.heap.size + 1) (w.alloc (.cells #[vO, vP, vC] 30)) (W0.alloc (.cells (madeCells #[.slice none 0 0] 0) 22)) from HB0.out.alloc (bx1 HB0.out).2.2.2 _)
  go_enter Tryz.func190, Tryz.ntmps190
  go_upto_region 1 with fail
  rw [← hW0]
  clear hW0
  obtain ⟨g, hg⟩ : ∃ g, W0.heap.size = g := ⟨_, rfl⟩
  go_wp2_with fail
  go_loopw [6] (fun dv wr => dv = .int .i64 (-1) ∧ Hid (Below (w.heap.size + 1) (w.alloc (.cells #[vO, vP, vC] 30)) wr)) (fun _ _ => 0)
  case atStart => exact ⟨by first | rfl | simp, HB1⟩
  case round =>
    obtain ⟨rfl, hB⟩ := hrel
    have hd : decide ((-1 : Int) ≥ 0) = false := by decide
    clear HB1 HB0
    have hsB := (bx1 hB.out).2.2.2
    go_wp2_with fail
    rename World => wo
    have HB2 := Lib.hid (hB.out.alloc hsB (.cells #[] 22))
    go_loopw [9, 10] (fun ov iv wr => (∃ b, ov = .slice (some ⟨b, 0, none⟩) 0 0) ∧ iv = .int .i64 0 ∧ Hid (Below (w.heap.size + 1) (w.alloc (.cells #[vO, vP, vC] 30)) wr)) (fun _ _ _ => 0)
    case atStart => exact ⟨⟨_, rfl⟩, rfl, HB2⟩
    case round =>
      obtain ⟨⟨b, rfl⟩, rfl, hB'⟩ := hrel
      have hd0 : decide ((0 : Int) < 0) = false := by decide
      have HR := Lib.hid (show NilR w (.returned (.slice (some ⟨b, 0, none⟩) 0 0)) wr from ⟨_, rfl, sl2_nil _ _ _ _ (Nat.zero_le _), (bx1 hB'.out).2.2.1⟩)
      clear hB' hB HB2
      go_wp2_with fail
      go_ret
      exact HR.out
set_option maxRecDepth 100000 in
set_option maxHeartbeats 1000000 in
theorem close0_any (w : World) (vP vC vi : Value) (aO : Option Addr) (cO : Nat) (hi : Sl2 Any w vi []) : Calls Tryz.prog 142 #[.agg #[.slice aO 0 cO, vP, vC], vi] w (NilR w) := by
  have hmk := mk0
  have HF := Lib.hid (fun W a c => full0_any W (.slice aO 0 cO) vP vC a c)
  have HI := Lib.hid hi
  have HOW := Lib.hid (fun W (h : Sl2 Any W vi []) => SpecL.own2_any W vi [] h (by simp) (by simp))
  obtain ⟨aI, cI, hvi, _, hmI⟩ := SlG.form hi
  simp only [List.length_nil] at hvi
  subst hvi
  obtain ⟨W0, hW0⟩ : ∃ W0, W0 = w.alloc (.cells #[.slice aO 0 cO, vP, vC] 30) := ⟨_, rfl⟩
  have HB0 := Lib.hid (show Below (w.heap.size + 1) (w.alloc (.cells #[.slice aO 0 cO, vP, vC] 30)) W0 by rw [hW0]; exact Below.refl _ _)
  have HB1 := Lib.hid (show Below (w.heap.size + 1) (w.alloc (.cells #[.slice aO 0 cO, vP, vC] 30)) (W0.alloc (.cells (madeCells #[.slice none 0 0] 0) 22)) from HB0.out.alloc (bx1 HB0.out).2.2.2 _)
  have HOC := Lib.hid (HOW.out _ (Sl2.keep HI.out (bx1 HB1.out).2.1))
  clear hi hmI HOW
  go_enter Tryz.func142, Tryz.ntmps142
  go_upto_region 1 with fail
  rw [← hW0]
  clear hW0
  obtain ⟨⟨e0, e1, e2⟩, hk0, hbw0, hs0⟩ := bx1 HB0.out
  go_wp2_with fail
  refine HOC.out.mono ?_
  rintro e w1 ⟨v1, rfl, ho1, hb1⟩
  obtain ⟨a1, c1, hv1, _, _⟩ := ho1.form
  simp only [List.length_nil] at hv1
  subst hv1
  have HB2 := Lib.hid (HB1.out.trans (hb1.mono (bx1 HB1.out).2.2.2))
  clear ho1 hb1 HOC e0 e1 e2 hk0 hbw0 hs0 HB0 HB1
  go_wp2_with fail
  go_loopw [7] (fun qv wr => (∃ a c, qv = .slice a 0 c) ∧ Hid (Below (w.heap.size + 1) (w.alloc (.cells #[.slice aO 0 cO, vP, vC] 30)) wr)) (fun _ _ => 0)
  case atStart => exact ⟨⟨_, _, rfl⟩, HB2⟩
  case round =>
    obtain ⟨⟨a, c, rfl⟩, hB⟩ := hrel
    have hd0 : decide ((0 : Int) > 0) = false := by decide
    obtain ⟨⟨e0, e1, e2⟩, -, -, hsB⟩ := bx1 hB.out
    have hw0 : w.heap.size < wr.heap.size := by omega
    clear HB2
    go_wp2_with fail
    refine (HF.out _ _ _).mono ?_
    rintro e w3 ⟨v3, rfl, h3, hb3⟩
    have HR := Lib.hid (show NilR w (.returned v3) w3 from ⟨v3, rfl, h3, (bx1 (hB.out.trans (hb3.mono hsB))).2.2.1⟩)
    clear h3 hb3
    go_wp2_with fail
    go_ret
    exact HR.out

/-- the closing, in all -/
def ClsR (T : Tw) (im : List (List Nat)) (w : World) (e : Ending) (w' : World) : Prop := ∃ v us, e = .returned v ∧ CanL T im us ∧ Sl2 Any w' v (us.map ints) ∧ Below w.heap.size w w'
theorem close_all (T : Tw) (hT : Wf T) (hs : Small T) (hg : Tow.Good T) (hp : SpecI.Pr T) (w : World) (vO vP vC vi : Value) (im : List (List Nat)) (hP : ValP Any w vO vP vC (ofTw T)) (hi : Sl2 Any w vi (im.map ints)) (him : ∀ x ∈ im, El T x) (hl : im.length ≤ T.length) :
    Calls Tryz.prog 142 #[.agg #[vO, vP, vC], vi] w (ClsR T im w) := by
  have hs6 := hs.1
  rcases Nat.eq_zero_or_pos T.length with h0 | h0
  · obtain rfl : T = [] := List.eq_nil_of_length_eq_zero h0
    obtain rfl : im = [] := List.eq_nil_of_length_eq_zero (by simpa using hl)
    obtain ⟨aO, cO, aP, cP, aC, cC, rfl, -⟩ := hP.open
    refine (close0_any w vP vC vi aO cO hi).mono ?_
    rintro e w' ⟨v, rfl, h1, h2⟩
    have hc := LInv.clo (fil hT hg) (im := []) (fun c hc => by simp at hc) (LInv.start (fil hT hg) (fun c hc => by simp at hc))
    exact ⟨v, [], rfl, ⟨_, fun _ => none, hc, fun d => ⟨fun _ => rfl, fun y hy => by cases hy⟩, rfl⟩, h1, h2⟩
  · refine (SpecP.close_any T hT hs hg hp h0 w vO vP vC vi im hP hi him (by omega)).mono ?_
    rintro e w' ⟨v, tl, dn, rfl, h1, _, h2, h3, h4⟩
    exact ⟨v, _, rfl, ⟨_, _, h1, fd_cf hT hg h1 h2, rfl⟩, h3, h4⟩

set_option maxRecDepth 100000 in
set_option maxHeartbeats 2000000 in
theorem is_any (T : Tw) (w : World) (vO vP vC vu : Value) (l : List (List Int)) (hG : Grp (ofTw T)) (hP : ValP Any w vO vP vC (ofTw T)) (hu : Sl2 Any w vu l) :
    Calls Tryz.prog 101 #[.agg #[vO, vP, vC], vu] w (YesR (SubV (ofTw T) l) w) := by
  obtain ⟨hT, hsT, hgT, hpT⟩ := SpecX.grp_parts hG
  have hs6 := hsT.1
  obtain ⟨aO, cO, aP, cP, aC, cC, rfl, rfl, rfl, hO1, hP1, hC1⟩ := hP.open
  have HP := Lib.hid hP
  have HU := Lib.hid hu
  have HPRM := Lib.hid (grp_pr hG)
  have HSL := Lib.hid (fun h => SubV.len (T := T) (l := l) h)
  have HSR := Lib.hid (fun h => SubV.row (P := ofTw T) (l := l) h)
  have HIFF := Lib.hid (fun rows us h => SubV.iff hT hgT hG (rows := rows) (us := us) h)
  have HCLO := Lib.hid (fun W vl im h1 h2 h3 h4 => close_all T hT hsT hgT hpT W (.slice aO T.length cO) (.slice aP T.length cP) (.slice aC T.length cC) vl im h1 h2 h3 h4)
  obtain ⟨aU, cU, rfl, hlU, hmU⟩ := SlG.form hu
  obtain ⟨n, hn⟩ : ∃ n, l.length = n := ⟨_, rfl⟩
  have HNL := Lib.hid hn
  rw [hn] at HU hlU ⊢
  obtain ⟨W0, hW0⟩ : ∃ W0, W0 = w.alloc (.cells #[.slice aO T.length cO, .slice aP T.length cP, .slice aC T.length cC] 30) := ⟨_, rfl⟩
  have HB0 := Lib.hid (show Below (w.heap.size + 1) (w.alloc (.cells #[.slice aO T.length cO, .slice aP T.length cP, .slice aC T.length cC] 30)) W0 by rw [hW0]; exact Below.refl _ _)
  obtain ⟨⟨e0, e1, e2⟩, hk0, hbw0, hs0⟩ := bx1 HB0.out
  have HEC := Lib.hid (elements_any W0 (.slice aO T.length cO) (.slice aP T.length cP) (.slice aC T.length cC) (.slice aU n cU) (ofTw T) l (HP.out.keep hk0) (Sl2.keep HU.out hk0) HPRM.out)
  have HBW0 := Lib.hid hbw0
  clear hP hu hn hlU hmU hG hT hsT hgT hpT hk0 hbw0 e0 e1 e2
  go_enter Tryz.func101, Tryz.ntmps101
  go_upto_region 1 with fail
  rw [← hW0]
  clear hW0
  obtain ⟨⟨e0, e1, e2⟩, -, -, hs0⟩ := bx1 HB0.out
  by_cases hle : n ≤ T.length
  · have hd : decide ((n : Int) ≤ (T.length : Int)) = true := by simp; omega
    go_wp2_with fail
    refine HEC.out.mono ?_
    rintro e w1 ⟨r, rfl, hr, hb1⟩
    have HB1 := Lib.hid (HB0.out.trans (hb1.mono hs0))
    clear hb1 HEC e0 e1 e2 hs0
    cases r with
    | false =>
      have HR := Lib.hid (show YesR (SubV (ofTw T) l) w (.returned (.bool false)) w1 from YesR.f (fun h => Bool.noConfusion (hr.2 (HSR.out h))) (bx1 HB1.out).2.2.1)
      clear hr
      go_wp2_with fail
      go_ret
      exact HR.out
    | true =>
      obtain ⟨rows, hrows, hrE⟩ := rows_of (T := T) (l := l) (hr.1 rfl)
      obtain ⟨⟨e0, e1, e2⟩, hk1, -, hs1⟩ := bx1 HB1.out
      have HUr := Lib.hid (Sl2.keep HU.out hk1)
      have HCC := Lib.hid (HCLO.out w1 (.slice aU n cU) rows (HP.out.keep hk1) (by rw [← hrows]; exact HUr.out) hrE (by
        have : rows.length = n := by rw [← HNL.out, hrows, List.length_map]
        omega))
      have HRW := Lib.hid hrows
      clear hrows hrE hk1 hr
      go_wp2_with fail
      refine HCC.out.mono ?_
      rintro e w3 ⟨v3, us, rfl, hcan, hsl, hb3⟩
      have HB3 := Lib.hid (HB1.out.trans (hb3.mono hs1))
      have HCAN := Lib.hid hcan
      have HSC := Lib.hid (same2_any w3 v3 (.slice aU n cU) (us.map ints) l hsl (Sl2.keep HUr.out (Keep.of_below hb3)))
      clear hcan hsl hb3 HCC HUr e0 e1 e2 hs1
      go_wp2_with fail
      refine HSC.out.mono ?_
      rintro e w4 ⟨r, rfl, hr, hb4⟩
      have HB4 := Lib.hid (HB3.out.trans (hb4.mono (bx1 HB3.out).2.2.2))
      have HI := Lib.hid (show SubV (ofTw T) l ↔ us.map ints = l from by
        have h := HIFF.out rows us HCAN.out
        rw [HRW.out, h]
        exact ⟨fun h => by rw [h], fun h => rows_inj h⟩)
      have HR := Lib.hid (show YesR (SubV (ofTw T) l) w (.returned (.bool r)) w4 from ⟨r, rfl, hr.trans HI.out.symm, (bx1 HB4.out).2.2.1⟩)
      clear hr hb4 HSC
      go_wp2_with fail
      go_ret
      exact HR.out
  · have hd : decide ((n : Int) ≤ (T.length : Int)) = false := by simp; omega
    have HR := Lib.hid (show YesR (SubV (ofTw T) l) w (.returned (.bool false)) W0 from YesR.f (fun h => by have h1 := HSL.out h; rw [HNL.out] at h1; omega) HBW0.out)
    have hle' : T.length < n := by omega
    go_wp2_with fail
    go_ret
    exact HR.out

set_option maxRecDepth 100000 in
set_option maxHeartbeats 2000000 in
theorem isSub_any (w : World) (vO vP vC vu : Value) (P : Pres) (l : List (List Int)) (hP : ValP Any w vO vP vC P) (hu : Sl2 Any w vu l) :
    Calls Tryz.prog 72 #[.agg #[vO, vP, vC], vu] w (YesR (SubV P l) w) := by
  have HP := Lib.hid hP
  have HU := Lib.hid hu
  obtain ⟨W0, hW0⟩ : ∃ W0, W0 = w.alloc (.cells #[vO, vP, vC] 30) := ⟨_, rfl⟩
  have HB0 := Lib.hid (show Below (w.heap.size + 1) (w.alloc (.cells #[vO, vP, vC] 30)) W0 by rw [hW0]; exact Below.refl _ _)
  obtain ⟨⟨e0, e1, e2⟩, hk0, hbw0, hs0⟩ := bx1 HB0.out
  have HGC := Lib.hid (SpecH.group_any W0 vO vP vC P (hP.keep hk0))
  clear hP hu hk0 hbw0 e0 e1 e2
  go_enter Tryz.func72, Tryz.ntmps72
  go_upto_region 1 with fail
  rw [← hW0]
  clear hW0
  obtain ⟨⟨e0, e1, e2⟩, -, -, -⟩ := bx1 HB0.out
  go_wp2_with fail
  refine HGC.out.mono ?_
  rintro e w1 ⟨r, rfl, hr, hb1⟩
  have HB1 := Lib.hid (HB0.out.trans (hb1.mono hs0))
  clear hb1 HGC e0 e1 e2 hs0
  cases r with
  | false =>
    have HR := Lib.hid (show YesR (SubV P l) w (.returned (.bool false)) w1 from YesR.f (fun h => Bool.noConfusion (hr.2 h.1)) (bx1 HB1.out).2.2.1)
    clear hr
    go_wp2_with fail
    go_ret
    exact HR.out
  | true =>
    have hG : Grp P := hr.1 rfl
    obtain ⟨T, hTE⟩ : ∃ T, P = ofTw T := by obtain ⟨T, _, _, h, _⟩ := hG; exact ⟨T, h⟩
    subst hTE
    obtain ⟨⟨e0, e1, e2⟩, hk1, -, hs1⟩ := bx1 HB1.out
    have HIC := Lib.hid (is_any T w1 vO vP vC vu l hG (HP.out.keep hk1) (Sl2.keep HU.out hk1))
    clear hG hr hk1
    go_wp2_with fail
    refine HIC.out.mono ?_
    rintro e w2 ⟨r, rfl, hr, hb2⟩
    have HR := Lib.hid (show YesR (SubV (ofTw T) l) w (.returned (.bool r)) w2 from ⟨r, rfl, hr, (bx1 (HB1.out.trans (hb2.mono hs1))).2.2.1⟩)
    clear hr hb2 HIC e0 e1 e2
    go_wp2_with fail
    go_ret
    exact HR.out
end Go.Proofs.YtabeedimnbkcgaaGreat.ChN

/-
  spec.IsCharacteristic.
-/
namespace Go.Proofs.YtabeedimnbkcgaaGreat.ChO
open Go.RowKit Go.Proofs.YtabeedimnbkcgaaGreat Go.Proofs.YtabeedimnbkcgaaGreat.Tow Go.Proofs.YtabeedimnbkcgaaGreat.Val Go.Proofs.YtabeedimnbkcgaaGreat.Grps Go.Proofs.YtabeedimnbkcgaaGreat.NumT Go.Proofs.YtabeedimnbkcgaaGreat.Gen Go.Proofs.YtabeedimnbkcgaaGreat.GenC Go.Proofs.YtabeedimnbkcgaaGreat.GenL Go.Proofs.YtabeedimnbkcgaaGreat.GenD Go.Proofs.YtabeedimnbkcgaaGreat.Tab Go.Proofs.YtabeedimnbkcgaaGreat.ImplD Go.Proofs.YtabeedimnbkcgaaGreat.SpecO Go.Proofs.YtabeedimnbkcgaaGreat.LawE Go.Proofs.YtabeedimnbkcgaaGreat.LawF Go.Proofs.YtabeedimnbkcgaaGreat.Elt Go.Proofs.YtabeedimnbkcgaaGreat.OrbC Go.Proofs.YtabeedimnbkcgaaGreat.ChA Go.Proofs.YtabeedimnbkcgaaGreat.ChP Go.Proofs.YtabeedimnbkcgaaGreat.ChV Go.Proofs.YtabeedimnbkcgaaGreat.ChZ Go.Proofs.YtabeedimnbkcgaaGreat.ChM Go.Proofs.YtabeedimnbkcgaaGreat.ChN
set_option linter.unusedVariables false
set_option linter.unusedSimpArgs false

theorem own3_at {B : Nat} {w : World} {v : Value} {L : List (List (List Nat))} (h : Own3 B w v L) {i : Nat} {R : List (List Nat)} (hr : L[i]? = some R) :
    ∃ g cap u, v = .slice (some ⟨g, 0, none⟩) L.length cap ∧ g < w.heap.size ∧ w.cell? ⟨g, i, none⟩ = some u ∧ Sl2 Any w u (R.map ints) := by
  obtain ⟨us, h1, h2, h4⟩ := h
  have hil := (List.getElem?_eq_some_iff.1 hr).1
  rcases h1.2 with ⟨rfl, hn⟩ | ⟨g, cap, cur, rfl, hb, hgg, hn, hm, hs, ht⟩
  · omega
  · obtain ⟨u, hu⟩ : ∃ u, us[i]? = some u := ⟨_, List.getElem?_eq_getElem (by omega)⟩
    refine ⟨g, cap, u, rfl, (Array.getElem?_eq_some_iff.1 hgg).1, ?_, Sl2.mono (h4 i R u hr hu).sl (fun _ _ => trivial)⟩
    have := World.ownsRow.cells h1 (g := g) rfl i u hu
    rw [addr_add, Nat.zero_add] at this
    exact this
def SChaR (P : Pres) (l : List (List Int)) (w : World) (e : Ending) (w' : World) : Prop := ∃ (b : Bool) (k : Int), e = .returned (.tuple #[.bool b, .int .i64 k]) ∧ ChaV P l b k ∧ Below w.heap.size w w'
abbrev ImM (T : Tw) (rows : List (List Nat)) (f u : List Nat) : Prop := Gen.Gen (mul T) (Tow.one T) rows (prodL (mul T) (Tow.one T) (f.map (at_ T)) u)

set_option maxRecDepth 100000 in
set_option maxHeartbeats 4000000 in
theorem spec_is (w : World) (pO pP pC vU : Value) (P : Pres) (l : List (List Int)) (hP : ValP Any w pO pP pC P) (hU : Sl2 Any w vU l) :
    Calls Tryz.prog 38 #[.agg #[pO, pP, pC], vU] w (SChaR P l w) := by
  obtain ⟨aU, cU, rfl, hlU, hmU⟩ := SlG.form hU
  obtain ⟨n, hn⟩ : ∃ n, l.length = n := ⟨_, rfl⟩
  have HNL := Lib.hid hn
  rw [hn] at hU hlU ⊢
  have hn63 : (n : Int) ≤ 9223372036854775807 := by unfold maxLen at hmU; omega
  have HP := Lib.hid hP
  have HU := Lib.hid hU
  obtain ⟨W0, hW0⟩ : ∃ W0, W0 = w.alloc (.cells #[pO, pP, pC] 30) := ⟨_, rfl⟩
  have HB0 := Lib.hid (show Below (w.heap.size + 1) (w.alloc (.cells #[pO, pP, pC] 30)) W0 by rw [hW0]; exact Below.refl _ _)
  obtain ⟨⟨e0, e1, e2⟩, hk, hbw, hs⟩ := bx1 HB0.out
  have HIC := Lib.hid (isSub_any W0 pO pP pC (.slice aU n cU) P l (hP.keep hk) (Sl2.keep hU hk))
  clear hP hU hn hlU hmU e0 e1 e2 hk hbw hs
  go_enter Tryz.func38, Tryz.ntmps38
  go_upto_region 1 with fail
  rw [← hW0]
  clear hW0
  obtain ⟨⟨e0, e1, e2⟩, -, -, hs⟩ := bx1 HB0.out
  go_wp2_with fail
  refine HIC.out.mono ?_
  rintro e w1 ⟨r, rfl, hr, hb1⟩
  have HB1 := Lib.hid (HB0.out.trans (hb1.mono hs))
  clear e0 e1 e2 hs hb1 HIC
  obtain ⟨⟨e0, e1, e2⟩, hk, hbw, hs⟩ := bx1 HB1.out
  have HBW1 := Lib.hid hbw
  by_cases hE : SubV P l
  · obtain rfl : r = true := hr.2 hE
    obtain ⟨T, hTE⟩ : ∃ T, P = ofTw T := by obtain ⟨T, _, _, h, _⟩ := hE.1; exact ⟨T, h⟩
    subst hTE
    obtain ⟨rows, hrows⟩ : ∃ rows : List (List Nat), l = rows.map ints := by obtain ⟨_, _, rows, _, h, _⟩ := hE; exact ⟨rows, h⟩
    subst hrows
    have HE := Lib.hid hE
    have HG := Lib.hid hE.1
    have HCAN := Lib.hid hE.can
    have HSZ := Lib.hid (SpecN.order_any T (IsoA.grp_sz HG.out).1 w1 pO pP pC (by have h := (HP.out.keep hk).os; rwa [SpecN.ofTw_ords] at h))
    clear hr hE hk hbw
    go_wp2_with fail
    refine HSZ.out.mono ?_
    rintro e w2 ⟨rfl, hb2⟩
    have HB2 := Lib.hid (HB1.out.trans (hb2.mono hs))
    clear hb2 hs e0 e1 e2 HSZ
    obtain ⟨⟨e0, e1, e2⟩, hk, hbw, hs⟩ := bx1 HB2.out
    have HBW2 := Lib.hid hbw
    by_cases h27 : 27 < sz T
    · have hd : decide ((sz T : Int) > 27) = true := by simp; omega
      have HR := Lib.hid (show SChaR (ofTw T) (rows.map ints) w (.returned (.tuple #[.bool false, .int .i64 3])) w2 from ⟨_, 3, rfl, .inr ⟨HE.out, T, rows, rfl, rfl, .inl ⟨h27, rfl, rfl⟩⟩, HBW2.out⟩)
      clear hk hbw
      go_wp2_with fail
      exact bodyPost_ret (v := .tuple #[.bool false, .int .i64 3]) (by simp [results, Tryz.results38, go_sem]) rfl HR.out
    · have hd : decide ((sz T : Int) > 27) = false := by simp; omega
      have hz : sz T ≤ 27 := by omega
      obtain ⟨hT, hsT, hgT, hpT⟩ := SpecX.grp_parts HG.out
      have hs6 := hsT.1
      have HNR := Lib.hid (show rows.length = n by have := HNL.out; rwa [List.length_map] at this)
      have HCH := Lib.hid (show ∀ b : Bool, (b = true ↔ Chr T rows) → ChaV (ofTw T) (rows.map ints) b 0 from fun b hb => .inr ⟨HE.out, T, rows, rfl, rfl, .inr ⟨hz, rfl, hb⟩⟩)
      obtain ⟨aO, cO, aP, cP, aC, cC, rfl, rfl, rfl, hO1, hP1, hC1⟩ := HP.out.open
      by_cases hnn : n = T.length
      · have hq : ((n : Int) == (T.length : Int)) = true := by simp; omega
        have HR := Lib.hid (show SChaR (ofTw T) (rows.map ints) w (.returned (.tuple #[.bool true, .int .i64 0])) w2 from ⟨_, 0, rfl, HCH.out true ⟨fun _ => chr_full hT hgT HCAN.out (by rw [HNR.out]; exact hnn), fun _ => rfl⟩, HBW2.out⟩)
        clear hk hbw hT hsT hgT hpT hnn h27 hz
        go_wp2_with fail
        exact bodyPost_ret (v := .tuple #[.bool true, .int .i64 0]) (by simp [results, Tryz.results38, go_sem]) rfl HR.out
      · have hq : ((n : Int) == (T.length : Int)) = false := by simp; omega
        have hle := HCAN.out.le
        have hn0 : 0 < T.length := by have := HNR.out; omega
        have HEM := Lib.hid (SpecX.embed_any T T hT hsT hT hsT hgT hpT hz (fun h => h) w2 (.slice aO T.length cO) (.slice aP T.length cP) (.slice aC T.length cC) (.slice aO T.length cO) (.slice aP T.length cP) (.slice aC T.length cC) (HP.out.keep hk) (HP.out.keep hk))
        have HME := Lib.hid (FindC.maps_eq HG.out HG.out)
        have HAP := Lib.hid (fun W vf vx (f x : List Nat) (hp : ValP Any W (.slice aO T.length cO) (.slice aP T.length cP) (.slice aC T.length cC) (ofTw T)) (hf : Sl2 Any W vf ((f.map (at_ T)).map ints)) (hx : SlI Any W vx (ints x)) (hfl : f.length = T.length) (hxE : El T x) => SpecL.apply_any T hT hsT hgT W _ _ _ vf vx (f.map (at_ T)) x hp hf hx (by rw [List.length_map]; have := El_length hxE; omega) (by rw [List.length_map]; omega) (fun c hc => by obtain ⟨i, _, rfl⟩ := List.mem_map.1 hc; exact at_El hT i) (fun a ha => by
          obtain ⟨j, hj⟩ := List.getElem?_of_mem ha
          have := hsT.lt (s := 0) (x := x) hxE (Nat.zero_le _) hj
          omega))
        have HHA := Lib.hid (fun W vu vx x hp hu hx hxE => has_any T hT hsT hgT hn0 W (.slice aO T.length cO) (.slice aP T.length cP) (.slice aC T.length cC) vu vx rows x HCAN.out hp hu hx hxE)
        have HIE := Lib.hid (fun f x : List Nat => show El T (prodL (mul T) (Tow.one T) (f.map (at_ T)) x) from img_El hT)
        have HRE := Lib.hid HCAN.out.el
        have HGL := Lib.hid (show (∀ f ∈ Grow.grow T T T.length [], f.length = T.length) ∧ (Grow.grow T T T.length []).length ≤ 1000000000 from ⟨fun f hf => by simpa using ImplY.grow_rows _ _ _ hf, by
          have h1 := Grow.grow_length T T hz T.length []
          have h6 : 27 ^ T.length ≤ 27 ^ 6 := Nat.pow_le_pow_right (by omega) hsT.1
          omega⟩)
        clear hk hbw hT hsT hgT hpT hnn h27 hz hle
        go_wp2_with fail
        refine HEM.out.mono ?_
        rintro e w3 ⟨v3, rfl, ho3, hb3⟩
        rw [HME.out] at ho3
        have HB3 := Lib.hid (HB2.out.trans (hb3.mono hs))
        obtain ⟨a3, c3, rfl, _, _⟩ := Own3.form ho3
        obtain ⟨mF, hmf⟩ : ∃ mF, (Grow.grow T T T.length []).length = mF := ⟨_, rfl⟩
        have HMF := Lib.hid hmf
        have HO3 := Lib.hid ho3
        rw [List.length_map, hmf] at HO3 ⊢
        have hmF9 : mF ≤ 1000000000 := by rw [← hmf]; exact HGL.out.2
        have HBW3 := Lib.hid (bx1 HB3.out).2.2.1
        have HS3 := Lib.hid (bx1 HB3.out).2.2.2
        clear ho3 hb3 hmf HEM HME hs e0 e1 e2
        go_wp2_with fail
        go_loopw [7] (fun iv wr => ∃ i : Nat, i ≤ mF ∧ iv = .int .i64 (i : Int) ∧ Hid (∀ k f, k < i → (Grow.grow T T T.length [])[k]? = some f → ∀ u ∈ rows, ImM T rows f u) ∧ Hid (Below w3.heap.size w3 wr)) (fun iv _ => mF - (intOf iv).toNat)
        case atStart => exact ⟨0, Nat.zero_le _, rfl, Lib.hid (fun k f h => absurd h (Nat.not_lt_zero _)), Lib.hid (Below.refl _ _)⟩
        case round =>
          obtain ⟨i, hi, rfl, hS, hB⟩ := hrel
          by_cases hlt : i < mF
          · obtain ⟨f, hf⟩ : ∃ f, (Grow.grow T T T.length [])[i]? = some f := ⟨_, List.getElem?_eq_getElem (by rw [HMF.out]; exact hlt)⟩
            have HFI := Lib.hid hf
            have HFL := Lib.hid (HGL.out.1 f (List.mem_of_getElem? hf))
            obtain ⟨g, cap, uf, e1, hgl, hcf, hrow⟩ := own3_at HO3.out (i := i) (R := f.map (at_ T)) (by rw [List.getElem?_map, hf]; rfl)
            simp only [Value.slice.injEq] at e1
            obtain ⟨rfl, -, rfl⟩ := e1
            have HROW := Lib.hid hrow
            have hii : (i : Int) < (mF : Int) := by omega
            have hii0 : (0 : Int) ≤ (i : Int) := by omega
            have hdi : decide ((i : Int) < (mF : Int)) = true := by simp; omega
            clear hf hrow
            go_wp2_with fail
            go_loopw [8] (fun jv wr => ∃ j : Nat, j ≤ n ∧ jv = .int .i64 (j : Int) ∧ Hid (∀ k u, k < j → rows[k]? = some u → ImM T rows f u) ∧ Hid (Below w3.heap.size w3 wr)) (fun jv _ => n - (intOf jv).toNat)
            case atStart => exact ⟨0, Nat.zero_le _, rfl, Lib.hid (fun k f h => absurd h (Nat.not_lt_zero _)), hB⟩
            case round =>
              clear hB
              obtain ⟨j, hj, rfl, hR, hB⟩ := hrel
              have HBX := Lib.hid (HB3.out.trans (hB.out.mono HS3.out))
              obtain ⟨⟨e0, e1, e2⟩, hkX, hbwX, hsX⟩ := bx1 HBX.out
              have hk3 := Keep.of_below (S := Any) hB.out
              by_cases hjn : j < n
              · obtain ⟨u, hu⟩ : ∃ u, rows[j]? = some u := ⟨_, List.getElem?_eq_getElem (by rw [HNR.out]; exact hjn)⟩
                obtain ⟨bU, oU, q, rfl, _, hbU, hcU, hq⟩ := SlG.get HU.out (k := j) (x := ints u) (by rw [List.getElem?_map, hu]; rfl)
                have hcU' := (hkX.cell (b := bU) (o := oU + j) trivial hbU).trans hcU
                have hbU' := Nat.lt_of_lt_of_le hbU hkX.size
                have hcf' := (hk3.cell (b := g) (o := i) trivial hgl).trans hcf
                have hgl' := Nat.lt_of_lt_of_le hgl hk3.size
                have huE := HRE.out u (List.mem_of_getElem? hu)
                have HPX := Lib.hid (HP.out.keep hkX)
                have HUX := Lib.hid (Sl2.keep HU.out hkX)
                have HFX := Lib.hid (Sl2.keep HROW.out hk3)
                have HQX := Lib.hid (SlI.keep hq hkX)
                have HUI := Lib.hid hu
                have hji : (j : Int) < (n : Int) := by omega
                have hji0 : (0 : Int) ≤ (j : Int) := by omega
                have hdj : decide ((j : Int) < (n : Int)) = true := by simp; omega
                have hw0 : w.heap.size < wr.heap.size := by omega
                clear hu hcU hq hkX hk3 hbwX
                go_wp2_with fail
                go_region_held3 (fun w' => (∀ b o, b < wr.heap.size → w'.cell? ⟨b, o, none⟩ = wr.cell? ⟨b, o, none⟩) ∧ Keep (fun _ => True) wr w')
                  (first | exact ks_mk (by repeat (first | exact (Keep.refl _ _).drew | exact Keep.refl _ _ | refine Keep.trans ?_ (Keep.of_below (by assumption)))))
                  (first | (go_at_call 74; refine (HAP.out _ uf q f u (HPX.out.keep (by repeat (first | exact (Keep.refl _ _).drew | exact Keep.refl _ _ | refine Keep.trans ?_ (Keep.of_below (by assumption))))) (Sl2.keep HFX.out (by repeat (first | exact (Keep.refl _ _).drew | exact Keep.refl _ _ | refine Keep.trans ?_ (Keep.of_below (by assumption))))) (HQX.out.keep (by repeat (first | exact (Keep.refl _ _).drew | exact Keep.refl _ _ | refine Keep.trans ?_ (Keep.of_below (by assumption))))) HFL.out huE).mono ?_; rintro e w6 ⟨v6, rfl, ho6, hb6⟩) | (go_at_call_of 73 v6; refine (HHA.out _ (.slice (some ⟨bU, oU, none⟩) n cU) v6 _ (HPX.out.keep (by repeat (first | exact (Keep.refl _ _).drew | exact Keep.refl _ _ | refine Keep.trans ?_ (Keep.of_below (by assumption))))) (Sl2.keep HUX.out (by repeat (first | exact (Keep.refl _ _).drew | exact Keep.refl _ _ | refine Keep.trans ?_ (Keep.of_below (by assumption))))) (ho6.sl.mono (fun _ _ => trivial)) (HIE.out f u)).mono ?_; rintro e w8 ⟨r, rfl, hr, hb8⟩))
                rename_i hHd
                clear hHd
                have hb46 : Below wr.heap.size wr w6 := ((Below.refl _ _).drew).trans hb6
                have HB8 := Lib.hid (hB.out.trans ((hb46.trans (hb8.mono hb46.size)).mono hB.out.size))
                clear ho6 hb6 hb8 hb46 hcU' hcf' e0 e1 e2 hsX HBX hB
                cases r with
                | false =>
                  have HRR := Lib.hid (show SChaR (ofTw T) (rows.map ints) w (.returned (.tuple #[.bool false, .int .i64 0])) w8 from ⟨_, _, rfl, HCH.out false ⟨fun h => Bool.noConfusion h, fun h => Bool.noConfusion (hr.2 (h f (List.mem_of_getElem? HFI.out) u (List.mem_of_getElem? HUI.out)))⟩, HBW3.out.trans (HB8.out.mono HBW3.out.size)⟩)
                  clear hr hR hS
                  go_wp2_with fail
                  exact bodyPost_ret (v := .tuple #[.bool false, .int .i64 0]) (by simp [results, Tryz.results38, go_sem]) rfl HRR.out
                | true =>
                  have HN := Lib.hid (show ∀ k u, k < j + 1 → rows[k]? = some u → ImM T rows f u from fun k u' hk hu' => by
                    rcases Nat.lt_succ_iff_lt_or_eq.1 hk with h | h
                    · exact hR.out k u' h hu'
                    · subst h
                      rw [HUI.out] at hu'
                      injection hu' with hu'
                      rw [← hu']; exact hr.1 rfl)
                  clear hr hR
                  go_wp2_with fail
                  go_roundw
                  case rel => exact ⟨j + 1, by omega, by go_num, HN, HB8⟩
                  case measure => simp [intOf]; omega
              · obtain rfl : j = n := by omega
                have hdj : decide ((j : Int) < (j : Int)) = false := by simp
                have HN := Lib.hid (show ∀ k f, k < i + 1 → (Grow.grow T T T.length [])[k]? = some f → ∀ u ∈ rows, ImM T rows f u from fun k f' hk hf' => by
                  rcases Nat.lt_succ_iff_lt_or_eq.1 hk with h | h
                  · exact hS.out k f' h hf'
                  · subst h
                    rw [HFI.out] at hf'
                    injection hf' with hf'
                    rw [← hf']
                    intro u hu
                    obtain ⟨k', hk'⟩ := List.getElem?_of_mem hu
                    exact hR.out k' u (by have := (List.getElem?_eq_some_iff.1 hk').1; rw [HNR.out] at this; exact this) hk')
                clear hR hS hkX hk3 hbwX e0 e1 e2
                go_wp2_with fail
                go_roundw
                case rel => exact ⟨i + 1, by omega, by go_num, HN, hB⟩
                case measure => simp [intOf]; omega
          · obtain rfl : i = mF := by omega
            have hdi : decide ((i : Int) < (i : Int)) = false := by simp
            have HRR := Lib.hid (show SChaR (ofTw T) (rows.map ints) w (.returned (.tuple #[.bool true, .int .i64 0])) wr from ⟨_, _, rfl, HCH.out true ⟨fun _ f hf u hu => by
              obtain ⟨k, hk⟩ := List.getElem?_of_mem hf
              exact hS.out k f (by have := (List.getElem?_eq_some_iff.1 hk).1; rw [HMF.out] at this; exact this) hk u hu, fun _ => rfl⟩, HBW3.out.trans (hB.out.mono HBW3.out.size)⟩)
            clear hS hB
            go_wp2_with fail
            exact bodyPost_ret (v := .tuple #[.bool true, .int .i64 0]) (by simp [results, Tryz.results38, go_sem]) rfl HRR.out
  · obtain rfl : r = false := by
      cases r with
      | false => rfl
      | true => exact absurd (hr.1 rfl) hE
    have HR := Lib.hid (show SChaR P l w (.returned (.tuple #[.bool false, .int .i64 1])) w1 from ⟨_, 1, rfl, .inl ⟨hE, rfl, rfl⟩, HBW1.out⟩)
    clear hr hE hk hbw
    go_wp2_with fail
    exact bodyPost_ret (v := .tuple #[.bool false, .int .i64 1]) (by simp [results, Tryz.results38, go_sem]) rfl HR.out
end Go.Proofs.YtabeedimnbkcgaaGreat.ChO

/-
  The law FnExactIsCharacteristic, walked.
-/
namespace Go.Proofs.YtabeedimnbkcgaaGreat.ChL
open Go.RowKit Go.Proofs.YtabeedimnbkcgaaGreat Go.Proofs.YtabeedimnbkcgaaGreat.Tow Go.Proofs.YtabeedimnbkcgaaGreat.SpecB Go.Proofs.YtabeedimnbkcgaaGreat.LawB Go.Proofs.YtabeedimnbkcgaaGreat.LawC Go.Proofs.YtabeedimnbkcgaaGreat.LawD Go.Proofs.YtabeedimnbkcgaaGreat.LawE Go.Proofs.YtabeedimnbkcgaaGreat.LawF Go.Proofs.YtabeedimnbkcgaaGreat.ChV Go.Proofs.YtabeedimnbkcgaaGreat.ChY Go.Proofs.YtabeedimnbkcgaaGreat.ChO
set_option linter.unusedVariables false
set_option linter.unusedSimpArgs false

set_option maxRecDepth 100000 in
set_option maxHeartbeats 4000000 in
theorem walk (pO pP pC : Value) (P : Pres) (vx : Value) (l : List (List Int)) (w : World) (hP : ValP Any w pO pP pC P) (hl : Sl2 Any w vx l) :
    Calls Tryz.prog 9 #[.agg #[pO, pP, pC], vx] w fun e w' => e = .returned (.bool true) ∧ Below w.heap.size w w' := by
  have HP := Lib.hid hP
  have HL := Lib.hid hl
  have HSZ := Lib.hid (fun W h => (szP_any W pO pP pC P h 1048576 (by omega) : Calls Tryz.prog 12 #[.agg #[pO, pP, pC], .int .i64 1048576] W (SzPR 1048576 (BP 1048576 P) W)))
  have HTO := Lib.hid (fun W h hl => toP_any W pO pP pC P h hl)
  have HTI := Lib.hid (fun W h hl => toII_any W vx l h hl)
  have HSI := Lib.hid (fun W h (m : Nat) hm => szII_any W vx l h m hm)
  have HQ1 := Lib.hid (fun (b b' : Bool) (k k' : Int) (h : ChaV P l b k) (h' : ChaV P l b' k') => cha_one h h')
  obtain ⟨aX, cX, rfl, _, _⟩ := SlG.form hl
  obtain ⟨nl, hnl⟩ : ∃ nl, l.length = nl := ⟨_, rfl⟩
  rw [hnl] at HL HTI HSI ⊢
  obtain ⟨W0, hW0⟩ : ∃ W0, W0 = w.alloc (.cells #[pO, pP, pC] 26) := ⟨_, rfl⟩
  have HB0 := Lib.hid (show Below (w.heap.size + 1) (w.alloc (.cells #[pO, pP, pC] 26)) W0 by rw [hW0]; exact Below.refl _ _)
  clear hP hl hnl
  go_enter Tryz.func9, Tryz.ntmps9
  go_upto_region 1 with fail
  rw [← hW0]
  clear hW0
  obtain ⟨⟨e0, e1, e2⟩, hk0, hbw0, hs0⟩ := bx1 HB0.out
  go_wp2_with fail
  refine (HSZ.out _ (HP.out.keep hk0)).mono ?_
  rintro e w1 ⟨⟨r, rfl, hr⟩, hb1⟩
  have HB1 := Lib.hid (HB0.out.trans (hb1.mono hs0))
  have HBW1 := Lib.hid (bx1 HB1.out).2.2.1
  clear e0 e1 e2 hk0 hbw0 hs0 hb1
  rcases hr with rfl | ⟨m, rfl, hm, hBP⟩
  · go_wp2_with fail
    go_ret
    exact ⟨rfl, HBW1.out⟩
  have HBP := Lib.hid hBP
  have hm0 : decide ((m : Int) < 0) = false := by simp
  have HMM := Lib.hid hm
  have HC0 := Lib.hid (HSI.out w1 (HL.out.keep (bx1 HB1.out).2.1) m (by have := HMM.out; omega))
  clear hBP hm
  go_wp2_with fail
  refine HC0.out.mono ?_
  rintro e w1' ⟨⟨r, rfl, hr⟩, rfl⟩
  clear HC0 hm0
  rcases hr with rfl | ⟨m', rfl, hm', hBL⟩
  · go_wp2_with fail
    go_ret
    exact ⟨rfl, HBW1.out⟩
  have HBL := Lib.hid (show B2 1048576 l from B2.le (by have := HMM.out; omega) hBL)
  have hm0 : decide ((m' : Int) < 0) = false := by simp
  clear hBL hm' HMM HSI
  obtain ⟨⟨e0, e1, e2⟩, hk1, hbw1, hs1⟩ := bx1 HB1.out
  have HC1 := Lib.hid (HTO.out w1 (HP.out.keep hk1) HBP.out)
  go_wp2_with fail
  refine HC1.out.mono ?_
  rintro e w2 ⟨vO, vP, vC, rfl, hV, hb2⟩
  have HB2 := Lib.hid (HB1.out.trans (hb2.mono hs1))
  have HV := Lib.hid (hV.mono (fun _ _ => trivial) : ValP Any w2 vO vP vC P)
  have HC2 := Lib.hid (HTI.out w2 (HL.out.keep (bx1 HB2.out).2.1) HBL.out)
  clear e0 e1 e2 hk1 hbw1 hs1 hb2 hV HC1
  go_wp2_with fail
  refine HC2.out.mono ?_
  rintro e w2' ⟨vU, rfl, hU, hb2⟩
  have HB2' := Lib.hid (HB2.out.trans (hb2.mono (bx1 HB2.out).2.2.2))
  have HC3 := Lib.hid (spec_is w2' vO vP vC vU P l (HV.out.keep (Keep.of_below hb2)) (hU.mono (fun _ _ => trivial)))
  clear hU hb2 HC2
  go_wp2_with fail
  refine HC3.out.mono ?_
  rintro e w3 ⟨b, k, rfl, hc, hb3⟩
  have HC := Lib.hid hc
  have HB3 := Lib.hid (HB2'.out.trans (hb3.mono (bx1 HB2'.out).2.2.2))
  clear hc hb3 HV HC3
  obtain ⟨⟨e0, e1, e2⟩, hk3, hbw3, hs3⟩ := bx1 HB3.out
  have HC4 := Lib.hid (HTO.out w3 (HP.out.keep hk3) HBP.out)
  go_wp2_with fail
  refine HC4.out.mono ?_
  rintro e w4 ⟨xO, xP, xC, rfl, hV, hb4⟩
  obtain ⟨aO, cO, rfl, _, _⟩ := SlG.form hV.os
  obtain ⟨aP, cP, rfl, _, _⟩ := SlG.form hV.ps
  obtain ⟨aC, cC, rfl, _, _⟩ := SlG.form hV.cs
  have HB4 := Lib.hid (HB3.out.trans (hb4.mono hs3))
  have HX := Lib.hid (hV.mono (fun _ _ => trivial) : ValP Any w4 (.slice aO P.os.length cO) (.slice aP P.ps.length cP) (.slice aC P.cs.length cC) P)
  clear e0 e1 e2 hk3 hbw3 hs3 hb4 hV HC4
  go_upto_region 9 with fail
  obtain ⟨g, hg⟩ : ∃ g, w4.heap.size = g := ⟨_, rfl⟩
  obtain ⟨W5, hW5⟩ : ∃ W5, W5 = w4.alloc (.cells #[.slice aO P.os.length cO, .slice aP P.ps.length cP, .slice aC P.cs.length cC] 30) := ⟨_, rfl⟩
  rw [← hW5]
  have G5 := Lib.hid (show W5.heap[g]? = some (.cells #[.slice aO P.os.length cO, .slice aP P.ps.length cP, .slice aC P.cs.length cC] 30 (0, 0)) by rw [hW5, ← hg]; exact new_blk)
  have HS5 := Lib.hid (show W5.heap.size = g + 1 by rw [hW5, ← hg]; simp)
  have HB5 := Lib.hid (show Below (w.heap.size + 1) (w.alloc (.cells #[pO, pP, pC] 26)) W5 by rw [hW5]; exact HB4.out.alloc (bx1 HB4.out).2.2.2 _)
  have HX5 := Lib.hid (show ValP Any W5 _ _ _ P by rw [hW5]; exact HX.out.keep ((Keep.refl _ _).alloc _))
  have HC5 := Lib.hid (HTI.out W5 (HL.out.keep (bx1 HB5.out).2.1) HBL.out)
  simp only [hg]
  clear hW5 hg HX HB4 HB3 HB2 HB2' HB1 HB0
  go_wp2_with fail
  refine HC5.out.mono ?_
  rintro e w5 ⟨vY, rfl, hY, hb5⟩
  have HB55 := Lib.hid (HB5.out.trans (hb5.mono (bx1 HB5.out).2.2.2))
  have HX55 := Lib.hid (HX5.out.keep (Keep.of_below hb5))
  have G55 := Lib.hid (blk hb5 (by rw [HS5.out]; omega) G5.out)
  have HY := Lib.hid (hY.mono (S' := Any) (fun _ _ => trivial))
  have HC6 := Lib.hid (impl_is w5 _ _ _ vY P l HX55.out HY.out)
  obtain ⟨⟨x0, x1, x2⟩, _⟩ := row3 G55.out
  clear hY hb5 HC5 HB5 HX5 G5 HS5
  go_wp2_with fail
  refine HC6.out.mono ?_
  rintro e w6 ⟨b', k', rfl, hc, hb6⟩
  obtain ⟨rfl, rfl⟩ := HQ1.out _ _ _ _ HC.out hc
  have HB6 := Lib.hid (HB55.out.trans (hb6.mono (bx1 HB55.out).2.2.2))
  have HX6 := Lib.hid (HX55.out.keep (Keep.of_below hb6))
  have HY6 := Lib.hid (HY.out.keep (Keep.of_below hb6))
  have G6 := Lib.hid (blk hb6 (Array.getElem?_eq_some_iff.1 G55.out).1 G55.out)
  have hg6 : g < w6.heap.size := (Array.getElem?_eq_some_iff.1 G6.out).1
  clear hc hb6 x0 x1 x2 G55 HX55 HY HB55 HQ1 HC HC6
  obtain ⟨⟨x0, x1, x2⟩, _⟩ := row3 G6.out
  obtain ⟨⟨e0, e1, e2⟩, hk6, hbw6, hs6⟩ := bx1 HB6.out
  have HP6 := Lib.hid (HP.out.keep hk6)
  have hw6 : w.heap.size < w6.heap.size := by omega
  have n1 : (b' != b') = false := by simp
  have n2 : (k' != k') = false := by simp
  clear hk6 hbw6
  go_wp2_with fail
  go_region_held3 (fun w' => (∀ b o, b < w6.heap.size → w'.cell? ⟨b, o, none⟩ = w6.cell? ⟨b, o, none⟩) ∧ Keep (fun _ => True) w6 w')
    (first | exact ks_mk (by repeat (first | exact (Keep.refl _ _).drew | exact Keep.refl _ _ | refine Keep.drewN ?_ _ | refine Keep.trans ?_ (Keep.of_below (by assumption)))))
    (first | (go_at_call 14; refine (HTO.out _ (HP6.out.keep (by repeat (first | exact (Keep.refl _ _).drew | exact Keep.refl _ _ | exact (Keep.refl _ _).alloc _ | exact ((Keep.refl _ _).alloc _).drew | refine Keep.drewN ?_ _ | refine Keep.trans ?_ (Keep.of_below (by assumption))))) HBP.out).mono ?_; rintro e w7 ⟨yO, yP, yC, rfl, hV7, hb7⟩) | (go_at_call 16; refine (eqP_any _ _ _ _ yO yP yC P P (HX6.out.keep (by repeat (first | exact (Keep.refl _ _).drew | exact Keep.refl _ _ | exact (Keep.refl _ _).alloc _ | exact ((Keep.refl _ _).alloc _).drew | refine Keep.drewN ?_ _ | refine Keep.trans ?_ (Keep.of_below (by assumption))))) ((hV7.mono (fun _ _ => trivial)).keep (by repeat (first | exact (Keep.refl _ _).drew | exact Keep.refl _ _ | exact (Keep.refl _ _).alloc _ | exact ((Keep.refl _ _).alloc _).drew | refine Keep.drewN ?_ _ | refine Keep.trans ?_ (Keep.of_below (by assumption)))))).mono ?_; rintro e w8 ⟨b, rfl, hbt, hb8⟩; obtain rfl : b = true := hbt.2 rfl))
  rename_i hHd
  clear hHd
  have HB7 := Lib.hid ((HB6.out.drew).trans (hb7.mono hs6))
  have HB8 := Lib.hid (HB7.out.trans (hb8.mono (bx1 HB7.out).2.2.2))
  have HY8 := Lib.hid (((HY6.out.keep ((Keep.refl _ _).drew (S := Any))).keep (Keep.of_below hb7)).keep (Keep.of_below hb8))
  have HC7 := Lib.hid (HTI.out w8 (HL.out.keep (bx1 HB8.out).2.1) HBL.out)
  clear hV7 hb7 hbt hb8 x0 x1 x2 e0 e1 e2
  go_wp2_with fail
  refine HC7.out.mono ?_
  rintro e w9 ⟨vZ, rfl, hZ, hb9⟩
  have HB9 := Lib.hid (HB8.out.trans (hb9.mono (bx1 HB8.out).2.2.2))
  have HY9 := Lib.hid (HY8.out.keep (Keep.of_below hb9))
  have HZ := Lib.hid (hZ.mono (S' := Any) (fun _ _ => trivial))
  clear hZ hb9 HC7
  go_wp2_with fail
  refine (eqII_any w9 vY vZ l l HY9.out HZ.out).mono ?_
  rintro e w10 ⟨b, rfl, hbt, hn10⟩
  obtain rfl : b = true := hbt.2 rfl
  have HBW := Lib.hid (bx1 (HB9.out.trans ((bel_drawn (Below.refl w9.heap.size w9) hn10).mono (bx1 HB9.out).2.2.2))).2.2.1
  clear hbt hn10
  go_wp2_with fail
  go_ret
  exact ⟨rfl, HBW.out⟩
end Go.Proofs.YtabeedimnbkcgaaGreat.ChL
