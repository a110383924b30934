import Derived.Test.YtabeedimnbkcgaaGreatPvC
/-
  Presentations in a row: compared, marked, held; certificates.
-/
namespace Go.Proofs.YtabeedimnbkcgaaGreat.PvD
open Go.RowKit Go.Proofs.YtabeedimnbkcgaaGreat Go.Proofs.YtabeedimnbkcgaaGreat.Tow Go.Proofs.YtabeedimnbkcgaaGreat.SpecB Go.Proofs.YtabeedimnbkcgaaGreat.SpecS Go.Proofs.YtabeedimnbkcgaaGreat.LawC Go.Proofs.YtabeedimnbkcgaaGreat.LawE Go.Proofs.YtabeedimnbkcgaaGreat.LawN Go.Proofs.YtabeedimnbkcgaaGreat.Mark Go.Proofs.YtabeedimnbkcgaaGreat.FindA Go.Proofs.YtabeedimnbkcgaaGreat.FindD Go.Proofs.YtabeedimnbkcgaaGreat.AllB Go.Proofs.YtabeedimnbkcgaaGreat.AllC Go.Proofs.YtabeedimnbkcgaaGreat.PvA Go.Proofs.YtabeedimnbkcgaaGreat.PvB Go.Proofs.YtabeedimnbkcgaaGreat.PvC
set_option linter.unusedVariables false
set_option linter.unusedSimpArgs false

/-- a presentation with its blocks, read -/
structure RP (w : World) (v0 v1 v2 : Value) (E : PresE) : Prop where
  a : SlI (fun b => b = E.a.1 ∧ 0 < E.a.2.length) w v0 E.a.2
  R : Rows2 Any w v1 E.R
  C : Rows3 Any w v2 E.C
theorem Rows3.mrk {S S' : Nat → Prop} {w w' : World} {v : Value} {LL : List (List (Nat × List Int))} (h : Rows3 S w v LL) (hm : Mrk S' w w') (hS : ∀ L ∈ LL, ∀ p ∈ L, ¬ S' p.1) : Rows3 S w' v LL :=
  SlG.carry (S' := S) h (Nat.le_of_eq hm.size.symm) rfl fun i x x' b o u hx hx' hc hu => by
    rw [hx] at hx'
    cases hx'
    have hp := hS x (List.mem_of_getElem? hx)
    obtain ⟨a, c, rfl, _⟩ := SlG.form hu
    exact ⟨hm.sl hc, Rows2.mrk hu hm hp⟩
theorem RP.mrk {S : Nat → Prop} {w w' : World} {v0 v1 v2 : Value} {E : PresE} (h : RP w v0 v1 v2 E) (hm : Mrk S w w') (hS : ∀ b, BkP E b → ¬ S b) : RP w' v0 v1 v2 E :=
  ⟨h.a.keep (hm.keep.mono (fun b hb => hS b (.inl hb))), Rows2.mrk h.R hm (fun p hp => hS p.1 (.inr (.inl (List.mem_map.2 ⟨p, hp, rfl⟩)))), Rows3.mrk h.C hm (fun L hL p hp => hS p.1 (.inr (.inr ⟨L, hL, List.mem_map.2 ⟨p, hp, rfl⟩⟩)))⟩
theorem RP.keep {w w' : World} {v0 v1 v2 : Value} {E : PresE} (h : RP w v0 v1 v2 E) (hk : Keep Any w w') : RP w' v0 v1 v2 E :=
  ⟨h.a.keep (hk.mono (fun _ _ => trivial)), SlG.keep h.R hk (fun u p hu => SlI.keep hu (hk.mono (fun _ _ => trivial))), SlG.keep h.C hk (fun u L hL => SlG.keep hL hk (fun u p hu => SlI.keep hu (hk.mono (fun _ _ => trivial))))⟩
theorem RP.of {B : Nat} {w : World} {v0 v1 v2 : Value} {E : PresE} (h : OwnP B w v0 v1 v2 E) : RP w v0 v1 v2 E := by
  refine ⟨?_, SlG.mono h.R.rows (fun _ _ => trivial) (fun _ _ h => h), SlG.mono h.C.rows (fun _ _ => trivial) (fun u L hL => SlG.mono hL (fun _ _ => trivial) (fun _ _ h => h))⟩
  by_cases h0 : 0 < E.a.2.length
  · obtain ⟨c, hc⟩ := h.a.2 h0
    have h1 := h.a.1
    rw [hc] at h1 ⊢
    exact h1.sl_at.mono (fun b hb => ⟨hb, h0⟩)
  · obtain ⟨ao, c, e1, e2, e3, e4, e5⟩ := h.a.1.sl
    exact ⟨ao, c, e1, e2, e3, e4, fun i x hx => absurd (List.getElem?_eq_some_iff.1 hx).1 (by omega)⟩
/-- marked -/
def mrkE (k : Nat) (E : PresE) : PresE := ⟨(E.a.1, cnt k E.a.2.length), mrk (k + E.a.2.length) E.R, mrk3 (k + E.a.2.length + tot E.R) E.C⟩
def totE (E : PresE) : Nat := E.a.2.length + tot E.R + tt3 E.C
def totEs : List PresE → Nat
  | [] => 0
  | E :: Es => totE E + totEs Es
def mrkEs : Nat → List PresE → List PresE
  | _, [] => []
  | k, E :: Es => mrkE k E :: mrkEs (k + totE E) Es
theorem mrkEs_length : ∀ (k : Nat) (Es : List PresE), (mrkEs k Es).length = Es.length
  | _, [] => rfl
  | k, E :: Es => by rw [mrkEs, List.length_cons, List.length_cons, mrkEs_length]
theorem mrkEs_get : ∀ (k : Nat) (Es : List PresE) (j : Nat) (E : PresE), Es[j]? = some E → (mrkEs k Es)[j]? = some (mrkE (k + totEs (Es.take j)) E)
  | k, [], j, E, h => by simp at h
  | k, F :: Es, 0, E, h => by
    simp only [List.getElem?_cons_zero, Option.some.injEq] at h
    subst h
    simp [mrkEs, totEs]
  | k, F :: Es, j + 1, E, h => by
    rw [List.getElem?_cons_succ] at h
    rw [mrkEs, List.getElem?_cons_succ, mrkEs_get (k + totE F) Es j E h, List.take_succ_cons, totEs, Nat.add_assoc]
theorem totEs_take : ∀ (Es : List PresE) (j : Nat) (E : PresE), Es[j]? = some E → totEs (Es.take (j + 1)) = totEs (Es.take j) + totE E
  | [], j, E, h => by simp at h
  | F :: Es, 0, E, h => by
    simp only [List.getElem?_cons_zero, Option.some.injEq] at h
    subst h
    simp [totEs]
  | F :: Es, j + 1, E, h => by
    rw [List.getElem?_cons_succ] at h
    rw [List.take_succ_cons, List.take_succ_cons, totEs, totEs, totEs_take Es j E h, Nat.add_assoc]
theorem totEs_le : ∀ (Es : List PresE) (j : Nat), totEs (Es.take j) ≤ totEs Es
  | [], j => by simp
  | F :: Es, 0 => by simp [totEs]
  | F :: Es, j + 1 => by
    rw [List.take_succ_cons, totEs, totEs]
    have := totEs_le Es j
    omega
theorem bl_mrk3 : ∀ (k : Nat) (LL : List (List (Nat × List Int))) (b : Nat), Bl (mrk3 k LL) b ↔ Bl LL b
  | k, [], b => by simp [Bl, mrk3]
  | k, L :: LL, b => by
    have ih := bl_mrk3 (k + tot L) LL b
    unfold Bl at ih ⊢
    rw [mrk3]
    simp only [List.mem_cons, exists_eq_or_imp, mrk_fst, ih]
theorem bk_mrkE (k : Nat) (E : PresE) (b : Nat) : BkP (mrkE k E) b ↔ BkP E b := by
  unfold BkP mrkE
  simp only [cnt_length, mrk_fst, bl_mrk3]
def BkS (Es : List PresE) (b : Nat) : Prop := ∃ E ∈ Es, BkP E b
/-- presentations in a row, with their blocks, read -/
def PsM (w : World) (v : Value) (Es : List PresE) : Prop := ∃ ao c, v = .slice ao Es.length c ∧ Es.length ≤ c ∧ c ≤ maxLen ∧ ∀ i E, Es[i]? = some E → ∃ b o, ao = some ⟨b, o, none⟩ ∧ b < w.heap.size ∧ ∃ v0 v1 v2, w.cell? ⟨b, o + i * 3, none⟩ = some v0 ∧ w.cell? ⟨b, o + i * 3 + 1, none⟩ = some v1 ∧ w.cell? ⟨b, o + i * 3 + 2, none⟩ = some v2 ∧ RP w v0 v1 v2 E
theorem PsM.of {B : Nat} {w : World} {v : Value} {Es : List PresE} (h : OwnPs B w v Es) : PsM w v Es := by
  obtain ⟨ao, c, h1, h2, h3, h4⟩ := h
  refine ⟨ao, c, h1, h2, h3, fun i E hE => ?_⟩
  obtain ⟨b, o, e1, _, e2, v0, v1, v2, c0, c1, c2, hv⟩ := h4 i E hE
  exact ⟨b, o, e1, e2, v0, v1, v2, c0, c1, c2, RP.of hv⟩
theorem PsM.keep {w w' : World} {v : Value} {Es : List PresE} (h : PsM w v Es) (hk : Keep Any w w') : PsM w' v Es := by
  obtain ⟨ao, c, h1, h2, h3, h4⟩ := h
  refine ⟨ao, c, h1, h2, h3, fun i E hE => ?_⟩
  obtain ⟨b, o, e1, e2, v0, v1, v2, c0, c1, c2, hv⟩ := h4 i E hE
  exact ⟨b, o, e1, Nat.lt_of_lt_of_le e2 hk.size, v0, v1, v2, by rw [hk.cell trivial e2]; exact c0, by rw [hk.cell trivial e2]; exact c1, by rw [hk.cell trivial e2]; exact c2, hv.keep hk⟩
theorem RP.cells {S : Nat → Prop} {w w' : World} {v0 v1 v2 : Value} {E : PresE} (h : RP w v0 v1 v2 E) (hm : Mrk S w w') {b o p q : Nat} (c0 : w.cell? ⟨b, o, none⟩ = some v0) (c1 : w.cell? ⟨b, p, none⟩ = some v1) (c2 : w.cell? ⟨b, q, none⟩ = some v2) :
    w'.cell? ⟨b, o, none⟩ = some v0 ∧ w'.cell? ⟨b, p, none⟩ = some v1 ∧ w'.cell? ⟨b, q, none⟩ = some v2 := by
  obtain ⟨a0, n0, rfl, _⟩ := SlG.form h.a
  obtain ⟨a1, n1, rfl, _⟩ := SlG.form h.R
  obtain ⟨a2, n2, rfl, _⟩ := SlG.form h.C
  exact ⟨hm.sl c0, hm.sl c1, hm.sl c2⟩
theorem cells3 {S : Nat → Prop} {w wa w' : World} {v0 v1 v2 : Value} {E : PresE} (h : RP w v0 v1 v2 E) (hm : Mrk S wa w') {b o p q : Nat} (c0 : wa.cell? ⟨b, o, none⟩ = some v0) (c1 : wa.cell? ⟨b, p, none⟩ = some v1) (c2 : wa.cell? ⟨b, q, none⟩ = some v2) :
    w'.cell? ⟨b, o, none⟩ = some v0 ∧ w'.cell? ⟨b, p, none⟩ = some v1 ∧ w'.cell? ⟨b, q, none⟩ = some v2 := by
  obtain ⟨a0, n0, rfl, _⟩ := SlG.form h.a
  obtain ⟨a1, n1, rfl, _⟩ := SlG.form h.R
  obtain ⟨a2, n2, rfl, _⟩ := SlG.form h.C
  exact ⟨hm.sl c0, hm.sl c1, hm.sl c2⟩
theorem PsM.mrk {S : Nat → Prop} {w w' : World} {v : Value} {Es : List PresE} (h : PsM w v Es) (hm : Mrk S w w') (hS : ∀ E ∈ Es, ∀ b, BkP E b → ¬ S b) : PsM w' v Es := by
  obtain ⟨ao, c, h1, h2, h3, h4⟩ := h
  refine ⟨ao, c, h1, h2, h3, fun i E hE => ?_⟩
  obtain ⟨b, o, e1, e2, v0, v1, v2, c0, c1, c2, hv⟩ := h4 i E hE
  obtain ⟨d0, d1, d2⟩ := hv.cells hm c0 c1 c2
  exact ⟨b, o, e1, by rw [hm.size]; exact e2, v0, v1, v2, d0, d1, d2, hv.mrk hm (hS E (List.mem_of_getElem? hE))⟩
def mixE (k : Nat) (Es : List PresE) (j : Nat) : List PresE := (mrkEs k Es).take j ++ Es.drop j
theorem mixE_length {k : Nat} {Es : List PresE} {j : Nat} (h : j ≤ Es.length) : (mixE k Es j).length = Es.length := by
  unfold mixE
  rw [List.length_append, List.length_take, List.length_drop, mrkEs_length]; omega
theorem mixE_get {k : Nat} {Es : List PresE} {j i : Nat} (h : j ≤ Es.length) : (mixE k Es j)[i]? = if i < j then (mrkEs k Es)[i]? else Es[i]? := by
  unfold mixE
  by_cases hi : i < j
  · rw [if_pos hi, List.getElem?_append_left (by rw [List.length_take, mrkEs_length]; omega), List.getElem?_take, if_pos hi]
  · rw [if_neg hi, List.getElem?_append_right (by rw [List.length_take, mrkEs_length]; omega), List.length_take, mrkEs_length, List.getElem?_drop]
    congr 1
    omega
theorem mixE_zero (k : Nat) (Es : List PresE) : mixE k Es 0 = Es := by simp [mixE]
theorem mixE_end (k : Nat) (Es : List PresE) : mixE k Es Es.length = mrkEs k Es := by
  unfold mixE
  rw [List.drop_length, List.append_nil, List.take_of_length_le (by rw [mrkEs_length]; exact Nat.le_refl _)]
theorem mixE_step {w w' : World} {v : Value} {k j : Nat} {Es : List PresE} (hp : Es.Pairwise fun E F => ∀ b, BkP E b → ¬ BkP F b) {E : PresE} (hE : Es[j]? = some E) (h : PsM w v (mixE k Es j)) (hm : Mrk (BkP E) w w')
    {u0 u1 u2 : Value} {b o : Nat} (hc0 : w.cell? ⟨b, o + j * 3, none⟩ = some u0) (hc1 : w.cell? ⟨b, o + j * 3 + 1, none⟩ = some u1) (hc2 : w.cell? ⟨b, o + j * 3 + 2, none⟩ = some u2)
    (hv : ∀ b' o' c, v = .slice (some ⟨b', o', none⟩) Es.length c → b = b' ∧ o = o') (hR : RP w' u0 u1 u2 (mrkE (k + totEs (Es.take j)) E)) : PsM w' v (mixE k Es (j + 1)) := by
  have hjl := (List.getElem?_eq_some_iff.1 hE).1
  obtain ⟨ao, c, h1, h2, h3, h4⟩ := h
  rw [mixE_length (by omega)] at h1 h2
  refine ⟨ao, c, by rw [mixE_length (by omega)]; exact h1, by rw [mixE_length (by omega)]; exact h2, h3, fun i F hF => ?_⟩
  have hil : i < Es.length := by
    have := (List.getElem?_eq_some_iff.1 hF).1
    rwa [mixE_length (by omega)] at this
  rw [mixE_get (by omega)] at hF
  by_cases hij : i = j
  · subst hij
    rw [if_pos (by omega), mrkEs_get k Es i E hE] at hF
    cases hF
    obtain ⟨b1, o1, e1, e2, v0, v1, v2, c0, c1, c2, hr⟩ := h4 i E (by rw [mixE_get (by omega), if_neg (by omega)]; exact hE)
    subst e1
    obtain ⟨rfl, rfl⟩ := hv b1 o1 c h1
    obtain ⟨d0, d1, d2⟩ := hr.cells hm c0 c1 c2
    rw [hc0] at c0
    rw [hc1] at c1
    rw [hc2] at c2
    cases c0; cases c1; cases c2
    exact ⟨b, o, rfl, by rw [hm.size]; exact e2, _, _, _, d0, d1, d2, hR⟩
  · obtain ⟨G, hG⟩ : ∃ G, Es[i]? = some G := ⟨_, List.getElem?_eq_getElem hil⟩
    have hFm : (mixE k Es j)[i]? = some F := by
      rw [mixE_get (by omega)]
      by_cases h : i < j
      · rw [if_pos h]; rw [if_pos (by omega)] at hF; exact hF
      · rw [if_neg h]; rw [if_neg (by omega)] at hF; exact hF
    have hFG : ∀ b, BkP F b → BkP G b := fun b hb => by
      by_cases h : i < j
      · rw [if_pos (by omega), mrkEs_get k Es i G hG] at hF
        cases hF
        exact (bk_mrkE _ _ _).1 hb
      · rw [if_neg (by omega), hG] at hF
        cases hF
        exact hb
    have hdis : ∀ b, BkP G b → ¬ BkP E b := fun b hb hb' => by
      obtain ⟨hi, rfl⟩ := List.getElem?_eq_some_iff.1 hG
      obtain ⟨hj, rfl⟩ := List.getElem?_eq_some_iff.1 hE
      rcases Nat.lt_or_gt_of_ne hij with hl | hl
      · exact (List.pairwise_iff_getElem.1 hp) i j hi hj hl b hb hb'
      · exact (List.pairwise_iff_getElem.1 hp) j i hj hi hl b hb' hb
    obtain ⟨b1, o1, e1, e2, v0, v1, v2, c0, c1, c2, hr⟩ := h4 i F hFm
    obtain ⟨d0, d1, d2⟩ := hr.cells hm c0 c1 c2
    exact ⟨b1, o1, e1, by rw [hm.size]; exact e2, v0, v1, v2, d0, d1, d2, hr.mrk hm (fun b hb => hdis b (hFG b hb))⟩

set_option maxHeartbeats 2000000 in
theorem markPs (w : World) (v : Value) (Es : List PresE) (hv : PsM w v Es) (hd : ∀ E ∈ Es, DP E) (hp : Es.Pairwise fun E F => ∀ b, BkP E b → ¬ BkP F b) (hN : NFS (BkS Es) w) (k : Nat) (hk : ((k + totEs Es : Nat) : Int) ≤ 9223372036854775807) :
    Calls Tryz.prog 64 #[v, .int .i64 (k : Int)] w fun e w' => e = .returned (.int .i64 ((k + totEs Es : Nat) : Int)) ∧ Mrk (BkS Es) w w' ∧ PsM w' v (mrkEs k Es) := by
  obtain ⟨ao, c, rfl, hlc, hcm, _⟩ := id hv
  unfold maxLen at hcm
  have HV := Lib.hid hv
  have HN := Lib.hid hN
  have hl63 : (Es.length : Int) ≤ 9223372036854775807 := by omega
  have HD := Lib.hid hd
  have HP := Lib.hid hp
  have HT := Lib.hid (fun j => totEs_le Es j)
  obtain ⟨T, hT⟩ : ∃ T, totEs Es = T := ⟨_, rfl⟩
  have HTT := Lib.hid hT
  rw [hT] at hk ⊢
  clear hv hN hd hp hcm hT
  go_enter Tryz.func64, Tryz.ntmps64
  go_wp2_with fail
  go_loopw [1, 5] (fun tv iv wr => ∃ j m : Nat, j ≤ Es.length ∧ iv = .int .i64 (j : Int) ∧ Hid (m = k + totEs (Es.take j)) ∧ tv = .int .i64 (m : Int) ∧ Hid (Mrk (BkS Es) w wr ∧ PsM wr (.slice ao Es.length c) (mixE k Es j))) (fun _ iv _ => Es.length - (intOf iv).toNat)
  case atStart => exact ⟨0, k, Nat.zero_le _, rfl, Lib.hid (by simp [totEs]), rfl, Lib.hid ⟨Mrk.refl _ _, by rw [mixE_zero]; exact HV.out⟩⟩
  case round =>
    obtain ⟨j, m, hj, rfl, hm, rfl, hM⟩ := hrel
    by_cases hlt : j < Es.length
    · obtain ⟨E, hE⟩ : ∃ E, Es[j]? = some E := ⟨_, List.getElem?_eq_getElem hlt⟩
      obtain ⟨ao', c', e1, _, _, h4⟩ := hM.out.2
      rw [mixE_length (by omega)] at e1
      simp only [Value.slice.injEq] at e1
      obtain ⟨rfl, -, rfl⟩ := e1
      obtain ⟨b, o, rfl, hb, v0, v1, v2, c0, c1, c2, hr⟩ := h4 j E (by rw [mixE_get (by omega), if_neg (by omega)]; exact hE)
      have hml : m + totE E ≤ k + T := by
        rw [hm.out, Nat.add_assoc, ← totEs_take Es j E hE, ← HTT.out]
        have := HT.out (j + 1)
        omega
      have hEm := List.mem_of_getElem? hE
      have hDE := HD.out E hEm
      have HDE := Lib.hid hDE
      have HNr := Lib.hid (hM.out.1.nf _ HN.out)
      have HEM := Lib.hid hEm
      have HE := Lib.hid hE
      have HR0 := Lib.hid hr
      obtain ⟨n1, hn1⟩ : ∃ n1, E.a.2.length = n1 := ⟨_, rfl⟩
      obtain ⟨n2, hn2⟩ : ∃ n2, tot E.R = n2 := ⟨_, rfl⟩
      obtain ⟨n3, hn3⟩ : ∃ n3, tt3 E.C = n3 := ⟨_, rfl⟩
      have htE : totE E = n1 + n2 + n3 := by unfold totE; rw [hn1, hn2, hn3]
      rw [htE] at hml
      have HM1 := Lib.hid (mark1 _ wr v0 E.a.2 hr.a (HNr.out.mono (fun b hb => ⟨E, hEm, .inl hb⟩)) m (by rw [hn1]; omega))
      rw [hn1] at HM1
      have HNN := Lib.hid (And.intro hn1 (And.intro hn2 hn3))
      have HTE := Lib.hid htE
      have HC0 := Lib.hid (And.intro c0 (And.intro c1 c2))
      clear h4 hr hEm hDE hE hn1 hn2 hn3 htE
      obtain ⟨m1, hm1⟩ : ∃ m1, m + n1 = m1 := ⟨_, rfl⟩
      obtain ⟨m2, hm2⟩ : ∃ m2, m1 + n2 = m2 := ⟨_, rfl⟩
      obtain ⟨m3, hm3⟩ : ∃ m3, m2 + n3 = m3 := ⟨_, rfl⟩
      have HMM := Lib.hid (And.intro hm1 (And.intro hm2 hm3))
      have HML := Lib.hid hml
      rw [hm1] at HM1
      clear hm1 hm2 hm3 hml
      go_wp2_with fail
      refine HM1.out.mono ?_
      rintro e w1 ⟨rfl, hmk1, hs1⟩
      obtain ⟨d0, d1, d2⟩ := HR0.out.cells hmk1 c0 c1 c2
      have HK1 := Lib.hid hmk1
      have HS1 := Lib.hid hs1
      have HR1 := Lib.hid (show Rows2 Any w1 v1 E.R from Rows2.mrk HR0.out.R hmk1 (fun p hp hb => HDE.out.aR (by rw [HNN.out.1]; exact hb.2) (by rw [← hb.1]; exact List.mem_map.2 ⟨p, hp, rfl⟩)))
      have HT1 := Lib.hid (show Rows3 Any w1 v2 E.C from Rows3.mrk HR0.out.C hmk1 (fun L hL p hp hb => HDE.out.aC (by rw [HNN.out.1]; exact hb.2) (by rw [← hb.1]; exact ⟨L, hL, List.mem_map.2 ⟨p, hp, rfl⟩⟩)))
      have hb1 : b < w1.heap.size := by rw [hmk1.size]; exact hb
      have HM2 := Lib.hid (mark2 Any w1 v1 E.R HR1.out HDE.out.R (HK1.out.nf _ (HNr.out.mono (fun b hb => ⟨E, HEM.out, .inr (.inl hb)⟩))) m1 (by have := HNN.out; have := HMM.out; have := HML.out; omega))
      rw [HNN.out.2.1, HMM.out.2.1] at HM2
      clear hmk1 hs1 c0 c1 c2 HM1
      go_wp2_with fail
      refine HM2.out.mono ?_
      rintro e w2 ⟨rfl, hmk2, hs2⟩
      obtain ⟨g0, g1, g2⟩ := cells3 HR0.out hmk2 d0 d1 d2
      have HK2 := Lib.hid hmk2
      have HS2 := Lib.hid hs2
      have HT2 := Lib.hid (show Rows3 Any w2 v2 E.C from Rows3.mrk HT1.out hmk2 (fun L hL p hp hb => HDE.out.RC p.1 hb ⟨L, hL, List.mem_map.2 ⟨p, hp, rfl⟩⟩))
      have hb2 : b < w2.heap.size := by rw [hmk2.size]; exact hb1
      have HM3 := Lib.hid (mark3 Any w2 v2 E.C HT2.out HDE.out.C (HK2.out.nf _ (HK1.out.nf _ (HNr.out.mono (fun b hb => ⟨E, HEM.out, .inr (.inr hb)⟩)))) m2 (by have := HNN.out; have := HMM.out; have := HML.out; omega))
      rw [HNN.out.2.2, HMM.out.2.2] at HM3
      clear hmk2 hs2 d0 d1 d2 HM2
      go_wp2_with fail
      refine HM3.out.mono ?_
      rintro e w3 ⟨rfl, hmk3, hs3⟩
      have HN1 := Lib.hid (show Mrk (BkS Es) w w3 ∧ PsM w3 (.slice (some ⟨b, o, none⟩) Es.length c) (mixE k Es (j + 1)) from by
        have hall : Mrk (BkP E) wr w3 := (HK1.out.mono (fun b hb => .inl ⟨hb.1, by rw [HNN.out.1]; exact hb.2⟩)).trans ((HK2.out.mono (fun b hb => .inr (.inl hb))).trans (hmk3.mono (fun b hb => .inr (.inr hb))))
        refine ⟨hM.out.1.trans (hall.mono (fun b hb => ⟨E, HEM.out, hb⟩)), ?_⟩
        refine mixE_step HP.out HE.out hM.out.2 hall HC0.out.1 HC0.out.2.1 HC0.out.2.2 (fun b' o' c' e => by simp only [Value.slice.injEq, Option.some.injEq, Addr.mk.injEq, and_true] at e; exact ⟨e.1.1, e.1.2⟩) ?_
        rw [← hm.out]
        refine ⟨?_, ?_, ?_⟩
        · show SlI (fun b => b = E.a.1 ∧ 0 < (cnt m E.a.2.length).length) w3 v0 (cnt m E.a.2.length)
          rw [cnt_length, HNN.out.1]
          exact (HS1.out.keep (HK2.out.keep.mono (fun b hb hb' => HDE.out.aR (by rw [HNN.out.1]; exact hb.2) (by rw [← hb.1]; exact hb')))).keep (hmk3.keep.mono (fun b hb hb' => HDE.out.aC (by rw [HNN.out.1]; exact hb.2) (by rw [← hb.1]; exact hb')))
        · show Rows2 Any w3 v1 (mrk (m + E.a.2.length) E.R)
          rw [HNN.out.1, HMM.out.1]
          refine Rows2.mrk HS2.out hmk3 (fun p hp hb => ?_)
          have h1 : p.1 ∈ E.R.map (·.1) := by rw [← mrk_fst m1]; exact List.mem_map.2 ⟨p, hp, rfl⟩
          exact HDE.out.RC p.1 h1 hb
        · show Rows3 Any w3 v2 (mrk3 (m + E.a.2.length + tot E.R) E.C)
          rw [HNN.out.1, HNN.out.2.1, HMM.out.1, HMM.out.2.1]
          exact hs3)
      have HMN := Lib.hid (show m3 = k + totEs (Es.take (j + 1)) by rw [totEs_take Es j E HE.out, HTE.out]; have := HMM.out; have := hm.out; omega)
      clear hmk3 hs3 hm hM g0 g1 g2 HM3
      go_wp2_with fail
      go_roundw
      case rel => exact ⟨j + 1, m3, by omega, by go_num, HMN, rfl, HN1⟩
      case measure => simp [intOf]; omega
    · obtain rfl : j = Es.length := by omega
      have HR := Lib.hid (show Mrk (BkS Es) w wr ∧ PsM wr (.slice ao Es.length c) (mrkEs k Es) from ⟨hM.out.1, by have h := hM.out.2; rwa [mixE_end] at h⟩)
      obtain rfl : m = k + T := by rw [hm.out, List.take_length, HTT.out]
      clear hM hm
      go_wp2_with fail
      go_ret
      exact ⟨rfl, HR.out⟩

set_option maxHeartbeats 2000000 in
theorem heldPs (w : World) (v : Value) (Es : List PresE) (k : Nat) (hv : PsM w v (mrkEs k Es)) (hk : ((k + totEs Es : Nat) : Int) ≤ 9223372036854775807) :
    Calls Tryz.prog 65 #[v, .int .i64 (k : Int)] w fun e w' => e = .returned (.int .i64 ((k + totEs Es : Nat) : Int)) ∧ w = w' := by
  obtain ⟨ao, c, rfl, hlc, hcm, _⟩ := id hv
  rw [mrkEs_length] at hlc hv ⊢
  unfold maxLen at hcm
  have HV := Lib.hid hv
  have hl63 : (Es.length : Int) ≤ 9223372036854775807 := by omega
  have HT := Lib.hid (fun j => totEs_le Es j)
  obtain ⟨T, hT⟩ : ∃ T, totEs Es = T := ⟨_, rfl⟩
  have HTT := Lib.hid hT
  rw [hT] at hk ⊢
  clear hv hcm hT
  go_enter Tryz.func65, Tryz.ntmps65
  go_wp2_with fail
  go_loop [1, 5] (fun tv iv => ∃ j m : Nat, j ≤ Es.length ∧ iv = .int .i64 (j : Int) ∧ Hid (m = k + totEs (Es.take j)) ∧ tv = .int .i64 (m : Int)) (fun _ iv => Es.length - (intOf iv).toNat)
  case atStart => exact ⟨0, k, Nat.zero_le _, rfl, Lib.hid (by simp [totEs]), rfl⟩
  case round =>
    obtain ⟨j, m, hj, rfl, hm, rfl⟩ := hrel
    by_cases hlt : j < Es.length
    · obtain ⟨E, hE⟩ : ∃ E, Es[j]? = some E := ⟨_, List.getElem?_eq_getElem hlt⟩
      obtain ⟨ao', c', e1, _, _, h4⟩ := HV.out
      rw [mrkEs_length] at e1
      simp only [Value.slice.injEq] at e1
      obtain ⟨rfl, -, rfl⟩ := e1
      obtain ⟨b, o, rfl, hb, v0, v1, v2, c0, c1, c2, hr⟩ := h4 j _ (mrkEs_get k Es j E hE)
      rw [← hm.out] at hr
      have hml : m + totE E ≤ k + T := by
        rw [hm.out, Nat.add_assoc, ← totEs_take Es j E hE, ← HTT.out]
        have := HT.out (j + 1)
        omega
      obtain ⟨n1, hn1⟩ : ∃ n1, E.a.2.length = n1 := ⟨_, rfl⟩
      obtain ⟨n2, hn2⟩ : ∃ n2, tot E.R = n2 := ⟨_, rfl⟩
      obtain ⟨n3, hn3⟩ : ∃ n3, tt3 E.C = n3 := ⟨_, rfl⟩
      have htE : totE E = n1 + n2 + n3 := by unfold totE; rw [hn1, hn2, hn3]
      rw [htE] at hml
      obtain ⟨m1, hm1⟩ : ∃ m1, m + n1 = m1 := ⟨_, rfl⟩
      obtain ⟨m2, hm2⟩ : ∃ m2, m1 + n2 = m2 := ⟨_, rfl⟩
      obtain ⟨m3, hm3⟩ : ∃ m3, m2 + n3 = m3 := ⟨_, rfl⟩
      have HM1 := Lib.hid (held1 _ w v0 E.a.2.length m hr.a (by omega))
      have HM2 := Lib.hid (held2 Any w v1 E.R (m + E.a.2.length) hr.R (by omega))
      have HM3 := Lib.hid (held3 Any w v2 E.C (m + E.a.2.length + tot E.R) hr.C (by omega))
      rw [hn1, hm1] at HM1
      rw [hn1, hm1, hn2, hm2] at HM2
      rw [hn1, hm1, hn2, hm2, hn3, hm3] at HM3
      have g1 : decide ((m1 : Int) < 0) = false := by simp
      have g2 : decide ((m2 : Int) < 0) = false := by simp
      have g3 : decide ((m3 : Int) < 0) = false := by simp
      have HMN := Lib.hid (show m3 = k + totEs (Es.take (j + 1)) by rw [totEs_take Es j E hE, htE]; have := hm.out; omega)
      clear h4 hr hE hn1 hn2 hn3 htE hml hm1 hm2 hm3 hm
      go_wp2_with fail
      refine HM1.out.mono ?_
      rintro e w1 ⟨rfl, rfl⟩
      go_wp2_with fail
      refine HM2.out.mono ?_
      rintro e w1 ⟨rfl, rfl⟩
      go_wp2_with fail
      refine HM3.out.mono ?_
      rintro e w1 ⟨rfl, rfl⟩
      go_wp2_with fail
      go_round
      case rel => exact ⟨j + 1, m3, by omega, by go_num, HMN, rfl⟩
      case measure => simp [intOf]; omega
    · obtain rfl : j = Es.length := by omega
      obtain rfl : m = k + T := by rw [hm.out, List.take_length, HTT.out]
      clear hm
      go_wp2_with fail
      go_ret
      exact ⟨rfl, rfl⟩

set_option maxRecDepth 100000 in
set_option maxHeartbeats 2000000 in
/-- equal rows of presentations compare as equal -/
theorem eqPs (w : World) (va vb : Value) (Ps : List Pres) (ha : SlP Any w va Ps) (hb : SlP Any w vb Ps) :
    Calls Tryz.prog 63 #[va, vb] w fun e w' => e = .returned (.bool true) ∧ Below w.heap.size w w' := by
  obtain ⟨aA, cA, rfl, hlA, hcm, _⟩ := id ha
  obtain ⟨aB, cB, rfl, hlB, _, _⟩ := id hb
  unfold maxLen at hcm
  have HA := Lib.hid ha
  have HB := Lib.hid hb
  have hl63 : (Ps.length : Int) ≤ 9223372036854775807 := by omega
  have hnn : ((Ps.length : Int) != (Ps.length : Int)) = false := by simp
  clear ha hb hcm
  go_enter Tryz.func63, Tryz.ntmps63
  go_wp2_with fail
  go_loopw [5] (fun iv wr => ∃ j : Nat, j ≤ Ps.length ∧ iv = .int .i64 (j : Int) ∧ Hid (Below w.heap.size w wr)) (fun iv _ => Ps.length - (intOf iv).toNat)
  case atStart => exact ⟨0, Nat.zero_le _, rfl, Lib.hid (Below.refl _ _)⟩
  case round =>
    obtain ⟨j, hj, rfl, hB⟩ := hrel
    by_cases hlt : j < Ps.length
    · obtain ⟨P, hP⟩ : ∃ P, Ps[j]? = some P := ⟨_, List.getElem?_eq_getElem hlt⟩
      obtain ⟨aA', cA', e1, _, _, h4⟩ := HA.out.keep (Keep.of_below hB.out)
      simp only [Value.slice.injEq] at e1
      obtain ⟨rfl, -, rfl⟩ := e1
      obtain ⟨b, o, rfl, _, hb, v0, v1, v2, c0, c1, c2, hv⟩ := h4 j P hP
      obtain ⟨aB', cB', e1, _, _, h5⟩ := HB.out.keep (Keep.of_below hB.out)
      simp only [Value.slice.injEq] at e1
      obtain ⟨rfl, -, rfl⟩ := e1
      obtain ⟨b', o', rfl, _, hb', u0, u1, u2, d0, d1, d2, hu⟩ := h5 j P hP
      have HVA := Lib.hid hv
      have HVB := Lib.hid hu
      have hj0 : (0 : Int) ≤ (j : Int) := by omega
      have hj1 : (j : Int) < (Ps.length : Int) := by omega
      have hdj : decide ((j : Int) < (Ps.length : Int)) = true := by simp; omega
      clear h4 h5 hv hu hP
      go_upto_region 6 with fail
      rename World => w4
      go_region_held3 (fun w' => (∀ b o, b < w4.heap.size → w'.cell? ⟨b, o, none⟩ = w4.cell? ⟨b, o, none⟩) ∧ Keep (fun _ => True) w4 w')
        (first | exact ks_mk (by repeat (first | exact (Keep.refl _ _).drew | exact Keep.refl _ _ | refine Keep.drewN ?_ _ | refine Keep.trans ?_ (Keep.of_below (by assumption)))))
        (first | (go_at_call 16; refine (eqP_any _ _ _ _ _ _ _ P P (HVA.out.keep (by repeat (first | exact (Keep.refl _ _).drew | exact Keep.refl _ _ | exact (Keep.refl _ _).alloc _ | exact ((Keep.refl _ _).alloc _).drew | refine Keep.drewN ?_ _ | refine Keep.trans ?_ (Keep.of_below (by assumption))))) (HVB.out.keep (by repeat (first | exact (Keep.refl _ _).drew | exact Keep.refl _ _ | exact (Keep.refl _ _).alloc _ | exact ((Keep.refl _ _).alloc _).drew | refine Keep.drewN ?_ _ | refine Keep.trans ?_ (Keep.of_below (by assumption)))))).mono ?_; rintro e w5 ⟨q, rfl, hbt, hb5⟩; obtain rfl : q = true := hbt.2 rfl))
      rename_i hHd
      clear hHd
      have HB5 := Lib.hid (hB.out.trans ((((Below.refl _ _).drew).trans hb5).mono hB.out.size))
      clear hbt hb5 c0 c1 c2 d0 d1 d2 hB
      go_wp2_with fail
      go_roundw
      case rel => exact ⟨j + 1, by omega, by go_num, HB5⟩
      case measure => simp [intOf] <;> omega
    · obtain rfl : j = Ps.length := by omega
      have hdj : decide ((Ps.length : Int) < (Ps.length : Int)) = false := by simp
      go_wp2_with fail
      go_ret
      exact ⟨rfl, hB.out⟩

set_option maxRecDepth 100000 in
set_option maxHeartbeats 2000000 in
/-- equal certificates compare as equal -/
theorem eqCert (w : World) (kd : Int) (vg vl ug ul : Value) (gs : List Pres) (ls : List (List Int)) (h1 : SlP Any w vg gs) (h2 : SlP Any w ug gs) (h3 : Sl2 Any w vl ls) (h4 : Sl2 Any w ul ls) :
    Calls Tryz.prog 32 #[.agg #[.int .i64 kd, vg, vl], .agg #[.int .i64 kd, ug, ul]] w fun e w' => e = .returned (.bool true) ∧ Below w.heap.size w w' := by
  have H1 := Lib.hid h1
  have H2 := Lib.hid h2
  have H3 := Lib.hid h3
  have H4 := Lib.hid h4
  obtain ⟨W0, hW0⟩ : ∃ W0, W0 = (w.alloc (.cells #[.int .i64 kd, vg, vl] 47)).alloc (.cells #[.int .i64 kd, ug, ul] 47) := ⟨_, rfl⟩
  have HB0 := Lib.hid (show Below (w.heap.size + 2) ((w.alloc (.cells #[.int .i64 kd, vg, vl] 47)).alloc (.cells #[.int .i64 kd, ug, ul] 47)) W0 by rw [hW0]; exact Below.refl _ _)
  have hnn : (kd != kd) = false := by simp
  clear h1 h2 h3 h4
  go_enter Tryz.func32, Tryz.ntmps32
  go_upto_region 1 with fail
  rw [← hW0]
  clear hW0
  obtain ⟨⟨p0, p1, p2⟩, ⟨q0, q1, q2⟩, hk, hbw, hs⟩ := bx2 HB0.out
  have HC1 := Lib.hid (eqPs W0 vg ug gs (H1.out.keep hk) (H2.out.keep hk))
  clear hk hbw
  go_wp2_with fail
  refine HC1.out.mono ?_
  rintro e w1 ⟨rfl, hb1⟩
  have HB1 := Lib.hid (HB0.out.trans (hb1.mono hs))
  clear p0 p1 p2 q0 q1 q2 hs hb1 HC1
  obtain ⟨⟨p0, p1, p2⟩, ⟨q0, q1, q2⟩, hk, hbw, hs⟩ := bx2 HB1.out
  have HC2 := Lib.hid (eqII_any w1 vl ul ls ls (H3.out.keep hk) (H4.out.keep hk))
  clear hk hbw
  go_wp2_with fail
  refine HC2.out.mono ?_
  rintro e w2 ⟨b, rfl, hbt, hn2⟩
  obtain rfl : b = true := by first | exact hbt.2 rfl | exact hbt.2 trivial
  have HB2 := Lib.hid (HB1.out.trans ((bel_drawn (Below.refl w1.heap.size w1) hn2).mono hs))
  have HBW := Lib.hid (bx2 HB2.out).2.2.2.1
  clear hbt hn2 p0 p1 p2 q0 q1 q2 hs HC2
  go_wp2_with fail
  go_ret
  exact ⟨rfl, HBW.out⟩
def BkC (Es : List PresE) (L : List (Nat × List Int)) (b : Nat) : Prop := BkS Es b ∨ b ∈ L.map (·.1)

set_option maxRecDepth 100000 in
set_option maxHeartbeats 2000000 in
theorem markCert (w : World) (kd : Int) (vg vl : Value) (Es : List PresE) (L : List (Nat × List Int)) (h1 : PsM w vg Es) (h2 : Rows2 Any w vl L) (hd : DCert Es L) (hN : NFS (BkC Es L) w) (hS : ∀ b, BkC Es L b → b < w.heap.size) (k : Nat) (hk : ((k + totEs Es + tot L : Nat) : Int) ≤ 9223372036854775807) :
    Calls Tryz.prog 33 #[.agg #[.int .i64 kd, vg, vl], .int .i64 (k : Int)] w fun e w' => e = .returned (.int .i64 ((k + totEs Es + tot L : Nat) : Int)) ∧ ∃ W, Below w.heap.size w W ∧ Mrk (BkC Es L) W w' ∧ PsM w' vg (mrkEs k Es) ∧ Rows2 Any w' vl (mrk (k + totEs Es) L) := by
  have H1 := Lib.hid h1
  have H2 := Lib.hid h2
  have HD := Lib.hid hd
  obtain ⟨W0, hW0⟩ : ∃ W0, W0 = w.alloc (.cells #[.int .i64 kd, vg, vl] 47) := ⟨_, rfl⟩
  have hb0 : Below w.heap.size w W0 := by rw [hW0]; exact (Below.refl _ _).alloc (Nat.le_refl _) _
  have HG := Lib.hid (show W0.heap[w.heap.size]? = some (.cells #[.int .i64 kd, vg, vl] 47 (0, 0)) by rw [hW0]; exact heap_alloc_new _ _)
  have HN := Lib.hid (hN.keep (Keep.of_below (S := Any) hb0) (fun b hb => ⟨trivial, hS b hb⟩))
  have HSS := Lib.hid hS
  have HB0 := Lib.hid hb0
  obtain ⟨m1, hm1⟩ : ∃ m1, k + totEs Es = m1 := ⟨_, rfl⟩
  obtain ⟨m2, hm2⟩ : ∃ m2, m1 + tot L = m2 := ⟨_, rfl⟩
  rw [hm1, hm2] at hk ⊢
  have HM := Lib.hid (And.intro hm1 hm2)
  have HC1 := Lib.hid (markPs W0 vg Es (h1.keep (Keep.of_below hb0)) hd.each hd.pair (HN.out.mono (fun b hb => .inl hb)) k (by omega))
  rw [hm1] at HC1
  have hs0 : W0.heap.size = w.heap.size + 1 := by rw [hW0]; simp
  have HS0 := Lib.hid hs0
  obtain ⟨⟨p0, p1, p2⟩, _⟩ := row3 HG.out
  obtain ⟨ag, cg, rfl, _⟩ := id h1
  obtain ⟨al, cl, rfl, _⟩ := SlG.form h2
  clear h1 h2 hd hN hS hb0 hm1 hm2 hs0
  go_enter Tryz.func33, Tryz.ntmps33
  go_upto_region 1 with fail
  rw [← hW0]
  clear hW0
  go_wp2_with fail
  refine HC1.out.mono ?_
  rintro e w1 ⟨rfl, hmk, hps⟩
  have hnb : ¬ BkS Es w.heap.size := fun h => by have := HSS.out _ (.inl h); omega
  have HG1 := Lib.hid ((hmk.block w.heap.size hnb).trans HG.out)
  have HMK := Lib.hid hmk
  have HPS := Lib.hid hps
  have HR1 := Lib.hid (Rows2.mrk (SlG.keep H2.out (Keep.of_below (S := Any) HB0.out) (fun u p hu => SlI.keep hu (Keep.of_below HB0.out))) hmk (fun p hp ⟨E, hE, hb⟩ => HD.out.ls E hE p.1 hb (List.mem_map.2 ⟨p, hp, rfl⟩)))
  have HC2 := Lib.hid (mark2 Any w1 _ L HR1.out HD.out.nd (hmk.nf _ (HN.out.mono (fun b hb => .inr hb))) m1 (by rw [HM.out.2]; exact hk))
  rw [HM.out.2] at HC2
  clear hmk hps p0 p1 p2 HC1
  obtain ⟨⟨p0, p1, p2⟩, _⟩ := row3 HG1.out
  go_wp2_with fail
  refine HC2.out.mono ?_
  rintro e w2 ⟨rfl, hmk2, hr2⟩
  have HR := Lib.hid (show ∃ W, Below w.heap.size w W ∧ Mrk (BkC Es L) W w2 ∧ PsM w2 (.slice ag Es.length cg) (mrkEs k Es) ∧ Rows2 Any w2 (.slice al L.length cl) (mrk m1 L) from
    ⟨W0, HB0.out, (HMK.out.mono (fun b hb => .inl hb)).trans (hmk2.mono (fun b hb => .inr hb)), PsM.mrk HPS.out hmk2 (fun E hE b hb hbL => by
      obtain ⟨i, hi⟩ := List.getElem?_of_mem hE
      have hil := (List.getElem?_eq_some_iff.1 hi).1
      rw [mrkEs_length] at hil
      obtain ⟨E0, hE0⟩ : ∃ E0, Es[i]? = some E0 := ⟨_, List.getElem?_eq_getElem hil⟩
      rw [mrkEs_get k Es i E0 hE0] at hi
      cases hi
      exact HD.out.ls E0 (List.mem_of_getElem? hE0) b ((bk_mrkE _ _ _).1 hb) hbL), hr2⟩)
  clear hmk2 hr2 HC2
  go_wp2_with fail
  go_ret
  exact ⟨rfl, HR.out⟩

set_option maxRecDepth 100000 in
set_option maxHeartbeats 2000000 in
theorem heldCert (w : World) (kd : Int) (vg vl : Value) (Es : List PresE) (L : List (Nat × List Int)) (k : Nat) (h1 : PsM w vg (mrkEs k Es)) (h2 : Rows2 Any w vl (mrk (k + totEs Es) L)) (hk : ((k + totEs Es + tot L : Nat) : Int) ≤ 9223372036854775807) :
    Calls Tryz.prog 34 #[.agg #[.int .i64 kd, vg, vl], .int .i64 (k : Int)] w fun e w' => e = .returned (.int .i64 ((k + totEs Es + tot L : Nat) : Int)) ∧ Below w.heap.size w w' := by
  obtain ⟨W0, hW0⟩ : ∃ W0, W0 = w.alloc (.cells #[.int .i64 kd, vg, vl] 47) := ⟨_, rfl⟩
  have hb0 : Below w.heap.size w W0 := by rw [hW0]; exact (Below.refl _ _).alloc (Nat.le_refl _) _
  have HG := Lib.hid (show W0.heap[w.heap.size]? = some (.cells #[.int .i64 kd, vg, vl] 47 (0, 0)) by rw [hW0]; exact heap_alloc_new _ _)
  have HB0 := Lib.hid hb0
  obtain ⟨m1, hm1⟩ : ∃ m1, k + totEs Es = m1 := ⟨_, rfl⟩
  obtain ⟨m2, hm2⟩ : ∃ m2, m1 + tot L = m2 := ⟨_, rfl⟩
  rw [hm1] at h2
  rw [hm1, hm2] at hk ⊢
  have HC1 := Lib.hid (heldPs W0 vg Es k (h1.keep (Keep.of_below hb0)) (by omega))
  have HC2 := Lib.hid (held2 Any W0 vl L m1 (SlG.keep h2 (Keep.of_below (S := Any) hb0) (fun u p hu => SlI.keep hu (Keep.of_below hb0))) (by omega))
  rw [hm1] at HC1
  rw [hm2] at HC2
  have hs0 : w.heap.size < W0.heap.size := by rw [hW0]; simp
  have g1 : decide ((m1 : Int) < 0) = false := by simp
  have g2 : decide ((m2 : Int) < 0) = false := by simp
  obtain ⟨⟨p0, p1, p2⟩, _⟩ := row3 HG.out
  obtain ⟨ag, cg, rfl, _⟩ := id h1
  obtain ⟨al, cl, rfl, _⟩ := SlG.form h2
  clear h1 h2 hb0 hm1 hm2
  go_enter Tryz.func34, Tryz.ntmps34
  go_upto_region 1 with fail
  rw [← hW0]
  clear hW0
  go_wp2_with fail
  refine HC1.out.mono ?_
  rintro e w1 ⟨rfl, rfl⟩
  go_wp2_with fail
  refine HC2.out.mono ?_
  rintro e w1 ⟨rfl, rfl⟩
  go_wp2_with fail
  go_ret
  exact ⟨rfl, HB0.out⟩
end Go.Proofs.YtabeedimnbkcgaaGreat.PvD
