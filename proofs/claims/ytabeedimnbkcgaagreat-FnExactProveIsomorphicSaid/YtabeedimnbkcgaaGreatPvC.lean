import Derived.Test.YtabeedimnbkcgaaGreatPvB
/-
  impl.ProveIsomorphic, spec.ProveIsomorphic.
-/
namespace Go.Proofs.YtabeedimnbkcgaaGreat.PvC
open Go.RowKit Go.Proofs.YtabeedimnbkcgaaGreat Go.Proofs.YtabeedimnbkcgaaGreat.Tow Go.Proofs.YtabeedimnbkcgaaGreat.NumT Go.Proofs.YtabeedimnbkcgaaGreat.SpecB Go.Proofs.YtabeedimnbkcgaaGreat.SpecS Go.Proofs.YtabeedimnbkcgaaGreat.LawC Go.Proofs.YtabeedimnbkcgaaGreat.LawE Go.Proofs.YtabeedimnbkcgaaGreat.Mark Go.Proofs.YtabeedimnbkcgaaGreat.FindA Go.Proofs.YtabeedimnbkcgaaGreat.FindB Go.Proofs.YtabeedimnbkcgaaGreat.FindC Go.Proofs.YtabeedimnbkcgaaGreat.FindD Go.Proofs.YtabeedimnbkcgaaGreat.AllB Go.Proofs.YtabeedimnbkcgaaGreat.AllC Go.Proofs.YtabeedimnbkcgaaGreat.PvA Go.Proofs.YtabeedimnbkcgaaGreat.PvB
set_option linter.unusedVariables false
set_option linter.unusedSimpArgs false

theorem cop_hyp {T : Tw} (hT : Wf T) (hs : T.length ≤ 6) : (ofTw T).os.length ≤ 1000 ∧ ((ofTw T).ps.length ≤ 1000 ∧ ∀ r ∈ (ofTw T).ps, 0 < r.length ∧ r.length ≤ 1000) ∧ ((ofTw T).cs.length ≤ 1000 ∧ ∀ c ∈ (ofTw T).cs, c.length ≤ 1000 ∧ ∀ r ∈ c, 0 < r.length ∧ r.length ≤ 1000) := by
  have key : ∀ (j : Nat) (y : List Nat), j < T.length → y.length = T.length - (j + 1) → 0 < (ints (pad (j + 1) y)).length ∧ (ints (pad (j + 1) y)).length ≤ 1000 := fun j y hj hy => by
    rw [ints_length, pad_length, hy]; omega
  refine ⟨by rw [ofTw_os]; omega, ⟨by rw [ofTw_ps]; omega, fun r hr => ?_⟩, by rw [ofTw_cs]; omega, fun c hc => ?_⟩
  · obtain ⟨j, hj⟩ := List.getElem?_of_mem hr
    have hjl := (List.getElem?_eq_some_iff.1 hj).1
    rw [ofTw_ps] at hjl
    obtain ⟨L, hL⟩ : ∃ L, T[j]? = some L := ⟨_, List.getElem?_eq_getElem hjl⟩
    rw [ofTw_ps_get T j L hL] at hj
    cases hj
    obtain ⟨-, -, -, h4, -⟩ := lvl' hT hL
    exact key j _ hjl (by rw [El_length h4, List.length_drop])
  · obtain ⟨j, hj⟩ := List.getElem?_of_mem hc
    have hjl := (List.getElem?_eq_some_iff.1 hj).1
    rw [ofTw_cs] at hjl
    obtain ⟨L, hL⟩ : ∃ L, T[j]? = some L := ⟨_, List.getElem?_eq_getElem hjl⟩
    rw [ofTw_cs_get T j L hL] at hj
    cases hj
    obtain ⟨-, h2, h3, -, -⟩ := lvl' hT hL
    refine ⟨by rw [List.length_map, h2]; omega, fun r hr => ?_⟩
    obtain ⟨y, hy, rfl⟩ := List.mem_map.1 hr
    exact key j _ hjl (by rw [El_length (h3 y hy), List.length_drop])
theorem own_hyp {T : Tw} (hT : Wf T) (hs : T.length ≤ 6) : (ofTw T).os.length ≤ 1000 ∧ (∃ rs : List (List Nat), (ofTw T).ps = rs.map ints ∧ rs.length ≤ 1000 ∧ ∀ r ∈ rs, r.length ≤ 1000) ∧ ((ofTw T).cs.length ≤ 1000 ∧ ∀ c ∈ (ofTw T).cs, ∃ rs : List (List Nat), c = rs.map ints ∧ rs.length ≤ 1000 ∧ ∀ r ∈ rs, r.length ≤ 1000) := by
  obtain ⟨h1, ⟨h2, h3⟩, h4, h5⟩ := cop_hyp hT hs
  have nat_rows : ∀ l : List (List Int), (∀ r ∈ l, ∃ y : List Nat, r = ints y) → ∃ rs : List (List Nat), l = rs.map ints := fun l => by
    induction l with
    | nil => intro _; exact ⟨[], rfl⟩
    | cons a l ih =>
      intro h
      obtain ⟨y, rfl⟩ := h a List.mem_cons_self
      obtain ⟨rs, rfl⟩ := ih fun r hr => h r (List.mem_cons_of_mem _ hr)
      exact ⟨y :: rs, rfl⟩
  refine ⟨h1, ?_, h4, fun c hc => ?_⟩
  · obtain ⟨rs, hrs⟩ := nat_rows (ofTw T).ps (fun r hr => by
      obtain ⟨j, hj⟩ := List.getElem?_of_mem hr
      have hjl := (List.getElem?_eq_some_iff.1 hj).1
      rw [ofTw_ps] at hjl
      obtain ⟨L, hL⟩ : ∃ L, T[j]? = some L := ⟨_, List.getElem?_eq_getElem hjl⟩
      rw [ofTw_ps_get T j L hL] at hj
      cases hj
      exact ⟨_, rfl⟩)
    rw [hrs] at h2 h3 ⊢
    rw [List.length_map] at h2
    exact ⟨rs, rfl, h2, fun r hr => by have := (h3 (ints r) (List.mem_map.2 ⟨r, hr, rfl⟩)).2; rwa [ints_length] at this⟩
  · have h6 := h5 c hc
    obtain ⟨rs, hrs⟩ := nat_rows c (fun r hr => by
      obtain ⟨j, hj⟩ := List.getElem?_of_mem hc
      have hjl := (List.getElem?_eq_some_iff.1 hj).1
      rw [ofTw_cs] at hjl
      obtain ⟨L, hL⟩ : ∃ L, T[j]? = some L := ⟨_, List.getElem?_eq_getElem hjl⟩
      rw [ofTw_cs_get T j L hL] at hj
      cases hj
      obtain ⟨y, hy, rfl⟩ := List.mem_map.1 hr
      exact ⟨_, rfl⟩)
    subst hrs
    rw [List.length_map] at h6
    exact ⟨rs, rfl, h6.1, fun r hr => by have := (h6.2 (ints r) (List.mem_map.2 ⟨r, hr, rfl⟩)).2; rwa [ints_length] at this⟩

/-- presentations in a row -/
def SlP (S : Nat → Prop) (w : World) (v : Value) (Ps : List Pres) : Prop := ∃ ao c, v = .slice ao Ps.length c ∧ Ps.length ≤ c ∧ c ≤ maxLen ∧ ∀ i P, Ps[i]? = some P → ∃ b o, ao = some ⟨b, o, none⟩ ∧ S b ∧ b < w.heap.size ∧ ∃ v0 v1 v2, w.cell? ⟨b, o + i * 3, none⟩ = some v0 ∧ w.cell? ⟨b, o + i * 3 + 1, none⟩ = some v1 ∧ w.cell? ⟨b, o + i * 3 + 2, none⟩ = some v2 ∧ ValP S w v0 v1 v2 P
theorem SlP.nil (S : Nat → Prop) (w : World) : SlP S w (.slice none 0 0) [] := ⟨none, 0, rfl, Nat.le_refl _, by simp, fun i P h => by simp at h⟩
theorem SlP.keep {S : Nat → Prop} {w w' : World} {v : Value} {Ps : List Pres} (h : SlP S w v Ps) (hk : Keep S w w') : SlP S w' v Ps := by
  obtain ⟨ao, c, h1, h2, h3, h4⟩ := h
  refine ⟨ao, c, h1, h2, h3, fun i P hP => ?_⟩
  obtain ⟨b, o, e1, e0, e2, v0, v1, v2, c0, c1, c2, hv⟩ := h4 i P hP
  exact ⟨b, o, e1, e0, Nat.lt_of_lt_of_le e2 hk.size, v0, v1, v2, by rw [hk.cell e0 e2]; exact c0, by rw [hk.cell e0 e2]; exact c1, by rw [hk.cell e0 e2]; exact c2, hv.keep hk⟩
theorem SlP.mono {S S' : Nat → Prop} {w : World} {v : Value} {Ps : List Pres} (h : SlP S w v Ps) (hS : ∀ k, S k → S' k) : SlP S' w v Ps := by
  obtain ⟨ao, c, h1, h2, h3, h4⟩ := h
  refine ⟨ao, c, h1, h2, h3, fun i P hP => ?_⟩
  obtain ⟨b, o, e1, e0, e2, v0, v1, v2, c0, c1, c2, hv⟩ := h4 i P hP
  exact ⟨b, o, e1, hS b e0, e2, v0, v1, v2, c0, c1, c2, hv.mono hS⟩
theorem SlP.bnd {S : Nat → Prop} {w : World} {v : Value} {Ps : List Pres} (h : SlP S w v Ps) : SlP (fun b => b < w.heap.size) w v Ps := by
  obtain ⟨ao, c, h1, h2, h3, h4⟩ := h
  refine ⟨ao, c, h1, h2, h3, fun i P hP => ?_⟩
  obtain ⟨b, o, e1, e0, e2, v0, v1, v2, c0, c1, c2, hv⟩ := h4 i P hP
  exact ⟨b, o, e1, e2, e2, v0, v1, v2, c0, c1, c2, hv.bnd.mono (fun k hk => hk.2)⟩
/-- presentations in a row that the call made -/
def OwnPs (B : Nat) (w : World) (v : Value) (Es : List PresE) : Prop := ∃ ao c, v = .slice ao Es.length c ∧ Es.length ≤ c ∧ c ≤ maxLen ∧ ∀ i E, Es[i]? = some E → ∃ b o, ao = some ⟨b, o, none⟩ ∧ B ≤ b ∧ b < w.heap.size ∧ ∃ v0 v1 v2, w.cell? ⟨b, o + i * 3, none⟩ = some v0 ∧ w.cell? ⟨b, o + i * 3 + 1, none⟩ = some v1 ∧ w.cell? ⟨b, o + i * 3 + 2, none⟩ = some v2 ∧ OwnP B w v0 v1 v2 E
theorem OwnPs.nil (B : Nat) (w : World) : OwnPs B w (.slice none 0 0) [] := ⟨none, 0, rfl, Nat.le_refl _, by simp, fun i E h => by simp at h⟩
theorem OwnP.keepS {B : Nat} {S : Nat → Prop} {w w' : World} {v0 v1 v2 : Value} {E : PresE} (h : OwnP B w v0 v1 v2 E) (hk : Keep S w w') (hS : ∀ k, B ≤ k → S k) : OwnP B w' v0 v1 v2 E :=
  ⟨⟨Own.keep h.a.1 hk (fun k hk => hS k (World.ownsRow.lt h.a.1 k hk).1), h.a.2⟩, FindD.OwnE.keepS h.R hk hS, h.C.keepS hk hS⟩
theorem OwnP.mono {B B' : Nat} {w : World} {v0 v1 v2 : Value} {E : PresE} (h : OwnP B w v0 v1 v2 E) (hB : B' ≤ B) : OwnP B' w v0 v1 v2 E := ⟨⟨h.a.1.mono hB, h.a.2⟩, OwnE.mono h.R hB, h.C.mono hB⟩
theorem OwnP.val {B : Nat} {w : World} {v0 v1 v2 : Value} {E : PresE} (h : OwnP B w v0 v1 v2 E) : ValP Any w v0 v1 v2 E.val := ⟨h.a.1.sl.mono (fun _ _ => trivial), Rows2.sl2 h.R.rows, OwnE3.sl3 h.C⟩
theorem OwnP.lt {B : Nat} {w : World} {v0 v1 v2 : Value} {E : PresE} (h : OwnP B w v0 v1 v2 E) {b : Nat} (hb : BkP E b) : B ≤ b ∧ b < w.heap.size := by
  rcases hb with ⟨rfl, h0⟩ | hb | ⟨L, hL, hb⟩
  · obtain ⟨c, hc⟩ := h.a.2 h0
    have := h.a.1
    rw [hc] at this
    exact this.lt
  · obtain ⟨p, hp, rfl⟩ := List.mem_map.1 hb
    exact h.R.lt p hp
  · obtain ⟨p, hp, rfl⟩ := List.mem_map.1 hb
    exact h.C.lt L hL p hp
theorem OwnPs.keepS {B : Nat} {S : Nat → Prop} {w w' : World} {v : Value} {Es : List PresE} (h : OwnPs B w v Es) (hk : Keep S w w') (hS : ∀ k, B ≤ k → S k) : OwnPs B w' v Es := by
  obtain ⟨ao, c, h1, h2, h3, h4⟩ := h
  refine ⟨ao, c, h1, h2, h3, fun i P hP => ?_⟩
  obtain ⟨b, o, e1, e0, e2, v0, v1, v2, c0, c1, c2, hv⟩ := h4 i P hP
  exact ⟨b, o, e1, e0, Nat.lt_of_lt_of_le e2 hk.size, v0, v1, v2, by rw [hk.cell (hS b e0) e2]; exact c0, by rw [hk.cell (hS b e0) e2]; exact c1, by rw [hk.cell (hS b e0) e2]; exact c2, OwnP.keepS hv hk hS⟩
theorem OwnPs.sl {B : Nat} {w : World} {v : Value} {Es : List PresE} (h : OwnPs B w v Es) : SlP Any w v (Es.map PresE.val) := by
  obtain ⟨ao, c, h1, h2, h3, h4⟩ := h
  refine ⟨ao, c, by simpa using h1, by simpa using h2, h3, fun i P hP => ?_⟩
  rw [List.getElem?_map, Option.map_eq_some_iff] at hP
  obtain ⟨E, hE, rfl⟩ := hP
  obtain ⟨b, o, e1, e0, e2, v0, v1, v2, c0, c1, c2, hv⟩ := h4 i E hE
  exact ⟨b, o, e1, trivial, e2, v0, v1, v2, c0, c1, c2, OwnP.val hv⟩
/-- what a certificate of an isomorphism says -/
def CertV (P Q : Pres) (kd : Int) (gs : List Pres) (ls : List (List Int)) (k : Int) : Prop := FindV P Q ls k ∧ ((k = 0 ∧ kd = 4 ∧ gs = [P, Q]) ∨ (k ≠ 0 ∧ kd = 0 ∧ gs = []))
theorem cert_one {P Q : Pres} {kd kd' k k' : Int} {gs gs' : List Pres} {ls ls' : List (List Int)} (h : CertV P Q kd gs ls k) (h' : CertV P Q kd' gs' ls' k') : kd' = kd ∧ gs' = gs ∧ ls' = ls ∧ k' = k := by
  obtain ⟨rfl, rfl⟩ := find_one h.1 h'.1
  rcases h.2 with ⟨h1, rfl, rfl⟩ | ⟨h1, rfl, rfl⟩ <;> rcases h'.2 with ⟨h2, rfl, rfl⟩ | ⟨h2, rfl, rfl⟩ <;> first | exact ⟨rfl, rfl, rfl, rfl⟩ | omega
theorem find_nil {P Q : Pres} {ls : List (List Int)} {k : Int} (h : FindV P Q ls k) (hk : k ≠ 0) : ls = [] := by
  rcases h with ⟨rfl, _⟩ | ⟨T, U, _, _, _, _, ⟨rfl, _⟩ | ⟨rfl, _⟩ | ⟨h0, _⟩⟩ <;> first | rfl | exact absurd h0 hk
theorem find_grp {P Q : Pres} {ls : List (List Int)} (h : FindV P Q ls 0) : ∃ T U, P = ofTw T ∧ Q = ofTw U ∧ Wf T ∧ Wf U ∧ T.length ≤ 6 ∧ U.length ≤ 6 := by
  rcases h with ⟨_, h, _⟩ | ⟨T, U, rfl, rfl, gT, gU, _⟩
  · omega
  · exact ⟨T, U, rfl, rfl, (SpecX.grp_parts gT).1, (SpecX.grp_parts gU).1, (SpecX.grp_parts gT).2.1.1, (SpecX.grp_parts gU).2.1.1⟩
/-- no number is shared -/
structure DCert (Es : List PresE) (L : List (Nat × List Int)) : Prop where
  each : ∀ E ∈ Es, DP E
  pair : Es.Pairwise fun E F => ∀ b, BkP E b → ¬ BkP F b
  nd : (L.map (·.1)).Nodup
  ls : ∀ E ∈ Es, ∀ b, BkP E b → b ∉ L.map (·.1)
def SProR (P Q : Pres) (w : World) (e : Ending) (w' : World) : Prop := ∃ kd vG vL k gs ls, e = .returned (.tuple #[.agg #[.int .i64 kd, vG, vL], .int .i64 k]) ∧ CertV P Q kd gs ls k ∧ SlP (fun b => w.heap.size ≤ b) w' vG gs ∧ Sl2 (fun b => w.heap.size ≤ b) w' vL ls ∧ Below w.heap.size w w'
def IProR (P Q : Pres) (w : World) (e : Ending) (w' : World) : Prop := ∃ kd vG vL k Es L, e = .returned (.tuple #[.agg #[.int .i64 kd, vG, vL], .int .i64 k]) ∧ CertV P Q kd (Es.map PresE.val) (L.map (·.2)) k ∧ OwnPs w.heap.size w' vG Es ∧ OwnE w.heap.size w' vL L ∧ DCert Es L ∧ Below w.heap.size w w'
/-- two boxes and a place for a certificate -/
theorem bx3 {w wr : World} {a0 a1 a2 b0 b1 b2 c0 c1 c2 : Value} {t t2 t3 : TypeId} (hb : Below (w.heap.size + 3) (((w.alloc (.cells #[a0, a1, a2] t)).alloc (.cells #[b0, b1, b2] t2)).alloc (.cells #[c0, c1, c2] t3)) wr) :
    wr.heap[w.heap.size]? = some (.cells #[a0, a1, a2] t (0, 0)) ∧ wr.heap[w.heap.size + 1]? = some (.cells #[b0, b1, b2] t2 (0, 0)) ∧ wr.heap[w.heap.size + 2]? = some (.cells #[c0, c1, c2] t3 (0, 0)) ∧ Keep Any w wr ∧ Below w.heap.size w wr ∧ w.heap.size + 3 ≤ wr.heap.size := by
  have h1 : (w.alloc (.cells #[a0, a1, a2] t)).heap.size = w.heap.size + 1 := by simp
  have h2 : ((w.alloc (.cells #[a0, a1, a2] t)).alloc (.cells #[b0, b1, b2] t2)).heap.size = w.heap.size + 2 := by simp
  have g1 := heap_alloc_new w (.cells #[a0, a1, a2] t)
  have g2 := heap_alloc_new (w.alloc (.cells #[a0, a1, a2] t)) (.cells #[b0, b1, b2] t2)
  have g3 := heap_alloc_new ((w.alloc (.cells #[a0, a1, a2] t)).alloc (.cells #[b0, b1, b2] t2)) (.cells #[c0, c1, c2] t3)
  rw [h1] at g2
  rw [h2] at g3
  have hbw : Below w.heap.size w wr := ((((Below.refl _ _).alloc (Nat.le_refl _) _).alloc (by simp) _).alloc (by simp; omega) _).trans (hb.mono (by omega))
  exact ⟨blk hb (by omega) (old_blk (old_blk g1)), blk hb (by omega) (old_blk g2), blk hb (by omega) g3, Keep.of_below hbw, hbw, by have := hb.size; simpa using this⟩

set_option maxRecDepth 100000 in
set_option maxHeartbeats 2000000 in
theorem impl_prove (w : World) (pO pP pC qO qP qC : Value) (P Q : Pres) (hP : ValP Any w pO pP pC P) (hQ : ValP Any w qO qP qC Q) :
    Calls Tryz.prog 31 #[.agg #[pO, pP, pC], .agg #[qO, qP, qC]] w (IProR P Q w) := by
  have HP := Lib.hid hP
  have HQ := Lib.hid hQ
  obtain ⟨W0, hW0⟩ : ∃ W0, W0 = ((w.alloc (.cells #[pO, pP, pC] 30)).alloc (.cells #[qO, qP, qC] 30)).alloc (.cells #[.int .i64 0, .slice none 0 0, .slice none 0 0] 47) := ⟨_, rfl⟩
  have HB0 := Lib.hid (show Below (w.heap.size + 3) (((w.alloc (.cells #[pO, pP, pC] 30)).alloc (.cells #[qO, qP, qC] 30)).alloc (.cells #[.int .i64 0, .slice none 0 0, .slice none 0 0] 47)) W0 by rw [hW0]; exact Below.refl _ _)
  clear hP hQ
  go_enter Tryz.func31, Tryz.ntmps31
  go_upto_region 1 with fail
  rw [← hW0]
  clear hW0
  obtain ⟨r, hr⟩ : ∃ r, w.heap.size + 1 + 1 = r := ⟨_, rfl⟩
  rw [hr]
  obtain ⟨k0, k1, k2, hk, hbw, hs⟩ := bx3 HB0.out
  rw [show w.heap.size + 2 = r from hr] at k2
  obtain ⟨⟨p0, p1, p2⟩, _⟩ := row3 k0
  obtain ⟨⟨q0, q1, q2⟩, _⟩ := row3 k1
  have HC := Lib.hid (impl_find W0 pO pP pC qO qP qC P Q (HP.out.keep hk) (HQ.out.keep hk))
  clear k0 k1 k2 hk hbw
  go_wp2_with fail
  refine HC.out.mono ?_
  rintro e w1 ⟨v, k, res, rfl, hv, ⟨L, hL, hLr, hLd⟩, hb1⟩
  have HB1 := Lib.hid (HB0.out.trans (hb1.mono hs))
  subst hLr
  have HV := Lib.hid hv
  have HL := Lib.hid hL
  have HLD := Lib.hid hLd
  obtain ⟨aL, cL, rfl, _, _, _⟩ := hL.form
  clear p0 p1 p2 q0 q1 q2 hs hb1 hv hL hLd
  obtain ⟨k0, k1, k2, hk, hbw, hs⟩ := bx3 HB1.out
  rw [show w.heap.size + 2 = r from hr] at k2
  obtain ⟨⟨c0, c1, c2⟩, f0, f1, f2⟩ := row3 k2
  have HBW1 := Lib.hid hbw
  by_cases hk0 : k = 0
  · subst hk0
    obtain ⟨T, U, hTE, hUE, hT, hU, hT6, hU6⟩ := find_grp HV.out
    have HC1 := Lib.hid (copyP_any w1 w.heap.size 0 P ⟨trivial, by omega, _, _, _, (row3 k0).1.1, (row3 k0).1.2.1, (row3 k0).1.2.2, HP.out.keep hk⟩ (by rw [hTE]; exact (cop_hyp hT hT6).1) (by rw [hTE]; exact (cop_hyp hT hT6).2.1) (by rw [hTE]; exact (cop_hyp hT hT6).2.2))
    have HC2 := Lib.hid (fun W h => copyP_any W (w.heap.size + 1) 0 Q h (by rw [hUE]; exact (cop_hyp hU hU6).1) (by rw [hUE]; exact (cop_hyp hU hU6).2.1) (by rw [hUE]; exact (cop_hyp hU hU6).2.2))
    clear hT hU hT6 hU6 hTE hUE k0 k1 k2 hk hbw
    go_wp2_with fail
    refine HC1.out.mono ?_
    rintro e w2 ⟨u0, u1, u2, E1, rfl, hE1, hv1, hd1, hb2⟩
    have HB2 := Lib.hid (HB1.out.trans (hb2.mono hs))
    have HE1 := Lib.hid hE1
    have HV1 := Lib.hid hv1
    have HD1 := Lib.hid hd1
    have HL2 := Lib.hid (HL.out.keep hb2)
    have HS12 := Lib.hid hb2.size
    obtain ⟨a0, n0, rfl, _, _⟩ := SlG.form hE1.a.1.sl
    obtain ⟨a1, n1, rfl, _, _, _⟩ := hE1.R.form
    obtain ⟨a2, n2, rfl, _, _, _⟩ := hE1.C.form
    clear hE1 hv1 hd1 hb2 hs c0 c1 c2 f0 f1 f2 HC1
    obtain ⟨k0, k1, k2, hk, hbw, hs⟩ := bx3 HB2.out
    have HC3 := Lib.hid (HC2.out w2 ⟨trivial, by omega, _, _, _, (row3 k1).1.1, (row3 k1).1.2.1, (row3 k1).1.2.2, HQ.out.keep hk⟩)
    clear k0 k1 k2 hk hbw
    go_wp2_with fail
    refine HC3.out.mono ?_
    rintro e w3 ⟨t0, t1, t2, E2, rfl, hE2, hv2, hd2, hb3⟩
    have HB3 := Lib.hid (HB2.out.trans (hb3.mono hs))
    have HE2 := Lib.hid hE2
    have HV2 := Lib.hid hv2
    have HD2 := Lib.hid hd2
    have HE1' := Lib.hid (OwnP.keepS HE1.out (Keep.of_below (S := Any) hb3) (fun _ _ => trivial))
    have HL3 := Lib.hid (HL2.out.keep hb3)
    have HS23 := Lib.hid hb3.size
    obtain ⟨b0, m0, rfl, _, _⟩ := SlG.form hE2.a.1.sl
    obtain ⟨b1, m1, rfl, _, _, _⟩ := hE2.R.form
    obtain ⟨b2, m2, rfl, _, _, _⟩ := hE2.C.form
    clear hE2 hv2 hd2 hb3 hs HC3 HC2
    obtain ⟨-, -, k2, -, hbw, hs⟩ := bx3 HB3.out
    rw [show w.heap.size + 2 = r from hr] at k2
    have hlt2 : r < w3.heap.size := by omega
    obtain ⟨⟨c0, c1, c2⟩, f0, f1, f2⟩ := row3 k2
    obtain ⟨gC, hgC⟩ : ∃ gC, w3.heap.size = gC := ⟨_, rfl⟩
    rw [hgC] at hlt2
    obtain ⟨Z, hZ⟩ : ∃ Z, Z = ((w3.setCell ⟨r, 0, none⟩ (.int .i64 4)).setCell ⟨r, 1, none⟩ (.slice (some ⟨gC, 0, none⟩) 2 2)).setCell ⟨r, 2, none⟩ (.slice aL L.length cL) := ⟨_, rfl⟩
    have hZs : Z.heap.size = gC := by rw [hZ, ← hgC]; simp [World.setCell]
    have hkZ : Keep (fun j => j ≠ r) w3 Z := by rw [hZ]; exact (((Keep.refl _ _).setCell (by simp) _).setCell (by simp) _).setCell (by simp) _
    have hbZ : Below w.heap.size w3 Z := by rw [hZ]; exact (((Below.refl _ _).setCell (p := ⟨r, 0, none⟩) (by show w.heap.size ≤ r; omega) _).setCell (p := ⟨r, 1, none⟩) (by show w.heap.size ≤ r; omega) _).setCell (p := ⟨r, 2, none⟩) (by show w.heap.size ≤ r; omega) _
    have kZ : Z.heap[r]? = some (.cells #[.int .i64 4, .slice (some ⟨gC, 0, none⟩) 2 2, .slice aL L.length cL] 47 (0, 0)) := by rw [hZ]; exact put3 k2
    obtain ⟨F, hF⟩ : ∃ F, F = Z.alloc (.cells #[.slice a0 E1.a.2.length n0, .slice a1 E1.R.length n1, .slice a2 E1.C.length n2, .slice b0 E2.a.2.length m0, .slice b1 E2.R.length m1, .slice b2 E2.C.length m2] 30) := ⟨_, rfl⟩
    have kF : F.heap[gC]? = some (.cells #[.slice a0 E1.a.2.length n0, .slice a1 E1.R.length n1, .slice a2 E1.C.length n2, .slice b0 E2.a.2.length m0, .slice b1 E2.R.length m1, .slice b2 E2.C.length m2] 30 (0, 0)) := by rw [hF, ← hZs]; exact heap_alloc_new Z _
    have rF : F.heap[r]? = some (.cells #[.int .i64 4, .slice (some ⟨gC, 0, none⟩) 2 2, .slice aL L.length cL] 47 (0, 0)) := by rw [hF]; exact old_blk kZ
    have hkF : Keep (fun _ => True) Z F := by rw [hF]; exact (Keep.refl _ _).alloc _
    have hbF : Below w.heap.size Z F := by rw [hF]; exact (Below.refl _ _).alloc (by omega) _
    have hsF : F.heap.size = gC + 1 := by rw [hF, ← hZs]; simp
    obtain ⟨⟨z0, z1, z2⟩, -⟩ := row3 rF
    have hW0s := (bx3 HB0.out).2.2.2.2.2
    have hlow : ∀ j, W0.heap.size ≤ j → j ≠ r := fun j hj => by omega
    have HR := Lib.hid (show IProR P Q w (.returned (.tuple #[.agg #[.int .i64 4, .slice (some ⟨gC, 0, none⟩) 2 2, .slice aL L.length cL], .int .i64 0])) F from by
      have hw11 : w.heap.size + 3 ≤ w1.heap.size := (bx3 HB1.out).2.2.2.2.2
      have h12 := HS12.out
      have h23 := HS23.out
      have hlow1 : ∀ j, w1.heap.size ≤ j → j ≠ r := fun j hj => by omega
      have o1 : OwnP w.heap.size F _ _ _ E1 := OwnP.mono (OwnP.keepS (OwnP.keepS HE1'.out hkZ hlow1) hkF (fun _ _ => trivial)) (by omega)
      have o2 : OwnP w.heap.size F _ _ _ E2 := OwnP.mono (OwnP.keepS (OwnP.keepS HE2.out hkZ (fun j hj => by omega)) hkF (fun _ _ => trivial)) (by omega)
      have hcell : ∀ j v, (#[(.slice a0 E1.a.2.length n0 : Value), .slice a1 E1.R.length n1, .slice a2 E1.C.length n2, .slice b0 E2.a.2.length m0, .slice b1 E2.R.length m1, .slice b2 E2.C.length m2])[j]? = some v → F.cell? ⟨gC, j, none⟩ = some v := fun j v hv => by
        rw [cell_of_row _ _ _ _ _ _ kF]
        exact hv
      refine ⟨4, _, _, 0, [E1, E2], L, rfl, ⟨HV.out, .inl ⟨rfl, rfl, ?_⟩⟩, ⟨some ⟨gC, 0, none⟩, 2, rfl, Nat.le_refl _, by unfold maxLen; omega, fun i E hE => ?_⟩, ?_, ⟨fun E hE => ?_, ?_, HLD.out, fun E hE b hb hm => ?_⟩, ?_⟩
      · show [E1.val, E2.val] = _
        rw [HV1.out, HV2.out]
      · refine ⟨gC, 0, rfl, by omega, by omega, ?_⟩
        match i, hE with
        | 0, hE =>
          simp at hE
          subst hE
          exact ⟨_, _, _, hcell 0 _ rfl, hcell 1 _ rfl, hcell 2 _ rfl, o1⟩
        | 1, hE =>
          simp at hE
          subst hE
          exact ⟨_, _, _, hcell 3 _ rfl, hcell 4 _ rfl, hcell 5 _ rfl, o2⟩
      · exact OwnE.mono (FindD.OwnE.keepS (FindD.OwnE.keepS HL3.out hkZ hlow) hkF (fun _ _ => trivial)) (by omega)
      · rcases List.mem_cons.1 hE with rfl | hE
        · exact HD1.out
        · rw [List.mem_singleton.1 hE]; exact HD2.out
      · refine List.pairwise_cons.2 ⟨fun F' hF' b hb hb' => ?_, by simp⟩
        rw [List.mem_singleton.1 hF'] at hb'
        have h1 := (OwnP.lt HE1.out hb).2
        have h2 := (OwnP.lt HE2.out hb').1
        omega
      · obtain ⟨p, hp, rfl⟩ := List.mem_map.1 hm
        have h1 := (HL.out.lt p hp).2
        rcases List.mem_cons.1 hE with rfl | hE
        · have h2 := (OwnP.lt HE1.out hb).1
          omega
        · rw [List.mem_singleton.1 hE] at hb
          have h2 := (OwnP.lt HE2.out hb).1
          omega
      · exact (hbw.trans hbZ).trans hbF)
    have HZ := Lib.hid (And.intro hZ hF)
    clear kZ kF rF hkZ hbZ hkF hbF hsF hlow k2 hbw hs HE1 HE1' HE2 HL2 HL3 HL hZs hZ hF hW0s
    go_wp2_with fail
    rw [← HZ.out.1, ← HZ.out.2]
    exact bodyPost_ret (v := .tuple #[.agg #[.int .i64 4, .slice (some ⟨gC, 0, none⟩) 2 2, .slice aL L.length cL], .int .i64 0]) (by simp [results, Tryz.results31, go_sem, z0, z1, z2]) rfl HR.out
  · have hne : (k != 0) = true := by simpa using hk0
    have hLn : L = [] := by have := find_nil HV.out hk0; simpa using this
    obtain ⟨⟨z0, z1, z2⟩, -⟩ := row3 (put3 (x := .int .i64 0) (y := .slice none 0 0) (z := .slice none 0 0) k2)
    have hlow : ∀ j, W0.heap.size ≤ j → j ≠ r := fun j hj => by have := (bx3 HB0.out).2.2.2.2.2; omega
    have HR := Lib.hid (show IProR P Q w (.returned (.tuple #[.agg #[.int .i64 0, .slice none 0 0, .slice none 0 0], .int .i64 k])) (((w1.setCell ⟨r, 0, none⟩ (.int .i64 0)).setCell ⟨r, 1, none⟩ (.slice none 0 0)).setCell ⟨r, 2, none⟩ (.slice none 0 0)) from by
      refine ⟨0, _, _, k, [], [], rfl, ⟨by have h := HV.out; rwa [hLn] at h, .inr ⟨hk0, rfl, rfl⟩⟩, OwnPs.nil _ _, OwnE.nil _ _, ⟨by simp, by simp, by simp, by simp⟩, ?_⟩
      exact ((HBW1.out.setCell (p := ⟨r, 0, none⟩) (by show w.heap.size ≤ r; omega) _).setCell (p := ⟨r, 1, none⟩) (by show w.heap.size ≤ r; omega) _).setCell (p := ⟨r, 2, none⟩) (by show w.heap.size ≤ r; omega) _)
    clear k0 k1 k2 hk hbw hk0 hLn hlow
    go_wp2_with fail
    exact bodyPost_ret (v := .tuple #[.agg #[.int .i64 0, .slice none 0 0, .slice none 0 0], .int .i64 k]) (by simp [results, Tryz.results31, go_sem, z0, z1, z2]) rfl HR.out

set_option maxRecDepth 100000 in
set_option maxHeartbeats 2000000 in
theorem spec_prove (w : World) (pO pP pC qO qP qC : Value) (P Q : Pres) (hP : ValP Any w pO pP pC P) (hQ : ValP Any w qO qP qC Q) :
    Calls Tryz.prog 30 #[.agg #[pO, pP, pC], .agg #[qO, qP, qC]] w (SProR P Q w) := by
  have HP := Lib.hid hP
  have HQ := Lib.hid hQ
  obtain ⟨W0, hW0⟩ : ∃ W0, W0 = ((w.alloc (.cells #[pO, pP, pC] 30)).alloc (.cells #[qO, qP, qC] 30)).alloc (.cells #[.int .i64 0, .slice none 0 0, .slice none 0 0] 47) := ⟨_, rfl⟩
  have HB0 := Lib.hid (show Below (w.heap.size + 3) (((w.alloc (.cells #[pO, pP, pC] 30)).alloc (.cells #[qO, qP, qC] 30)).alloc (.cells #[.int .i64 0, .slice none 0 0, .slice none 0 0] 47)) W0 by rw [hW0]; exact Below.refl _ _)
  clear hP hQ
  go_enter Tryz.func30, Tryz.ntmps30
  go_upto_region 1 with fail
  rw [← hW0]
  clear hW0
  obtain ⟨r, hr⟩ : ∃ r, w.heap.size + 1 + 1 = r := ⟨_, rfl⟩
  rw [hr]
  obtain ⟨k0, k1, k2, hk, hbw, hs⟩ := bx3 HB0.out
  obtain ⟨⟨p0, p1, p2⟩, _⟩ := row3 k0
  obtain ⟨⟨q0, q1, q2⟩, _⟩ := row3 k1
  have HC := Lib.hid (spec_find W0 pO pP pC qO qP qC P Q (HP.out.keep hk) (HQ.out.keep hk))
  clear k0 k1 k2 hk hbw
  go_wp2_with fail
  refine HC.out.mono ?_
  rintro e w1 ⟨vL, k, res, rfl, hv, hL, hb1⟩
  have HB1 := Lib.hid (HB0.out.trans (hb1.mono hs))
  have HV := Lib.hid hv
  have HL := Lib.hid (Sl2.mono hL (S' := fun b => W0.heap.size ≤ b ∧ b < w1.heap.size → True) (fun _ _ _ => trivial))
  have HLW := Lib.hid (Sl2.bnd hL)
  obtain ⟨aL, cL, rfl, _, _⟩ := SlG.form hL
  clear p0 p1 p2 q0 q1 q2 hs hb1 hv hL
  obtain ⟨k0, k1, k2, hk, hbw, hs⟩ := bx3 HB1.out
  rw [show w.heap.size + 2 = r from hr] at k2
  obtain ⟨⟨c0, c1, c2⟩, f0, f1, f2⟩ := row3 k2
  have HBW1 := Lib.hid hbw
  have hW0s := (bx3 HB0.out).2.2.2.2.2
  by_cases hk0 : k = 0
  · subst hk0
    obtain ⟨T, U, hTE, hUE, hT, hU, hT6, hU6⟩ := find_grp HV.out
    have HC1 := Lib.hid (fun W h => ownP_any W pO pP pC P h (by rw [hTE]; exact (own_hyp hT hT6).1) (by rw [hTE]; exact (own_hyp hT hT6).2.1) (by rw [hTE]; exact (own_hyp hT hT6).2.2))
    have HC2 := Lib.hid (fun W h => ownP_any W qO qP qC Q h (by rw [hUE]; exact (own_hyp hU hU6).1) (by rw [hUE]; exact (own_hyp hU hU6).2.1) (by rw [hUE]; exact (own_hyp hU hU6).2.2))
    obtain ⟨⟨p0, p1, p2⟩, _⟩ := row3 k0
    obtain ⟨⟨q0, q1, q2⟩, _⟩ := row3 k1
    have HP1 := Lib.hid (HP.out.keep hk)
    have HQ1 := Lib.hid (HQ.out.keep hk)
    have hl0 : w.heap.size < w1.heap.size := by omega
    have hl1 : w.heap.size + 1 < w1.heap.size := by omega
    have hl2 : r < w1.heap.size := by omega
    have HKR := Lib.hid k2
    have HRW := Lib.hid (show w.heap.size ≤ r ∧ r < W0.heap.size by omega)
    clear hT hU hT6 hU6 hTE hUE k0 k1 k2 hk hbw hs hW0s
    go_upto_region 4 with fail
    go_region_law
      (first | (go_simp; go_at_call_of 61 pO; refine (HC1.out _ (HP1.out.keep (by repeat (first | exact (Keep.refl _ _).drew | exact Keep.refl _ _ | exact (Keep.refl _ _).alloc _ | exact ((Keep.refl _ _).alloc _).drew | refine Keep.drew ?_ | refine Keep.alloc ?_ _ | refine Keep.trans ?_ (Keep.of_below (by assumption)))))).mono ?_; rintro e w2 ⟨u0, u1, u2, rfl, hv2, hb2⟩; have k2 := (show Keep Any w1 w2 from (by repeat (first | exact (Keep.refl _ _).drew | exact Keep.refl _ _ | exact (Keep.refl _ _).alloc _ | exact ((Keep.refl _ _).alloc _).drew | refine Keep.drew ?_ | refine Keep.alloc ?_ _ | refine Keep.trans ?_ (Keep.of_below (by assumption))))); obtain ⟨a0, n0, rfl, _, _⟩ := SlG.form hv2.os; obtain ⟨a1, n1, rfl, _, _⟩ := SlG.form hv2.ps; obtain ⟨a2, n2, rfl, _, _⟩ := SlG.form hv2.cs; have x0 := (k2.cell (b := w.heap.size + 1) (o := 0) trivial hl1).trans q0; have x1 := (k2.cell (b := w.heap.size + 1) (o := 1) trivial hl1).trans q1; have x2 := (k2.cell (b := w.heap.size + 1) (o := 2) trivial hl1).trans q2; have hy1 : w.heap.size + 1 < w2.heap.size := Nat.lt_of_lt_of_le hl1 k2.size) | (go_simp; go_at_call_of 61 qO; refine (HC2.out _ (HQ1.out.keep (by repeat (first | exact (Keep.refl _ _).drew | exact Keep.refl _ _ | exact (Keep.refl _ _).alloc _ | exact ((Keep.refl _ _).alloc _).drew | refine Keep.drew ?_ | refine Keep.alloc ?_ _ | refine Keep.trans ?_ (Keep.of_below (by assumption)))))).mono ?_; rintro e w3 ⟨t0, t1, t2, rfl, hv3, hb3⟩; have k3 := (show Keep Any w1 w3 from (by repeat (first | exact (Keep.refl _ _).drew | exact Keep.refl _ _ | exact (Keep.refl _ _).alloc _ | exact ((Keep.refl _ _).alloc _).drew | refine Keep.drew ?_ | refine Keep.alloc ?_ _ | refine Keep.trans ?_ (Keep.of_below (by assumption))))); obtain ⟨b0, m0, rfl, _, _⟩ := SlG.form hv3.os; obtain ⟨b1, m1, rfl, _, _⟩ := SlG.form hv3.ps; obtain ⟨b2, m2, rfl, _, _⟩ := SlG.form hv3.cs; have kr3 := (k3.block r trivial hl2).trans HKR.out; obtain ⟨⟨y0, y1, y2⟩, g0, g1, g2⟩ := row3 kr3; have hy2 : r < w3.heap.size := Nat.lt_of_lt_of_le hl2 k3.size))
    all_goals
      have hb12 : Below w1.heap.size w1 w2 := by first | exact hb2 | exact ((Below.refl _ _).drew).trans hb2
      have hb13 : Below w1.heap.size w1 w3 := hb12.trans (hb3.mono hb12.size)
      have hv22 : ValP (fun b => w1.heap.size ≤ b) w3 (.slice a0 P.os.length n0) (.slice a1 P.ps.length n1) (.slice a2 P.cs.length n2) P := ValP.keep hv2 (Keep.of_below hb3)
      have hv33 : ValP (fun b => w1.heap.size ≤ b) w3 (.slice b0 Q.os.length m0) (.slice b1 Q.ps.length m1) (.slice b2 Q.cs.length m2) Q := hv3.mono (fun b h => Nat.le_trans hb12.size h)
      obtain ⟨F, hF⟩ : ∃ F, F = (((w3.setCell ⟨r, 0, none⟩ (.int .i64 4)).setCell ⟨r, 1, none⟩ (.slice (some ⟨w3.heap.size, 0, none⟩) 2 2)).setCell ⟨r, 2, none⟩ (.slice aL res.length cL)).alloc (.cells #[.slice a0 P.os.length n0, .slice a1 P.ps.length n1, .slice a2 P.cs.length n2, .slice b0 Q.os.length m0, .slice b1 Q.ps.length m1, .slice b2 Q.cs.length m2] 30) := ⟨_, rfl⟩
      obtain ⟨Z, hZ⟩ : ∃ Z, Z = ((w3.setCell ⟨r, 0, none⟩ (.int .i64 4)).setCell ⟨r, 1, none⟩ (.slice (some ⟨w3.heap.size, 0, none⟩) 2 2)).setCell ⟨r, 2, none⟩ (.slice aL res.length cL) := ⟨_, rfl⟩
      have hFZ := hF
      rw [← hZ] at hFZ
      have hZs : Z.heap.size = w3.heap.size := by rw [hZ]; simp [World.setCell]
      have hkZ : Keep (fun j => j ≠ r) w3 Z := by rw [hZ]; exact (((Keep.refl _ _).setCell (by simp) _).setCell (by simp) _).setCell (by simp) _
      have hbZ : Below w.heap.size w3 Z := by rw [hZ]; exact (((Below.refl _ _).setCell (p := ⟨r, 0, none⟩) HRW.out.1 _).setCell (p := ⟨r, 1, none⟩) HRW.out.1 _).setCell (p := ⟨r, 2, none⟩) HRW.out.1 _
      have kZ : Z.heap[r]? = some (.cells #[.int .i64 4, .slice (some ⟨w3.heap.size, 0, none⟩) 2 2, .slice aL res.length cL] 47 (0, 0)) := by rw [hZ]; exact put3 kr3
      have hs13 := hb13.size
      have hs01 := HBW1.out.size
      have kF : F.heap[w3.heap.size]? = some (.cells #[.slice a0 P.os.length n0, .slice a1 P.ps.length n1, .slice a2 P.cs.length n2, .slice b0 Q.os.length m0, .slice b1 Q.ps.length m1, .slice b2 Q.cs.length m2] 30 (0, 0)) := by rw [hFZ, ← hZs]; exact heap_alloc_new Z _
      have rF := (show F.heap[r]? = some (.cells #[.int .i64 4, .slice (some ⟨w3.heap.size, 0, none⟩) 2 2, .slice aL res.length cL] 47 (0, 0)) by rw [hFZ]; exact old_blk kZ)
      have hkF : Keep (fun _ => True) Z F := by rw [hFZ]; exact (Keep.refl _ _).alloc _
      have hbF : Below w.heap.size Z F := by rw [hFZ]; exact (Below.refl _ _).alloc (by omega) _
      have hsF : F.heap.size = w3.heap.size + 1 := by rw [hFZ, ← hZs]; simp
      obtain ⟨⟨z0, z1, z2⟩, -⟩ := row3 rF
      have HR := Lib.hid (show SProR P Q w (.returned (.tuple #[.agg #[.int .i64 4, .slice (some ⟨w3.heap.size, 0, none⟩) 2 2, .slice aL res.length cL], .int .i64 0])) F from by
        have hcell : ∀ j v, (#[(.slice a0 P.os.length n0 : Value), .slice a1 P.ps.length n1, .slice a2 P.cs.length n2, .slice b0 Q.os.length m0, .slice b1 Q.ps.length m1, .slice b2 Q.cs.length m2])[j]? = some v → F.cell? ⟨w3.heap.size, j, none⟩ = some v := fun j v hv => by
          rw [cell_of_row _ _ _ _ _ _ kF]
          exact hv
        have hr0 := HRW.out.2
        have hr1 := HRW.out.1
        have oP : ValP (fun b => w.heap.size ≤ b) F _ _ _ P := ((hv22.keep (hkZ.mono (fun b h => by omega))).mono (fun b h => Nat.le_trans hs01 h)).keep (hkF.mono (fun _ _ => trivial))
        have oQ : ValP (fun b => w.heap.size ≤ b) F _ _ _ Q := ((hv33.keep (hkZ.mono (fun b h => by omega))).mono (fun b h => Nat.le_trans hs01 h)).keep (hkF.mono (fun _ _ => trivial))
        refine ⟨4, _, _, 0, [P, Q], res, rfl, ⟨HV.out, .inl ⟨rfl, rfl, rfl⟩⟩, ⟨some ⟨w3.heap.size, 0, none⟩, 2, rfl, Nat.le_refl _, by unfold maxLen; omega, fun i E hE => ?_⟩, ?_, ?_⟩
        · refine ⟨w3.heap.size, 0, rfl, Nat.le_trans hs01 hs13, by omega, ?_⟩
          match i, hE with
          | 0, hE =>
            simp at hE
            subst hE
            exact ⟨_, _, _, hcell 0 _ rfl, hcell 1 _ rfl, hcell 2 _ rfl, oP⟩
          | 1, hE =>
            simp at hE
            subst hE
            exact ⟨_, _, _, hcell 3 _ rfl, hcell 4 _ rfl, hcell 5 _ rfl, oQ⟩
        · exact Sl2.keep (Sl2.mono (Sl2.keep (Sl2.keep HLW.out (Keep.of_below hb13)) (hkZ.mono (fun b h => by omega))) (fun b h => by omega)) (hkF.mono (fun _ _ => trivial))
        · exact ((HBW1.out.trans (hb13.mono hs01)).trans hbZ).trans hbF)
      have HF := Lib.hid hF
      clear kZ kF rF hkZ hbZ hkF hbF hsF hZs hZ hF hFZ hv22 hv33 hb12 hb13 hs13 hs01 hv2 hv3 hb2 hb3 k2 k3 kr3
      go_wp2_with fail
      rw [← HF.out]
      exact bodyPost_ret (v := .tuple #[.agg #[.int .i64 4, .slice (some ⟨w3.heap.size, 0, none⟩) 2 2, .slice aL res.length cL], .int .i64 0]) (by simp [results, Tryz.results30, go_sem, z0, z1, z2]) rfl HR.out
  · have hne : (k != 0) = true := by simpa using hk0
    obtain rfl : res = [] := find_nil HV.out hk0
    obtain ⟨⟨z0, z1, z2⟩, -⟩ := row3 (put3 (x := .int .i64 0) (y := .slice none 0 0) (z := .slice none 0 0) k2)
    have HR := Lib.hid (show SProR P Q w (.returned (.tuple #[.agg #[.int .i64 0, .slice none 0 0, .slice none 0 0], .int .i64 k])) (((w1.setCell ⟨r, 0, none⟩ (.int .i64 0)).setCell ⟨r, 1, none⟩ (.slice none 0 0)).setCell ⟨r, 2, none⟩ (.slice none 0 0)) from by
      refine ⟨0, _, _, k, [], [], rfl, ⟨HV.out, .inr ⟨hk0, rfl, rfl⟩⟩, SlP.nil _ _, FindC.Sl2_nil _ _, ?_⟩
      exact ((HBW1.out.setCell (p := ⟨r, 0, none⟩) (by show w.heap.size ≤ r; omega) _).setCell (p := ⟨r, 1, none⟩) (by show w.heap.size ≤ r; omega) _).setCell (p := ⟨r, 2, none⟩) (by show w.heap.size ≤ r; omega) _)
    clear k0 k1 k2 hk hbw hk0
    go_wp2_with fail
    exact bodyPost_ret (v := .tuple #[.agg #[.int .i64 0, .slice none 0 0, .slice none 0 0], .int .i64 k]) (by simp [results, Tryz.results30, go_sem, z0, z1, z2]) rfl HR.out
end Go.Proofs.YtabeedimnbkcgaaGreat.PvC
