import Derived.Test.YtabeedimnbkcgaaGreatAllAC
/-
  impl.copyRows, impl.copyPresentation.
-/
namespace Go.Proofs.YtabeedimnbkcgaaGreat.PvA
open Go.RowKit Go.Proofs.YtabeedimnbkcgaaGreat Go.Proofs.YtabeedimnbkcgaaGreat.Tow Go.Proofs.YtabeedimnbkcgaaGreat.NumT Go.Proofs.YtabeedimnbkcgaaGreat.SpecB Go.Proofs.YtabeedimnbkcgaaGreat.SpecS Go.Proofs.YtabeedimnbkcgaaGreat.LawC Go.Proofs.YtabeedimnbkcgaaGreat.Mark Go.Proofs.YtabeedimnbkcgaaGreat.FindA Go.Proofs.YtabeedimnbkcgaaGreat.FindB Go.Proofs.YtabeedimnbkcgaaGreat.FindD Go.Proofs.YtabeedimnbkcgaaGreat.AllB Go.Proofs.YtabeedimnbkcgaaGreat.AllC
set_option linter.unusedVariables false
set_option linter.unusedSimpArgs false

theorem cloneE (w : World) (v : Value) (l : List Int) (hv : SlI Any w v l) (hp : 0 < l.length) (hl : l.length ≤ 1000000) :
    Calls Tryz.prog 95 #[v] w (NewS l w) := by
  refine (ImplB.clone_any Any v l w hv hl).mono ?_
  rintro e w' ⟨v', rfl, ho, hb⟩
  obtain ⟨g, c, rfl⟩ := ho.form hp
  exact ⟨g, c, rfl, ho, hb⟩

set_option maxRecDepth 100000 in
set_option maxHeartbeats 1000000 in
theorem copyRows_any (w : World) (v : Value) (rows : List (List Int)) (hv : Sl2 Any w v rows) (hne : ∀ r ∈ rows, 0 < r.length) (hl : rows.length ≤ 1000) (hr : ∀ r ∈ rows, r.length ≤ 1000) :
    Calls Tryz.prog 96 #[v] w (EltR rows w) := by
  obtain ⟨i0, hi, hz0, hz1, hz2⟩ := info_parts infoR
  obtain ⟨aR, cR, rfl, _, _⟩ := SlG.form hv
  have HV := Lib.hid hv
  have HNE := Lib.hid hne
  have HRL := Lib.hid hr
  have HL := Lib.hid hl
  have hl63 : (rows.length : Int) ≤ 9223372036854775807 := by omega
  clear hv hne hr hl
  go_enter Tryz.func96, Tryz.ntmps96
  go_wp2_with fail
  go_loopw [3, 8] (fun ov iv wr => ∃ (k : Nat) (L : List (Nat × List Int)), k ≤ rows.length ∧ iv = .int .i64 (k : Int) ∧ Hid (OwnE w.heap.size wr ov L ∧ L.map (·.2) = rows.take k ∧ (L.map (·.1)).Nodup) ∧ Hid (Below w.heap.size w wr)) (fun _ iv _ => rows.length - (intOf iv).toNat)
  case atStart => exact ⟨0, [], Nat.zero_le _, rfl, Lib.hid ⟨OwnE.nil _ _, by simp, by simp⟩, Lib.hid (Below.refl _ _)⟩
  case round =>
    obtain ⟨k, L, hk, rfl, hO, hB⟩ := hrel
    by_cases hlt : k < rows.length
    · obtain ⟨r, hq⟩ : ∃ r, rows[k]? = some r := ⟨_, List.getElem?_eq_getElem hlt⟩
      obtain ⟨bN, oN, u, rfl, _, hbN, hcN, hu⟩ := SlG.get HV.out hq
      have hcr := ((Keep.of_below (S := Any) hB.out).cell (b := bN) (o := oN + k) trivial hbN).trans hcN
      have hrm := List.mem_of_getElem? hq
      have HC := Lib.hid (cloneE wr u r (SlI.keep hu (Keep.of_below hB.out)) (HNE.out r hrm) (by have := HRL.out r hrm; omega))
      have HTK := Lib.hid (show rows.take (k + 1) = rows.take k ++ [r] from take_succ hq)
      have hLk : L.length = k := by
        have := congrArg List.length hO.out.2.1
        rw [List.length_map, List.length_take] at this
        omega
      have HLK := Lib.hid hLk
      clear hq hcN hLk hu hrm
      go_wp2_with fail
      refine HC.out.mono ?_
      rintro e w1 ⟨g, c, rfl, ho, hb1⟩
      have HB1 := Lib.hid (hB.out.trans (hb1.mono hB.out.size))
      have HG := Lib.hid (show wr.heap.size ≤ g from ho.lt.1)
      have HO := Lib.hid (ho.mono (B' := w.heap.size) hB.out.size)
      have HLT := Lib.hid (hO.out.1.lt)
      have HREST := Lib.hid hO.out.2
      obtain ⟨us, h1, h2, h4⟩ := hO.out.1.keep hb1
      have HU := Lib.hid (And.intro h2 h4)
      rw [HLK.out] at h1
      clear ho hb1 h2 h4 hO
      go_wp2_with (at_builtin; (refine wpList_append_own _ rfl _ _ 23 rfl w.heap.size 22 i0 (.slice none 0 0) 1 24 Tryz.underlying23 hi hz0 hz1 hz2 rfl (by decide) _ _ _ rfl (h1.alloc _) ⟨w1.heap.size, 0, none⟩ 1 1 [.slice (some ⟨g, 0, none⟩) r.length c] rfl rfl ?c1 ?c2 ?c3 ?c4 ?c5 ?_))
      case c1 =>
        intro j u hj
        match j, hj with
        | 0, hj => simp at hj; subst hj; simp [Addr.add]
      case c2 => intro u hu; simp at hu; subst hu; rfl
      case c3 => have := HL.out; unfold maxLen; omega
      case c4 => have := HL.out; omega
      case c5 => have := HB1.out.size; simp; omega
      · intro v' w2 hown hgrow _
        have HN2 := Lib.hid (show OwnE w.heap.size w2 v' (L ++ [(g, r)]) ∧ (L ++ [(g, r)]).map (·.2) = rows.take (k + 1) ∧ ((L ++ [(g, r)]).map (·.1)).Nodup from by
          refine ⟨OwnE.push (w := w1.alloc _) (us := us) HLK.out (h1.alloc _) HU.out.1 (fun i p u hp hu => ⟨(HU.out.2 i p u hp hu).1, (HU.out.2 i p u hp hu).2.alloc _⟩) ⟨⟨c, rfl⟩, HO.out.alloc _⟩ hown hgrow, ?_, ?_⟩
          · rw [HTK.out, List.map_append, HREST.out.1]; rfl
          · rw [List.map_append, List.nodup_append]
            refine ⟨HREST.out.2, by simp, fun a ha b hb => ?_⟩
            obtain ⟨p, hp, rfl⟩ := List.mem_map.1 ha
            simp at hb
            subst hb
            have := (HLT.out p hp).2
            have := HG.out
            omega)
        have HB2 := Lib.hid (show Below w.heap.size w w2 from (HB1.out.alloc (by have := HB1.out.size; omega) _).grown hgrow (by simp; have := HB1.out.size; omega) (fun g hg => (World.ownsRow.lt h1 g hg).1))
        have hk729 : (k : Int) ≤ 1000 := by have := HL.out; omega
        clear hown hgrow h1 HU HO
        go_wp2_with fail
        go_roundw
        case rel => exact ⟨k + 1, _, by omega, by go_num, HN2, HB2⟩
        case measure => simp [intOf]; omega
    · obtain rfl : k = rows.length := by omega
      have HR := Lib.hid (show EltR rows w (.returned _) wr from ⟨_, rfl, ⟨L, hO.out.1, by have h := hO.out.2.1; rwa [List.take_length] at h, hO.out.2.2⟩, hB.out⟩)
      clear hO hB
      go_wp2_with fail
      go_ret
      exact HR.out

/-- a presentation with the blocks of its rows -/
structure PresE where
  a : Nat × List Int
  R : List (Nat × List Int)
  C : List (List (Nat × List Int))
def PresE.val (E : PresE) : Pres := ⟨E.a.2, E.R.map (·.2), E.C.map fun L => L.map (·.2)⟩
/-- a presentation that the call made -/
structure OwnP (B : Nat) (w : World) (v0 v1 v2 : Value) (E : PresE) : Prop where
  a : Own B w v0 E.a.2 ∧ (0 < E.a.2.length → ∃ c, v0 = .slice (some ⟨E.a.1, 0, none⟩) E.a.2.length c)
  R : OwnE B w v1 E.R
  C : OwnE3 B w v2 E.C
/-- the blocks of numbers -/
def BkP (E : PresE) (b : Nat) : Prop := (b = E.a.1 ∧ 0 < E.a.2.length) ∨ b ∈ E.R.map (·.1) ∨ Bl E.C b
structure DP (E : PresE) : Prop where
  R : (E.R.map (·.1)).Nodup
  C : D3 E.C
  aR : 0 < E.a.2.length → E.a.1 ∉ E.R.map (·.1)
  aC : 0 < E.a.2.length → ¬ Bl E.C E.a.1
  RC : ∀ b ∈ E.R.map (·.1), ¬ Bl E.C b
def CopR (P : Pres) (w : World) (e : Ending) (w' : World) : Prop := ∃ v0 v1 v2 E, e = .returned (.agg #[v0, v1, v2]) ∧ OwnP w.heap.size w' v0 v1 v2 E ∧ E.val = P ∧ DP E ∧ Below w.heap.size w w'

/-- rows stay while a presentation's block is written -/
theorem row_keepP {w w' : World} {B n gI : Nat} {e : TypeId} {v : Value} {us : List Value} {cs : Array Value} {fr : Nat × Nat} (h : w.ownsRow B e 1 v n us) (hk : Keep (fun k => k ≠ gI) w w') (hI : w.heap[gI]? = some (.cells cs 30 fr)) (he : e ≠ 30) : w'.ownsRow B e 1 v n us := by
  refine ⟨h.1, ?_⟩
  rcases h.2 with hn | ⟨g, cap, cur, rfl, hb, hgg, rest⟩
  · exact .inl hn
  · refine .inr ⟨g, cap, cur, rfl, hb, ?_, rest⟩
    rw [hk.block g (fun hg => ?_) (Array.getElem?_eq_some_iff.1 hgg).1]
    · exact hgg
    · subst hg
      rw [hgg] at hI
      cases hI
      exact he rfl
theorem own_keepP {w w' : World} {B gI : Nat} {v : Value} {x : List Int} {cs : Array Value} {fr : Nat × Nat} (h : Own B w v x) (hk : Keep (fun k => k ≠ gI) w w') (hI : w.heap[gI]? = some (.cells cs 30 fr)) : Own B w' v x := row_keepP h hk hI (by decide)
theorem ownE_keepP {w w' : World} {B gI : Nat} {v : Value} {L : List (Nat × List Int)} {cs : Array Value} {fr : Nat × Nat} (h : OwnE B w v L) (hk : Keep (fun k => k ≠ gI) w w') (hI : w.heap[gI]? = some (.cells cs 30 fr)) : OwnE B w' v L := by
  obtain ⟨us, h1, h2, h4⟩ := h
  exact ⟨us, row_keepP h1 hk hI (by decide), h2, fun i p u hp hu => ⟨(h4 i p u hp hu).1, own_keepP (h4 i p u hp hu).2 hk hI⟩⟩
theorem ownE3_keepP {w w' : World} {B gI : Nat} {v : Value} {L : List (List (Nat × List Int))} {cs : Array Value} {fr : Nat × Nat} (h : OwnE3 B w v L) (hk : Keep (fun k => k ≠ gI) w w') (hI : w.heap[gI]? = some (.cells cs 30 fr)) : OwnE3 B w' v L := by
  obtain ⟨us, h1, h2, h4⟩ := h
  exact ⟨us, row_keepP h1 hk hI (by decide), h2, fun i p u hp hu => ownE_keepP (h4 i p u hp hu) hk hI⟩
/-- behind the first statement -/
structure St1 (q : Prop) (w1 W : World) (g m : Nat) (v0 v1 : Value) (a : Nat × List Int) (R : List (Nat × List Int)) (P : Pres) : Prop where
  bel : Below w1.heap.size w1 W
  g1 : w1.heap.size ≤ g
  blk : W.heap[g]? = some (.cells #[v0, v1, .slice none 0 0] 30 (0, 0))
  oa : Own w1.heap.size W v0 a.2 ∧ (0 < a.2.length → ∃ c, v0 = .slice (some ⟨a.1, 0, none⟩) a.2.length c)
  oR : OwnE w1.heap.size W v1 R
  av : a.2 = P.os
  Rv : R.map (·.2) = P.ps
  Rn : q → (R.map (·.1)).Nodup
  am : 0 < a.2.length → a.1 < m
  Rm : ∀ b ∈ R.map (·.1), m ≤ b ∧ b < W.heap.size
  mW : m ≤ W.heap.size
theorem st1_mk {q : Prop} {w1 wx W : World} {g m mm : Nat} {v0 v1 : Value} {L : List (Nat × List Int)} {P : Pres} {cs : Array Value} (hb : Below w1.heap.size w1 wx) (hg : w1.heap.size ≤ g) (hG : wx.heap[g]? = some (.cells cs 30 (0, 0)))
    (hA : Own w1.heap.size wx v0 P.os) (hm : ∀ g0, v0.ownBlock = some g0 → g0 < m) (hmm : m ≤ mm) (hm1 : w1.heap.size ≤ m) (hR : OwnE mm wx v1 L) (hRv : L.map (·.2) = P.ps) (hRn : q → (L.map (·.1)).Nodup)
    (hk : Keep (fun k => k ≠ g) wx W) (hbW : Below w1.heap.size wx W) (hGW : W.heap[g]? = some (.cells #[v0, v1, .slice none 0 0] 30 (0, 0))) (hmW : m ≤ W.heap.size) :
    ∃ a, St1 q w1 W g m v0 v1 a L P := by
  have hA' := own_keepP hA hk hG
  have hR' := ownE_keepP hR hk hG
  have hR2 : OwnE w1.heap.size W v1 L := OwnE.mono hR' (Nat.le_trans hm1 hmm)
  have hRm : ∀ b ∈ L.map (·.1), m ≤ b ∧ b < W.heap.size := fun b hb => by
    obtain ⟨p, hp, rfl⟩ := List.mem_map.1 hb
    have := hR'.lt p hp
    omega
  by_cases h0 : 0 < P.os.length
  · obtain ⟨g0, c, rfl⟩ := hA'.form h0
    exact ⟨(g0, P.os), hb.trans hbW, hg, hGW, ⟨hA', fun _ => ⟨c, rfl⟩⟩, hR2, rfl, hRv, hRn, fun _ => hm g0 rfl, hRm, hmW⟩
  · exact ⟨(0, P.os), hb.trans hbW, hg, hGW, ⟨hA', fun h => absurd h h0⟩, hR2, rfl, hRv, hRn, fun h => absurd h h0, hRm, hmW⟩
/-- in the loop -/
structure St2 (q : Prop) (w1 W : World) (g m M : Nat) (v0 v1 v2 : Value) (a : Nat × List Int) (R : List (Nat × List Int)) (C : List (List (Nat × List Int))) (P : Pres) (i : Nat) : Prop where
  bel : Below w1.heap.size w1 W
  g1 : w1.heap.size ≤ g
  blk : W.heap[g]? = some (.cells #[v0, v1, v2] 30 (0, 0))
  oa : Own w1.heap.size W v0 a.2 ∧ (0 < a.2.length → ∃ c, v0 = .slice (some ⟨a.1, 0, none⟩) a.2.length c)
  oR : OwnE w1.heap.size W v1 R
  oC : OwnE3 w1.heap.size W v2 C
  av : a.2 = P.os
  Rv : R.map (·.2) = P.ps
  Cv : C.map (fun L => L.map (·.2)) = P.cs.take i
  Rn : q → (R.map (·.1)).Nodup
  Cd : q → D3 C
  am : 0 < a.2.length → a.1 < m
  Rm : ∀ b ∈ R.map (·.1), m ≤ b ∧ b < M
  Cm : ∀ L ∈ C, ∀ p ∈ L, M ≤ p.1
  mM : m ≤ M
  MW : M ≤ W.heap.size
theorem St1.start {q : Prop} {w1 W : World} {g m : Nat} {v0 v1 : Value} {a : Nat × List Int} {R : List (Nat × List Int)} {P : Pres} (h : St1 q w1 W g m v0 v1 a R P) : St2 q w1 W g m W.heap.size v0 v1 (.slice none 0 0) a R [] P 0 :=
  ⟨h.bel, h.g1, h.blk, h.oa, h.oR, OwnE3.nil _ _, h.av, h.Rv, by simp, h.Rn, fun _ => by simp [D3], h.am, h.Rm, by simp, h.mW, Nat.le_refl _⟩
theorem St2.step {q : Prop} {w1 wr w5 w10 : World} {g m M i gg cap : Nat} {v0 v1 vX v5 : Value} {a : Nat × List Int} {R : List (Nat × List Int)} {C : List (List (Nat × List Int))} {P : Pres} {c : List (List Int)} {L : List (Nat × List Int)} {us : List Value} {o : Obj} (h : St2 q w1 wr g m M v0 v1 vX a R C P i)
    (hc : P.cs[i]? = some c) (hb5 : Below wr.heap.size wr w5) (hL : OwnE wr.heap.size w5 v5 L) (hLr : L.map (·.2) = c) (hLd : q → (L.map (·.1)).Nodup)
    (h1 : wr.ownsRow w1.heap.size 23 1 vX C.length us) (h2 : us.length = C.length) (h4 : ∀ (i : Nat) (L : List (Nat × List Int)) (u : Value), C[i]? = some L → us[i]? = some u → OwnE w1.heap.size wr u L)
    (ho : w10.ownsRow w1.heap.size 23 1 (.slice (some ⟨gg, 0, none⟩) (C.length + 1) cap) (C.length + 1) (us ++ [v5])) (hg : (w5.alloc o).grownBy w10 vX.ownBlock) :
    St2 q w1 (w10.setCell ⟨g, 2, none⟩ (.slice (some ⟨gg, 0, none⟩) (C.length + 1) cap)) g m M v0 v1 (.slice (some ⟨gg, 0, none⟩) (C.length + 1) cap) a R (C ++ [L]) P (i + 1) := by
  have k5 : Keep (fun _ => True) wr (w5.alloc o) := (Keep.of_below hb5).alloc _
  have hs5 := hb5.size
  have hbs := h.bel.size
  have h15 := ownsRow_keep h1 k5 (fun _ _ => trivial)
  have g5 : (w5.alloc o).heap[g]? = some (.cells #[v0, v1, vX] 30 (0, 0)) := by rw [k5.block g trivial (Array.getElem?_eq_some_iff.1 h.blk).1]; exact h.blk
  have hgx : some g ≠ vX.ownBlock := fun e => by
    rcases h15.2 with ⟨rfl, _⟩ | ⟨g', cap', cur, rfl, _, hgg, _⟩
    · simp [Value.ownBlock] at e
    · simp [Value.ownBlock] at e
      subst e
      rw [g5] at hgg
      cases hgg
  have g10 : w10.heap[g]? = some (.cells #[v0, v1, vX] 30 (0, 0)) := (hg.block g (Array.getElem?_eq_some_iff.1 g5).1 hgx).trans g5
  have kW : Keep (fun k => k ≠ g) w10 (w10.setCell ⟨g, 2, none⟩ (.slice (some ⟨gg, 0, none⟩) (C.length + 1) cap)) := (Keep.refl _ _).setCell (by simp) _
  have b10 : Below w1.heap.size w1 w10 := ((h.bel.trans (hb5.mono hbs)).alloc (by omega) _).grown hg (by simp; omega) (fun k hk => (World.ownsRow.lt h1 k hk).1)
  have oa10 : Own w1.heap.size w10 v0 a.2 := World.ownsRow.kept (ownsRow_keep h.oa.1 k5 (fun _ _ => trivial)) hg (rows_apart (ownsRow_keep h.oa.1 k5 (fun _ _ => trivial)) h15 (by decide))
  have oR10 : OwnE w1.heap.size w10 v1 R := OwnE.apart (FindD.OwnE.keepS h.oR k5 (fun _ _ => trivial)) h15 hg
  have oC10 : OwnE3 w1.heap.size w10 (.slice (some ⟨gg, 0, none⟩) (C.length + 1) cap) (C ++ [L]) :=
    OwnE3.push (w := w5.alloc o) (us := us) rfl h15 h2 (fun j q u hq hu => FindD.OwnE.keepS (h4 j q u hq hu) k5 (fun _ _ => trivial)) (OwnE.mono (hL.keep ((Below.refl _ _).alloc (Nat.le_refl _) _)) hbs) ho hg
  refine ⟨b10.setCell (p := ⟨g, 2, none⟩) h.g1 _, h.g1, ?_, ⟨own_keepP oa10 kW g10, h.oa.2⟩, ownE_keepP oR10 kW g10, ownE3_keepP oC10 kW g10, h.av, h.Rv, ?_, h.Rn, ?_, h.am, h.Rm, ?_, h.mM, ?_⟩
  · simp [World.setCell, Array.getElem?_modify, g10]
  · rw [List.map_append, h.Cv, take_succ hc]
    simp [hLr]
  · refine fun hq => ⟨fun A hA => ?_, List.pairwise_append.2 ⟨(h.Cd hq).2, by simp, fun A hA D hD x hx y hy => ?_⟩⟩
    · rcases List.mem_append.1 hA with h' | h'
      · exact (h.Cd hq).1 A h'
      · rw [List.mem_singleton.1 h']; exact hLd hq
    · rw [List.mem_singleton.1 hD] at hy
      have h6 := (h.oC.lt A hA x hx).2
      have h7 := (hL.lt y hy).1
      omega
  · intro A hA p hp
    rcases List.mem_append.1 hA with h' | h'
    · exact h.Cm A h' p hp
    · rw [List.mem_singleton.1 h'] at hp
      have h7 := (hL.lt p hp).1
      have h8 := h.MW
      omega
  · have h8 := h.MW
    have h9 := hg.size
    simp [World.setCell] at *
    omega
theorem grow_ne {w : World} {B n g : Nat} {vX : Value} {us : List Value} {a b c : Value} (h : w.ownsRow B 23 1 vX n us) (hg : w.heap[g]? = some (.cells #[a, b, c] 30 (0, 0))) : some g ≠ vX.ownBlock := fun e => by
  rcases h.2 with ⟨rfl, _⟩ | ⟨g', cap', cur, rfl, _, hgg, _⟩
  · simp [Value.ownBlock] at e
  · simp [Value.ownBlock] at e
    subst e
    rw [hg] at hgg
    cases hgg
theorem al_old {w w5 : World} {g : Nat} {o o' : Obj} (h : w5.heap[g]? = w.heap[g]?) (hg : w.heap[g]? = some o) : (w5.alloc o').heap[g]? = some o := LawC.old_blk (h.trans hg)
theorem lt_al (w : World) (o : Obj) : w.heap.size < (w.drew.alloc o).heap.size := by show w.drew.heap.size < (w.drew.alloc o).heap.size; simp
theorem al_new (w : World) (o : Obj) : (w.drew.alloc o).heap[w.heap.size]? = some o := heap_alloc_new w.drew o
/-- a block of three cells that is written whole -/
theorem put3 {W : World} {g : Nat} {a b c x y z : Value} {t : TypeId} (h : W.heap[g]? = some (.cells #[a, b, c] t (0, 0))) :
    (((W.setCell ⟨g, 0, none⟩ x).setCell ⟨g, 1, none⟩ y).setCell ⟨g, 2, none⟩ z).heap[g]? = some (.cells #[x, y, z] t (0, 0)) := by
  have hl := (Array.getElem?_eq_some_iff.1 h).1
  simp [World.setCell, Array.getElem?_modify, h]

theorem cop_fin {w w1 W : World} {g m M : Nat} {v0 v1 v2 : Value} {a : Nat × List Int} {R : List (Nat × List Int)} {C : List (List (Nat × List Int))} {P : Pres} (hb1 : Below w.heap.size w w1) (hs1 : w1.heap.size = w.heap.size + 1) (h : St2 True w1 W g m M v0 v1 v2 a R C P P.cs.length) :
    CopR P w (.returned (.agg #[v0, v1, v2])) (((W.setCell ⟨w.heap.size, 0, none⟩ v0).setCell ⟨w.heap.size, 1, none⟩ v1).setCell ⟨w.heap.size, 2, none⟩ v2) := by
  have hk : Keep (fun k => k ≠ w.heap.size) W (((W.setCell ⟨w.heap.size, 0, none⟩ v0).setCell ⟨w.heap.size, 1, none⟩ v1).setCell ⟨w.heap.size, 2, none⟩ v2) := (((Keep.refl _ _).setCell (by simp) _).setCell (by simp) _).setCell (by simp) _
  have hlow : ∀ k, w1.heap.size ≤ k → k ≠ w.heap.size := fun k hk => by omega
  refine ⟨v0, v1, v2, ⟨a, R, C⟩, rfl, ⟨⟨?_, h.oa.2⟩, ?_, ?_⟩, ?_, ⟨h.Rn trivial, h.Cd trivial, fun h0 hm => ?_, fun h0 hm => ?_, fun b hb hm => ?_⟩, ?_⟩
  · exact (Own.keep h.oa.1 hk (fun k hk => hlow k (World.ownsRow.lt h.oa.1 k hk).1)).mono (by omega)
  · exact OwnE.mono (FindD.OwnE.keepS h.oR hk hlow) (by omega)
  · exact OwnE3.mono (h.oC.keepS hk hlow) (by omega)
  · have h3 := h.Cv
    rw [List.take_length] at h3
    exact LawE.Pres.ext3 h.av h.Rv h3
  · have h1 : m ≤ a.1 := (h.Rm a.1 hm).1
    have h2 : a.1 < m := h.am h0
    omega
  · obtain ⟨L, hL, hb⟩ := hm
    obtain ⟨p, hp, e⟩ := List.mem_map.1 hb
    have h1 := h.Cm L hL p hp
    have h2 := h.am h0
    have h3 := h.mM
    have e' : p.1 = a.1 := e
    omega
  · obtain ⟨L, hL, hb'⟩ := hm
    obtain ⟨p, hp, e⟩ := List.mem_map.1 hb'
    have h1 := h.Cm L hL p hp
    have h2 := (h.Rm b hb).2
    have e' : p.1 = b := e
    omega
  · have hb := hb1.trans (h.bel.mono (by omega))
    exact ((hb.setCell (p := ⟨w.heap.size, 0, none⟩) (Nat.le_refl _) _).setCell (p := ⟨w.heap.size, 1, none⟩) (Nat.le_refl _) _).setCell (p := ⟨w.heap.size, 2, none⟩) (Nat.le_refl _) _

set_option maxRecDepth 100000 in
set_option maxHeartbeats 2000000 in
theorem copyP_any (w : World) (b o : Nat) (P : Pres) (hP : PtrP Any w b o P) (h1 : P.os.length ≤ 1000) (h2 : P.ps.length ≤ 1000 ∧ ∀ r ∈ P.ps, 0 < r.length ∧ r.length ≤ 1000) (h3 : P.cs.length ≤ 1000 ∧ ∀ c ∈ P.cs, c.length ≤ 1000 ∧ ∀ r ∈ c, 0 < r.length ∧ r.length ≤ 1000) :
    Calls Tryz.prog 62 #[.pointer (some ⟨b, o, none⟩)] w (CopR P w) := by
  obtain ⟨i0, hi, hz0, hz1, hz2⟩ := info_parts infoR3
  obtain ⟨_, hbl, vO, vP, vC, hp0, hp1, hp2, hV⟩ := id hP
  obtain ⟨aO, cO, rfl, _, _⟩ := SlG.form hV.os
  obtain ⟨aP, cP, rfl, _, _⟩ := SlG.form hV.ps
  obtain ⟨aC, cC, rfl, _, _⟩ := SlG.form hV.cs
  have HCL := Lib.hid (fun W hv => ImplB.clone_any Any (.slice aO P.os.length cO) P.os W hv (by omega))
  have HCR := Lib.hid (fun W v rows hv h1 h2 h3 => copyRows_any W v rows hv h1 h2 h3)
  have HV := Lib.hid hV
  have H1 := Lib.hid h1
  have H2 := Lib.hid h2
  have H3 := Lib.hid h3
  clear hP hV h1 h2 h3
  go_enter Tryz.func62, Tryz.ntmps62
  go_upto_region 1 with fail
  obtain ⟨w1, hw1⟩ : ∃ w1, w1 = w.alloc (.cells #[.slice none 0 0, .slice none 0 0, .slice none 0 0] 30) := ⟨_, rfl⟩
  rw [← hw1]
  have hb1 : Below w.heap.size w w1 := by rw [hw1]; exact (Below.refl _ _).alloc (Nat.le_refl _) _
  have hs1 : w1.heap.size = w.heap.size + 1 := by rw [hw1]; simp
  have G1 := Lib.hid (show w1.heap[w.heap.size]? = some (.cells #[.slice none 0 0, .slice none 0 0, .slice none 0 0] 30 (0, 0)) by rw [hw1]; exact heap_alloc_new _ _)
  have HV1 := Lib.hid (HV.out.keep (Keep.of_below hb1))
  have q0 := (hb1.cell (p := ⟨b, o, none⟩) hbl).trans hp0
  have q1 := (hb1.cell (p := ⟨b, o + 1, none⟩) hbl).trans hp1
  have q2 := (hb1.cell (p := ⟨b, o + 2, none⟩) hbl).trans hp2
  have hbl1 : b < w1.heap.size := by omega
  have HB1 := Lib.hid hb1
  have HS1 := Lib.hid hs1
  clear hw1 hb1 hp0 hp1 hp2 hs1
  go_cut [3] (fun sv W => ∃ g m v0 v1 a R, sv = .pointer (some ⟨g, 0, none⟩) ∧ Hid (St1 True w1 W g m v0 v1 a R P))
  case rest =>
    obtain ⟨g, m, v0, v1, a, R, rfl, hS⟩ := hcut
    have HS0 := Lib.hid hS.out.start
    obtain ⟨M, hM⟩ : ∃ M, wc.heap.size = M := ⟨_, rfl⟩
    rw [hM] at HS0
    have hqc := ((Keep.of_below (S := Any) HS0.out.bel).cell (b := b) (o := o + 2) trivial hbl1).trans q2
    have hcs63 : (P.cs.length : Int) ≤ 9223372036854775807 := by have := H3.out.1; omega
    have hblc : b < wc.heap.size := Nat.lt_of_lt_of_le hbl1 HS0.out.bel.size
    clear hM q0 q1 q2 hS HCL
    go_wp2_with fail
    go_loopw [22] (fun iv wr => ∃ (i : Nat) (v2 : Value) (C : List (List (Nat × List Int))), i ≤ P.cs.length ∧ iv = .int .i64 (i : Int) ∧ Hid (St2 True w1 wr g m M v0 v1 v2 a R C P i)) (fun iv _ => P.cs.length - (intOf iv).toNat)
    case atStart => exact ⟨0, _, [], Nat.zero_le _, rfl, HS0⟩
    case round =>
      obtain ⟨i, v2, C, hi', rfl, hS⟩ := hrel
      by_cases hlt : i < P.cs.length
      · obtain ⟨c, hc⟩ : ∃ c, P.cs[i]? = some c := ⟨_, List.getElem?_eq_getElem hlt⟩
        obtain ⟨bC, oC, u, rfl, _, hbC, hcC, hu⟩ := SlG.get (HV1.out.keep (Keep.of_below hS.out.bel)).cs hc
        have hcm := H3.out.2 c (List.mem_of_getElem? hc)
        have HCC := Lib.hid (fun W hv => HCR.out W u c hv (fun r hr => (hcm.2 r hr).1) hcm.1 (fun r hr => (hcm.2 r hr).2))
        have HUU := Lib.hid hu
        obtain ⟨a2, c2, rfl, _, hc2m, _⟩ := hS.out.oC.form
        obtain ⟨⟨e0, e1, e2⟩, f0, f1, f2⟩ := row3 hS.out.blk
        have hgl : g < wr.heap.size := (Array.getElem?_eq_some_iff.1 hS.out.blk).1
        obtain ⟨us, h1, h2, h4⟩ := hS.out.oC
        have HU := Lib.hid (And.intro h1 (And.intro h2 h4))
        have HCI := Lib.hid hc
        have HBK := Lib.hid hS.out.blk
        have HBS := Lib.hid hS.out.bel.size
        have hCl : C.length = i := by
          have := congrArg List.length hS.out.Cv
          rw [List.length_map, List.length_take] at this
          omega
        have hi1000 : (i : Int) ≤ 1000 := by have := H3.out.1; omega
        have HCL := Lib.hid hCl
        have HCB := Lib.hid (show C.length ≤ 1000 by have := H3.out.1; omega)
        clear hu hcm hc h1 h2 h4 hCl hc2m
        go_upto_region 5 with fail
        rename World => w4
        go_region_law
          (first | (go_simp; go_at_call 96; refine (HCC.out _ (Sl2.keep HUU.out (by repeat (first | exact (Keep.refl _ _).drew | exact Keep.refl _ _ | exact (Keep.refl _ _).alloc _ | exact ((Keep.refl _ _).alloc _).drew | refine Keep.drew ?_ | refine Keep.alloc ?_ _ | refine Keep.trans ?_ (Keep.of_below (by assumption)))))).mono ?_; rintro e w5 ⟨v5, rfl, ⟨L, hL, hLr, hLd⟩, hb5⟩; obtain ⟨a5, c5, rfl, _, _, _⟩ := hL.form; have k5 := (show Keep Any w4 w5 from (by repeat (first | exact (Keep.refl _ _).drew | exact Keep.refl _ _ | exact (Keep.refl _ _).alloc _ | exact ((Keep.refl _ _).alloc _).drew | refine Keep.drew ?_ | refine Keep.alloc ?_ _ | refine Keep.trans ?_ (Keep.of_below (by assumption))))); have p5 := (k5.cell (b := g) (o := 2) trivial hgl).trans e2; have hgl5 : g < w5.heap.size := Nat.lt_of_lt_of_le hgl k5.size) | (refine step_append_lies _ (by rfl) _ _ _ (by rfl) w1.heap.size 23 i0 (.slice none 0 0) 1 24 Tryz.underlying24 hi hz0 hz1 hz2 rfl (by omega) (.slice a2 C.length c2) C.length us (by rfl) ((ownsRow_keep HU.out.1 (S := Any) k5 (fun _ _ => trivial)).alloc _) ⟨w5.heap.size, 0, none⟩ 1 1 [.slice a5 L.length c5] (by rfl) (by rfl) (World.news_of_block (cs := #[.slice a5 L.length c5]) (t := 23) (fr := (0, 0)) (heap_alloc_new _ _)) (by simp [Value.oneCell']) (by omega) (by have := HCB.out; unfold maxLen; omega) (by have := HCB.out; omega) (by have := k5.size; have := HBS.out; simp; omega) _ rfl ?_; intro gg cap w10 hown10 hgrow10 hat10 hlt10; have g10 := (hgrow10.block g (by simp; omega) (grow_ne HU.out.1 HBK.out)).trans (al_old (k5.block g trivial hgl) HBK.out); obtain ⟨⟨m0, m1, m2⟩, n0, n1, n2⟩ := row3 g10))
        all_goals
          have hb5' : Below w4.heap.size w4 w5 := by first | exact hb5 | exact ((Below.refl _ _).drew).trans hb5
          have HN := Lib.hid (St2.step hS.out HCI.out hb5' hL hLr (fun _ => hLd) HU.out.1 HU.out.2.1 HU.out.2.2 hown10 hgrow10)
          clear hb5' hb5 hL hLr hLd hown10 hgrow10 hat10 hlt10 g10 m0 m1 m2 n0 n1 n2 k5 p5 hgl5 hS e0 e1 e2 f0 f1 f2 hcC
          go_wp2_with fail
          go_roundw
          case rel => exact ⟨i + 1, _, _, by omega, by go_num, HN⟩
          case measure => simp [intOf] <;> omega
      · obtain rfl : i = P.cs.length := by omega
        have HR0 := Lib.hid (blk hS.out.bel (by have := HS1.out; omega) G1.out)
        obtain ⟨⟨r0, r1, r2⟩, s0, s1, s2⟩ := row3 HR0.out
        obtain ⟨⟨e0, e1, e2⟩, f0, f1, f2⟩ := row3 hS.out.blk
        obtain ⟨⟨z0, z1, z2⟩, -⟩ := row3 (put3 (x := v0) (y := v1) (z := v2) HR0.out)
        have hS' := hS.out
        obtain ⟨aa, cc, rfl, _⟩ := SlG.form hS'.oa.1.sl
        obtain ⟨aa1, cc1, rfl, _⟩ := hS'.oR.form
        obtain ⟨aa2, cc2, rfl, _⟩ := hS'.oC.form
        have HFIN := Lib.hid (cop_fin (w := w) HB1.out HS1.out hS')
        clear hS hS'
        go_wp2_with fail
        exact bodyPost_ret (v := .agg #[.slice aa a.2.length cc, .slice aa1 R.length cc1, .slice aa2 C.length cc2]) (by simp [results, Tryz.results62, go_sem, z0, z1, z2]) rfl HFIN.out
  go_region_law
    (first | (go_simp; go_at_call 95; refine (HCL.out _ (HV1.out.os.keep (by repeat (first | exact (Keep.refl _ _).drew | exact Keep.refl _ _ | exact (Keep.refl _ _).alloc _ | exact ((Keep.refl _ _).alloc _).drew | refine Keep.drew ?_ | refine Keep.alloc ?_ _ | refine Keep.trans ?_ (Keep.of_below (by assumption)))))).mono ?_; rintro e w2 ⟨v2, rfl, ho2, hb2⟩; obtain ⟨a2, c2, rfl, _, _⟩ := SlG.form ho2.sl; have k2 := (show Keep Any w1 w2 from (by repeat (first | exact (Keep.refl _ _).drew | exact Keep.refl _ _ | exact (Keep.refl _ _).alloc _ | exact ((Keep.refl _ _).alloc _).drew | refine Keep.drew ?_ | refine Keep.alloc ?_ _ | refine Keep.trans ?_ (Keep.of_below (by assumption))))); have p2 := (k2.cell (b := b) (o := o + 1) trivial hbl1).trans q1; have hbl2 : b < w2.heap.size := Nat.lt_of_lt_of_le hbl1 k2.size; first | (have gNo : Below w1.drew.heap.size w1.drew w2 := hb2) | (have gA2 : w2.heap[w1.heap.size]? = some (.cells #[.slice none 0 0, .slice none 0 0, .slice none 0 0] 30 (0, 0)) := by exact blk hb2 (lt_al w1 _) (al_new w1 _))) | (go_simp; go_at_call 96; refine (HCR.out _ _ P.ps (Sl2.keep HV1.out.ps (by repeat (first | exact (Keep.refl _ _).drew | exact Keep.refl _ _ | exact (Keep.refl _ _).alloc _ | exact ((Keep.refl _ _).alloc _).drew | refine Keep.drew ?_ | refine Keep.alloc ?_ _ | refine Keep.trans ?_ (Keep.of_below (by assumption))))) (fun r hr => (H2.out.2 r hr).1) H2.out.1 (fun r hr => (H2.out.2 r hr).2)).mono ?_; rintro e w3 ⟨v3, rfl, ⟨L, hL, hLr, hLd⟩, hb3⟩; obtain ⟨a3, c3, rfl, _, _, _⟩ := hL.form; first | (have gC := gNo; have gC2 : Below w2.heap.size w2 w3 := hb3) | (have gB : w3.heap[w2.heap.size]? = some (.cells #[.slice none 0 0, .slice none 0 0, .slice none 0 0] 30 (0, 0)) := blk hb3 (by simp) (heap_alloc_new _ _); obtain ⟨⟨eB0, eB1, eB2⟩, fB0, fB1, fB2⟩ := row3 gB) | (have gA : w3.heap[w1.heap.size]? = some (.cells #[.slice none 0 0, .slice none 0 0, .slice none 0 0] 30 (0, 0)) := blk hb3 (Array.getElem?_eq_some_iff.1 gA2).1 gA2; obtain ⟨⟨eA0, eA1, eA2⟩, fA0, fA1, fA2⟩ := row3 gA)))
  all_goals (go_wp2_with fail; go_meet)
  all_goals first
    | (have B2 : Below w1.heap.size w1 w2 := ((Below.refl _ _).drew).trans gNo
       have B3 : Below w1.heap.size w1 w3 := B2.trans (gC2.mono B2.size)
       obtain ⟨aa, hst⟩ := st1_mk (g := w3.heap.size) (m := w2.heap.size) (B3.alloc B3.size _) B3.size (heap_alloc_new w3 (.cells #[.slice a2 P.os.length c2, .slice a3 L.length c3, .slice none 0 0] 30)) ((ho2.mono (Nat.le_refl _)).keep (S := Any) ((Keep.of_below gC2).alloc _) (fun _ _ => trivial)) (fun g0 h => (World.ownsRow.lt ho2 g0 h).2) (Nat.le_refl _) B2.size (hL.keep ((Below.refl _ _).alloc (Nat.le_refl _) _)) hLr (fun _ => hLd) (Keep.refl _ _) (Below.refl _ _) (heap_alloc_new w3 _) (by have := gC2.size; simp; omega)
       exact ⟨_, _, _, _, _, _, rfl, Lib.hid hst⟩)
    | (have B2 : Below w1.heap.size w1 w2 := ((Below.refl _ _).drew).trans gNo
       have B3 : Below w1.heap.size w1 w3 := (B2.alloc B2.size _).trans (hb3.mono (by have := B2.size; simp; omega))
       obtain ⟨aa, hst⟩ := st1_mk (g := w2.heap.size) (m := w2.heap.size) (W := ((w3.setCell ⟨w2.heap.size, 0, none⟩ (.slice a2 P.os.length c2)).setCell ⟨w2.heap.size, 1, none⟩ (.slice a3 L.length c3)).setCell ⟨w2.heap.size, 2, none⟩ (.slice none 0 0)) B3 B2.size gB ((ho2.mono (Nat.le_refl _)).keep (S := Any) (((Keep.refl _ _).alloc _).trans (Keep.of_below hb3)) (fun _ _ => trivial)) (fun g0 h => (World.ownsRow.lt ho2 g0 h).2) (by simp) B2.size hL hLr (fun _ => hLd) ((((Keep.refl _ _).setCell (by simp) _).setCell (by simp) _).setCell (by simp) _) ((((Below.refl _ _).setCell (p := ⟨w2.heap.size, 0, none⟩) B2.size _).setCell (p := ⟨w2.heap.size, 1, none⟩) B2.size _).setCell (p := ⟨w2.heap.size, 2, none⟩) B2.size _) (put3 gB) (by have := hb3.size; simp [World.setCell] at *; omega)
       exact ⟨_, _, _, _, _, _, rfl, Lib.hid hst⟩)
    | (have B2 : Below w1.heap.size w1 w2 := (((Below.refl _ _).drew).alloc (Nat.le_refl _) _).trans (hb2.mono (Nat.le_of_lt (lt_al w1 _)))
       have B3 : Below w1.heap.size w1 w3 := B2.trans (hb3.mono B2.size)
       obtain ⟨aa, hst⟩ := st1_mk (g := w1.heap.size) (m := w2.heap.size) (W := ((w3.setCell ⟨w1.heap.size, 0, none⟩ (.slice a2 P.os.length c2)).setCell ⟨w1.heap.size, 1, none⟩ (.slice a3 L.length c3)).setCell ⟨w1.heap.size, 2, none⟩ (.slice none 0 0)) B3 (Nat.le_refl _) gA ((ho2.mono (Nat.le_of_lt (lt_al w1 _))).keep (S := Any) (Keep.of_below hb3) (fun _ _ => trivial)) (fun g0 h => (World.ownsRow.lt ho2 g0 h).2) (Nat.le_refl _) B2.size hL hLr (fun _ => hLd) ((((Keep.refl _ _).setCell (by simp) _).setCell (by simp) _).setCell (by simp) _) ((((Below.refl _ _).setCell (p := ⟨w1.heap.size, 0, none⟩) (Nat.le_refl _) _).setCell (p := ⟨w1.heap.size, 1, none⟩) (Nat.le_refl _) _).setCell (p := ⟨w1.heap.size, 2, none⟩) (Nat.le_refl _) _) (put3 gA) (by have := hb3.size; simp [World.setCell] at *; omega)
       exact ⟨_, _, _, _, _, _, rfl, Lib.hid hst⟩)
end Go.Proofs.YtabeedimnbkcgaaGreat.PvA
