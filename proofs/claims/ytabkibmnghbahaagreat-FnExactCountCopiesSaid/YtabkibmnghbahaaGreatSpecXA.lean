import Derived.Test.YtabkibmnghbahaaGreatSpecGU
import Derived.Test.YtabkibmnghbahaaGreatImplY
/-
  The reference's search: spec.l25Embed, spec.CountAutomorphisms.
-/
namespace Go.Proofs.YtabkibmnghbahaaGreat.SpecX
open Go.RowKit Go.Proofs.YtabkibmnghbahaaGreat Go.Proofs.YtabkibmnghbahaaGreat.Tow Go.Proofs.YtabkibmnghbahaaGreat.NumT Go.Proofs.YtabkibmnghbahaaGreat.GenD Go.Proofs.YtabkibmnghbahaaGreat.GenG Go.Proofs.YtabkibmnghbahaaGreat.SpecB Go.Proofs.YtabkibmnghbahaaGreat.SpecL Go.Proofs.YtabkibmnghbahaaGreat.SpecS Go.Proofs.YtabkibmnghbahaaGreat.SpecU
set_option linter.unusedVariables false
set_option linter.unusedSimpArgs false

/-- new rows of rows of rows -/
def New3 (R : List (List (List Nat))) (w : World) (e : Ending) (w' : World) : Prop := ∃ v, e = .returned v ∧ Own3 w.heap.size w' v R ∧ Below w.heap.size w w'

set_option maxRecDepth 100000 in
set_option maxHeartbeats 2000000 in
theorem embed_any (T Q : Tw) (hT : Wf T) (hsT : Small T) (hQ : Wf Q) (hs : Small Q) (hg : Tow.Good Q) (hp : SpecI.Pr Q) (hz : sz Q ≤ 27) (w : World) (pO pP pC qO qP qC : Value)
    (hPT : ValP Any w pO pP pC (ofTw T)) (hPQ : ValP Any w qO qP qC (ofTw Q)) :
    Calls Tryz.prog 20 #[.agg #[pO, pP, pC], .agg #[qO, qP, qC]] w (New3 (growV Q T T.length []) w) := by
  obtain ⟨i0, hinf, hz0, hz1, hz2⟩ := info_parts infoR
  have hT6 := hsT.1
  obtain ⟨aO, cO, aP, cP, aC, cC, rfl, rfl, rfl, hO1, hP1, hC1⟩ := hPT.open
  have HPT := Lib.hid hPT
  have HPQ := Lib.hid hPQ
  have HOT := Lib.hid (SpecN.ofTw_ords Q)
  have HONE := Lib.hid (fun W hO => SpecN.one_any Q hs.1 W qO qP qC hO)
  have HGR := Lib.hid (grow_top T Q hT hsT hQ hs hg hp hz)
  have HIM := Lib.hid (show imk Q T.length [] = List.replicate T.length (Tow.one Q) by unfold imk; rw [List.append_nil])
  have HZN := Lib.hid (show (0 : Nat) + 27 ^ T.length ≤ 1000000000 from by
    have h6 : 27 ^ T.length ≤ 27 ^ 6 := Nat.pow_le_pow_right (by omega) hT6
    omega)
  obtain ⟨W0, hW0⟩ : ∃ W0, W0 = (w.alloc (.cells #[.slice aO T.length cO, .slice aP T.length cP, .slice aC T.length cC] 30)).alloc (.cells #[qO, qP, qC] 30) := ⟨_, rfl⟩
  have HB0 := Lib.hid (show Below (w.heap.size + 2) ((w.alloc (.cells #[.slice aO T.length cO, .slice aP T.length cP, .slice aC T.length cC] 30)).alloc (.cells #[qO, qP, qC] 30)) W0 by rw [hW0]; exact Below.refl _ _)
  have HS0 := Lib.hid (show W0.heap.size = w.heap.size + 2 by rw [hW0]; simp)
  have HO0 := Lib.hid (World.ownsRow_made (base := w.heap.size + 2) (e := 22) (size := 1) W0 #[] 0 (by rw [HS0.out]; exact Nat.le_refl _) (Nat.zero_le _) rfl)
  clear hPT hPQ
  go_enter Tryz.func20, Tryz.ntmps20
  go_upto_region 1 with fail
  rw [← hW0]
  clear hW0
  go_wp2_with fail
  go_loopw [5, 6] (fun v iv wr => ∃ k : Nat, k ≤ T.length ∧ iv = .int .i64 (k : Int) ∧ Hid (Own2 22 2 (w.heap.size + 2) wr v (List.replicate k (Tow.one Q))) ∧ Hid (Below (w.heap.size + 2) ((w.alloc (.cells #[.slice aO T.length cO, .slice aP T.length cP, .slice aC T.length cC] 30)).alloc (.cells #[qO, qP, qC] 30)) wr)) (fun _ iv _ => T.length - (intOf iv).toNat)
  case atStart => exact ⟨0, Nat.zero_le _, rfl, Lib.hid ⟨[], HO0.out, rfl, by simp⟩, Lib.hid (HB0.out.alloc (by rw [HS0.out]; exact Nat.le_refl _) _)⟩
  case round =>
    obtain ⟨k, hk, rfl, hO, hB⟩ := hrel
    obtain ⟨⟨p0, p1, p2⟩, ⟨q0, q1, q2⟩, hkk, hbw, hsz⟩ := bx hB.out
    by_cases hlt : k < T.length
    · have HOQ := Lib.hid (show SlI Any wr qO (ints (SpecN.ords Q)) from by
        have h := (HPQ.out.keep hkk).os
        rwa [HOT.out] at h)
      clear hkk hbw
      go_wp2_with fail
      refine (HONE.out _ HOQ.out).mono ?_
      rintro e w1 ⟨g, c, rfl, ho, hb1⟩
      have HB1 := Lib.hid (hB.out.trans (hb1.mono hsz))
      have HRR := Lib.hid (NewS.row (ho.mono (B' := w.heap.size + 2) hsz))
      obtain ⟨us, h1, h2, h4⟩ := hO.out.of_below hb1
      have HU := Lib.hid (And.intro h2 h4)
      have hrl : (List.replicate k (Tow.one Q)).length = k := List.length_replicate
      rw [hrl] at h1
      have HTL := Lib.hid hrl
      have HSZ1 := Lib.hid (Nat.le_trans hsz hb1.size)
      clear ho hb1 h2 h4 hO hrl p0 p1 p2 q0 q1 q2
      go_wp2_with (at_builtin; (refine wpList_append_own _ rfl _ _ 23 rfl (w.heap.size + 2) 22 i0 (.slice none 0 0) 1 24 Tryz.underlying23 hinf hz0 hz1 hz2 rfl (by decide) _ _ _ rfl (h1.alloc _) ⟨w1.heap.size, 0, none⟩ 1 1 [.slice (some ⟨g, 0, none⟩) (ints (Tow.one Q)).length c] rfl rfl ?c1 ?c2 ?c3 ?c4 ?c5 ?_))
      case c1 =>
        intro j u hj
        match j, hj with
        | 0, hj => simp at hj; subst hj; simp [Addr.add]
      case c2 => intro u hu; simp at hu; subst hu; rfl
      case c3 => unfold maxLen; omega
      case c4 => omega
      case c5 => have := HSZ1.out; simp; omega
      · intro v' w2 hown hgrow _
        have HN := Lib.hid (show Own2 22 2 (w.heap.size + 2) w2 v' (List.replicate (k + 1) (Tow.one Q)) from by
          rw [List.replicate_succ']
          exact Own2.push (w := w1.alloc _) (us := us) (by decide) HTL.out (h1.alloc _) HU.out.1 (fun i r u hr hu => (HU.out.2 i r u hr hu).keep (S := fun _ => True) ((Keep.refl _ _).alloc _) (fun _ _ => trivial)) (HRR.out.keep (S := fun _ => True) ((Keep.refl _ _).alloc _) (fun _ _ => trivial)) hown hgrow)
        have HB2 := Lib.hid (show Below (w.heap.size + 2) ((w.alloc (.cells #[.slice aO T.length cO, .slice aP T.length cP, .slice aC T.length cC] 30)).alloc (.cells #[qO, qP, qC] 30)) w2 from (HB1.out.alloc (by have := HSZ1.out; omega) _).grown hgrow (by simp; have := HSZ1.out; omega) (fun g hg => (World.ownsRow.lt h1 g hg).1))
        clear hown hgrow h1 HU HRR
        go_wp2_with fail
        go_roundw
        case rel => exact ⟨k + 1, by omega, by go_num, HN, HB2⟩
        case measure => simp [intOf]; omega
    · obtain rfl : k = T.length := by omega
      have hlt0 : decide ((T.length : Int) < (T.length : Int)) = false := by simp
      have HK := Lib.hid hkk
      have HBW := Lib.hid hbw
      obtain ⟨W1, hW1⟩ : ∃ W1, W1 = wr.alloc (.cells #[] 23) := ⟨_, rfl⟩
      have hk1 : Keep Any wr W1 := by rw [hW1]; exact (Keep.refl _ _).alloc _
      have HNE := Lib.hid (show ∀ b, b < wr.heap.size → some b ≠ (Value.slice (some ⟨wr.heap.size, 0, none⟩) 0 0).ownBlock from fun b hb e => by
        simp only [Value.ownBlock, Option.some.injEq] at e; omega)
      have HP1 := Lib.hid (((HPT.out.keep hkk).bnd.mono (fun b hb => HNE.out b hb.2)).keep (hk1.mono (fun _ _ => trivial)))
      have HQ1 := Lib.hid (((HPQ.out.keep hkk).bnd.mono (fun b hb => HNE.out b hb.2)).keep (hk1.mono (fun _ _ => trivial)))
      obtain ⟨ai, ci, rfl, _, _⟩ := hO.out.form
      rw [List.length_replicate] at hO ⊢
      have HI1 := Lib.hid (show Sl2 (fun b => some b ≠ (Value.slice (some ⟨wr.heap.size, 0, none⟩) 0 0).ownBlock) W1 (.slice ai T.length ci) ((imk Q T.length []).map ints) from by
        rw [HIM.out]
        exact ((hO.out.sl.bnd).mono (fun b hb => HNE.out b hb.2)).keep (hk1.mono (fun _ _ => trivial)))
      have HF1 := Lib.hid (show Own3 w.heap.size W1 (.slice (some ⟨wr.heap.size, 0, none⟩) 0 0) [] from ⟨[], by
        rw [hW1]; exact World.ownsRow_made (base := w.heap.size) (e := 23) (size := 1) wr #[] 0 (by omega) (Nat.zero_le _) rfl, rfl, by simp⟩)
      have HB1 := Lib.hid (show Below w.heap.size w W1 from by rw [hW1]; exact hbw.alloc (by omega) _)
      have HWS := Lib.hid (show w.heap.size ≤ W1.heap.size from by rw [hW1]; simp; omega)
      clear hkk hbw hk1
      go_wp2_with fail
      rw [← hW1]
      have hGO := HGR.out w.heap.size W1 (.slice aO T.length cO) (.slice aP T.length cP) (.slice aC T.length cC) qO qP qC (.slice ai T.length ci) (.slice (some ⟨wr.heap.size, 0, none⟩) 0 0) [] [] HP1.out HQ1.out HI1.out (by simp) (by simp) HF1.out HWS.out HZN.out
      refine hGO.mono ?_
      rintro e w6 ⟨v6, rfl, hO6, hK6, hW6, hB6⟩
      have HR := Lib.hid (show New3 (growV Q T T.length []) w (.returned v6) w6 from ⟨_, rfl, by rw [List.nil_append] at hO6; exact hO6, HB1.out.trans hB6⟩)
      clear hO6 hK6 hW6 hB6 hGO p0 p1 p2 q0 q1 q2
      go_wp2_with fail
      go_ret
      exact HR.out

theorem grp_parts {T : Tw} (h : Grps.Grp (ofTw T)) : Wf T ∧ Small T ∧ Tow.Good T ∧ SpecI.Pr T := by
  obtain ⟨T', h1, h2, h3, h5, h4⟩ := h
  obtain rfl := Grps.ofTw_inj h3
  refine ⟨h1, h2, h4, fun L hL => ?_⟩
  have := h5.pr (L.o : Int) (List.mem_map.2 ⟨L, hL, rfl⟩)
  simp [Val.primeB] at this
  omega
end Go.Proofs.YtabkibmnghbahaaGreat.SpecX
