import Derived.Test.YtabeedimnbkcgaaGreatIsoA
import Derived.Test.YtabeedimnbkcgaaGreatOrd
import Derived.Test.YtabeedimnbkcgaaGreatMarkN
import Derived.Test.YtabeedimnbkcgaaGreatBx
/-
  impl.elementsAt, impl.FindIsomorphism.
-/
namespace Go.Proofs.YtabeedimnbkcgaaGreat.FindA
open Go.RowKit Go.Proofs.YtabeedimnbkcgaaGreat Go.Proofs.YtabeedimnbkcgaaGreat.Tow Go.Proofs.YtabeedimnbkcgaaGreat.NumT Go.Proofs.YtabeedimnbkcgaaGreat.SpecB Go.Proofs.YtabeedimnbkcgaaGreat.SpecS Go.Proofs.YtabeedimnbkcgaaGreat.Mark Go.Proofs.YtabeedimnbkcgaaGreat.Cmp Go.Proofs.YtabeedimnbkcgaaGreat.Srt
set_option linter.unusedVariables false
set_option linter.unusedSimpArgs false

/-- owned rows, each with its block -/
def OwnE (B : Nat) (w : World) (v : Value) (L : List (Nat × List Int)) : Prop :=
  ∃ us : List Value, w.ownsRow B 22 1 v L.length us ∧ us.length = L.length ∧ ∀ (i : Nat) (p : Nat × List Int) (u : Value), L[i]? = some p → us[i]? = some u → (∃ c, u = .slice (some ⟨p.1, 0, none⟩) p.2.length c) ∧ Own B w u p.2
theorem OwnE.nil (B : Nat) (w : World) : OwnE B w (.slice none 0 0) [] := ⟨[], World.ownsRow_nil _ _ _ _, rfl, by simp⟩
theorem OwnE.row {B : Nat} {w : World} {v : Value} {L : List (Nat × List Int)} (h : OwnE B w v L) {p : Nat × List Int} (hp : p ∈ L) : ∃ c, Own B w (.slice (some ⟨p.1, 0, none⟩) p.2.length c) p.2 := by
  obtain ⟨us, h1, h2, h4⟩ := h
  obtain ⟨i, hi⟩ := List.getElem?_of_mem hp
  have hil := (List.getElem?_eq_some_iff.1 hi).1
  obtain ⟨⟨c, hc⟩, ho⟩ := h4 i p us[i] hi (List.getElem?_eq_getElem (by omega))
  rw [hc] at ho
  exact ⟨c, ho⟩
theorem OwnE.lt {B : Nat} {w : World} {v : Value} {L : List (Nat × List Int)} (h : OwnE B w v L) : ∀ p ∈ L, B ≤ p.1 ∧ p.1 < w.heap.size := fun p hp => by
  obtain ⟨c, ho⟩ := h.row hp
  exact ho.lt
theorem OwnE.nfs {B : Nat} {w : World} {v : Value} {L : List (Nat × List Int)} (h : OwnE B w v L) : NFS (fun b => b ∈ L.map (·.1)) w := fun g cs t fr hg hh => by
  obtain ⟨p, hp, rfl⟩ := List.mem_map.1 hg
  obtain ⟨c, ho⟩ := h.row hp
  rcases ho.2 with ⟨e, _⟩ | ⟨g', cap, cur, e, hb, hgg, _⟩
  · cases e
  · cases e
    rw [hgg] at hh
    cases hh
    rfl
theorem OwnE.form {B : Nat} {w : World} {v : Value} {L : List (Nat × List Int)} (h : OwnE B w v L) : ∃ a cap, v = .slice a L.length cap ∧ L.length ≤ cap ∧ cap ≤ maxLen ∧ (a = none → cap = 0) := by
  obtain ⟨us, h1, h2, h4⟩ := h
  rcases h1.2 with ⟨rfl, hn⟩ | ⟨g, cap, cur, rfl, hb, hgg, hn, hm, hs, ht⟩
  · exact ⟨none, 0, by rw [hn], by omega, by simp, fun _ => rfl⟩
  · exact ⟨_, cap, rfl, hn, hm, by simp⟩
theorem OwnE.rows {B : Nat} {w : World} {v : Value} {L : List (Nat × List Int)} (h : OwnE B w v L) : Rows2 (fun b => B ≤ b) w v L := by
  obtain ⟨a, cap, rfl, h1, h2, h0⟩ := h.form
  refine ⟨a, cap, rfl, h1, h2, h0, fun i p hp => ?_⟩
  obtain ⟨us, o1, o2, o4⟩ := h
  have hil := (List.getElem?_eq_some_iff.1 hp).1
  obtain ⟨u, hu⟩ : ∃ u, us[i]? = some u := ⟨_, List.getElem?_eq_getElem (by omega)⟩
  obtain ⟨⟨c, rfl⟩, ho⟩ := o4 i p u hp hu
  rcases o1.2 with ⟨e, hn⟩ | ⟨g, cap', cur, e, hb, hgg, _⟩
  · omega
  · cases e
    refine ⟨g, 0, rfl, hb, (Array.getElem?_eq_some_iff.1 hgg).1, _, ?_, ho.sl_at⟩
    rw [Nat.zero_add, World.ownsRow.cellAt o1 i (by omega)]
    exact hu
theorem OwnE.keep {B : Nat} {w w' : World} {v : Value} {L : List (Nat × List Int)} (h : OwnE B w v L) (hb : Below w.heap.size w w') : OwnE B w' v L := by
  obtain ⟨us, h1, h2, h4⟩ := h
  exact ⟨us, ownsRow_keep h1 (Keep.of_below (S := fun _ => True) hb) (fun _ _ => trivial), h2, fun i p u hp hu => ⟨(h4 i p u hp hu).1, (h4 i p u hp hu).2.of_below hb⟩⟩
theorem OwnE.push {B n : Nat} {w w' : World} {v v' u : Value} {L : List (Nat × List Int)} {p : Nat × List Int} {us : List Value} (hn : L.length = n)
    (h1 : w.ownsRow B 22 1 v n us) (h2 : us.length = L.length) (h4 : ∀ (i : Nat) (p : Nat × List Int) (u : Value), L[i]? = some p → us[i]? = some u → (∃ c, u = .slice (some ⟨p.1, 0, none⟩) p.2.length c) ∧ Own B w u p.2)
    (hu : (∃ c, u = .slice (some ⟨p.1, 0, none⟩) p.2.length c) ∧ Own B w u p.2) (ho : w'.ownsRow B 22 1 v' (n + 1) (us ++ [u])) (hg : w.grownBy w' v.ownBlock) : OwnE B w' v' (L ++ [p]) := by
  subst hn
  refine ⟨us ++ [u], by simpa using ho, by simp [h2], fun i r' u' hr' hu' => ?_⟩
  have hown : (∃ c, u' = .slice (some ⟨r'.1, 0, none⟩) r'.2.length c) ∧ Own B w u' r'.2 := by
    rcases Nat.lt_or_ge i L.length with hi | hi
    · rw [List.getElem?_append_left hi] at hr'
      rw [List.getElem?_append_left (by omega)] at hu'
      exact h4 i r' u' hr' hu'
    · rw [List.getElem?_append_right hi] at hr'
      rw [List.getElem?_append_right (by omega)] at hu'
      rw [h2] at hu'
      rcases hj : i - L.length with _ | j
      · rw [hj] at hr' hu'
        simp at hr' hu'
        subst hr'; subst hu'
        exact hu
      · rw [hj] at hr'
        simp at hr'
  exact ⟨hown.1, World.ownsRow.kept hown.2 hg (rows_apart hown.2 h1 (by decide))⟩

/-- new rows, apart from each other -/
def Elts (B : Nat) (w : World) (v : Value) (rows : List (List Int)) : Prop := ∃ L, OwnE B w v L ∧ L.map (·.2) = rows ∧ (L.map (·.1)).Nodup
def EltR (rows : List (List Int)) (w : World) (e : Ending) (w' : World) : Prop := ∃ v, e = .returned v ∧ Elts w.heap.size w' v rows ∧ Below w.heap.size w w'

set_option maxRecDepth 100000 in
set_option maxHeartbeats 1000000 in
theorem elementsAt_any (U : Tw) (hU : Wf U) (hs : U.length ≤ 6) (hz : sz U ≤ 729) (w : World) (b o : Nat) (hP : PtrP Any w b o (ofTw U)) (vn : Value) (l : List Nat) (hn : SlI Any w vn (ints l)) (hl : l.length ≤ 1000) (hq : ∀ q ∈ l, q ≤ 1000000) :
    Calls Tryz.prog 58 #[.pointer (some ⟨b, o, none⟩), vn] w (EltR (l.map fun q => ints (at_ U q)) w) := by
  obtain ⟨i0, hi, hz0, hz1, hz2⟩ := info_parts infoR
  obtain ⟨aN, cN, rfl, hNc⟩ := hn.open
  have HN := Lib.hid hn
  have HP := Lib.hid hP
  have HQ := Lib.hid hq
  have HL := Lib.hid hl
  have HAT := Lib.hid (fun W q (hq : q ≤ 1000000) hP => ImplN.at_any U hU hs hz q hq W b o hP)
  have hl63 : (l.length : Int) ≤ 9223372036854775807 := by omega
  clear hn hP hq hl
  go_enter Tryz.func58, Tryz.ntmps58
  go_wp2_with fail
  go_loopw [5, 10] (fun ov iv wr => ∃ (k : Nat) (L : List (Nat × List Int)), k ≤ l.length ∧ iv = .int .i64 (k : Int) ∧ Hid (OwnE w.heap.size wr ov L ∧ L.map (·.2) = (l.take k).map (fun q => ints (at_ U q)) ∧ (L.map (·.1)).Nodup) ∧ Hid (Below w.heap.size w wr)) (fun _ iv _ => l.length - (intOf iv).toNat)
  case atStart => exact ⟨0, [], Nat.zero_le _, rfl, Lib.hid ⟨OwnE.nil _ _, by simp, by simp⟩, Lib.hid (Below.refl _ _)⟩
  case round =>
    obtain ⟨k, L, hk, rfl, hO, hB⟩ := hrel
    by_cases hlt : k < l.length
    · obtain ⟨q, hq⟩ : ∃ q, l[k]? = some q := ⟨_, List.getElem?_eq_getElem hlt⟩
      obtain ⟨bN, oN, rfl, _, hbN, hcN⟩ := HN.out.at hq
      have hcr := ((Keep.of_below (S := Any) hB.out).cell (b := bN) (o := oN + k) trivial hbN).trans hcN
      have hq6 := HQ.out q (List.mem_of_getElem? hq)
      have HC := Lib.hid (HAT.out wr q hq6 (HP.out.keep (Keep.of_below hB.out)))
      have HTK := Lib.hid (show l.take (k + 1) = l.take k ++ [q] from take_succ hq)
      have hLk : L.length = k := by
        have := congrArg List.length hO.out.2.1
        rw [List.length_map, List.length_map, List.length_take] at this
        omega
      have HLK := Lib.hid hLk
      clear hq hcN hLk
      go_wp2_with fail
      refine HC.out.mono ?_
      rintro e w1 ⟨g, c, rfl, ho, hb1⟩
      have HB1 := Lib.hid (hB.out.trans (hb1.mono hB.out.size))
      have HG := Lib.hid (show wr.heap.size ≤ g from ho.lt.1)
      have HO := Lib.hid (ho.mono (B' := w.heap.size) hB.out.size)
      have HLT := Lib.hid (hO.out.1.lt)
      have HREST := Lib.hid hO.out.2
      obtain ⟨us, h1, h2, h4⟩ := hO.out.1.keep hb1
      have HU := Lib.hid (And.intro h2 h4)
      rw [HLK.out] at h1
      clear ho hb1 h2 h4 hO
      go_wp2_with (at_builtin; (refine wpList_append_own _ rfl _ _ 23 rfl w.heap.size 22 i0 (.slice none 0 0) 1 24 Tryz.underlying23 hi hz0 hz1 hz2 rfl (by decide) _ _ _ rfl (h1.alloc _) ⟨w1.heap.size, 0, none⟩ 1 1 [.slice (some ⟨g, 0, none⟩) (ints (at_ U q)).length c] rfl rfl ?c1 ?c2 ?c3 ?c4 ?c5 ?_))
      case c1 =>
        intro j u hj
        match j, hj with
        | 0, hj => simp at hj; subst hj; simp [Addr.add]
      case c2 => intro u hu; simp at hu; subst hu; rfl
      case c3 => have := HL.out; unfold maxLen; omega
      case c4 => have := HL.out; omega
      case c5 => have := HB1.out.size; simp; omega
      · intro v' w2 hown hgrow _
        have HN2 := Lib.hid (show OwnE w.heap.size w2 v' (L ++ [(g, ints (at_ U q))]) ∧ (L ++ [(g, ints (at_ U q))]).map (·.2) = (l.take (k + 1)).map (fun q => ints (at_ U q)) ∧ ((L ++ [(g, ints (at_ U q))]).map (·.1)).Nodup from by
          refine ⟨OwnE.push (w := w1.alloc _) (us := us) HLK.out (h1.alloc _) HU.out.1 (fun i p u hp hu => ⟨(HU.out.2 i p u hp hu).1, (HU.out.2 i p u hp hu).2.alloc _⟩) ⟨⟨c, rfl⟩, HO.out.alloc _⟩ hown hgrow, ?_, ?_⟩
          · rw [HTK.out, List.map_append, List.map_append, HREST.out.1]; rfl
          · rw [List.map_append, List.nodup_append]
            refine ⟨HREST.out.2, by simp, fun a ha b hb => ?_⟩
            obtain ⟨p, hp, rfl⟩ := List.mem_map.1 ha
            simp at hb
            subst hb
            have := (HLT.out p hp).2
            have := HG.out
            omega)
        have HB2 := Lib.hid (show Below w.heap.size w w2 from (HB1.out.alloc (by have := HB1.out.size; omega) _).grown hgrow (by simp; have := HB1.out.size; omega) (fun g hg => (World.ownsRow.lt h1 g hg).1))
        have hk729 : (k : Int) ≤ 1000 := by have := HL.out; omega
        clear hown hgrow h1 HU HO
        go_wp2_with fail
        go_roundw
        case rel => exact ⟨k + 1, _, by omega, by go_num, HN2, HB2⟩
        case measure => simp [intOf]; omega
    · obtain rfl : k = l.length := by omega
      have HR := Lib.hid (show EltR (l.map fun q => ints (at_ U q)) w (.returned _) wr from ⟨_, rfl, ⟨L, hO.out.1, by have h := hO.out.2.1; rwa [List.take_length] at h, hO.out.2.2⟩, hB.out⟩)
      clear hO hB
      go_wp2_with fail
      go_ret
      exact HR.out
end Go.Proofs.YtabeedimnbkcgaaGreat.FindA

/-
  impl.FindIsomorphism.
-/
namespace Go.Proofs.YtabeedimnbkcgaaGreat.FindB
open Go.RowKit Go.Proofs.YtabeedimnbkcgaaGreat Go.Proofs.YtabeedimnbkcgaaGreat.Tow Go.Proofs.YtabeedimnbkcgaaGreat.NumT Go.Proofs.YtabeedimnbkcgaaGreat.GenD Go.Proofs.YtabeedimnbkcgaaGreat.SpecB Go.Proofs.YtabeedimnbkcgaaGreat.SpecS Go.Proofs.YtabeedimnbkcgaaGreat.Mark Go.Proofs.YtabeedimnbkcgaaGreat.Cmp Go.Proofs.YtabeedimnbkcgaaGreat.Srt Go.Proofs.YtabeedimnbkcgaaGreat.Ord Go.Proofs.YtabeedimnbkcgaaGreat.FindA
set_option linter.unusedVariables false
set_option linter.unusedSimpArgs false

/-- the least isomorphism, with the code -/
def FindV (P Q : Pres) (res : List (List Int)) (k : Int) : Prop :=
  (res = [] ∧ k = 1 ∧ ¬ (Grps.Grp P ∧ Grps.Grp Q)) ∨ ∃ T U, P = ofTw T ∧ Q = ofTw U ∧ Grps.Grp P ∧ Grps.Grp Q ∧
    ((res = [] ∧ k = 3 ∧ (27 < sz T ∨ 27 < sz U)) ∨ (res = [] ∧ k = 4 ∧ sz T ≤ 27 ∧ sz U ≤ 27 ∧ (sz T = sz U → Grow.grow U T T.length [] = [])) ∨
     (k = 0 ∧ sz T = sz U ∧ sz U ≤ 27 ∧ ∃ f, f ∈ Grow.grow U T T.length [] ∧ (∀ f' ∈ Grow.grow U T T.length [], ¬ cmpL f' f < 0) ∧ res = f.map fun q => ints (at_ U q)))
theorem find_one {P Q : Pres} {r r' : List (List Int)} {k k' : Int} (h : FindV P Q r k) (h' : FindV P Q r' k') : r' = r ∧ k' = k := by
  rcases h with ⟨rfl, rfl, hn⟩ | ⟨T, U, rfl, rfl, hG, hG2, h⟩
  · rcases h' with ⟨rfl, rfl, _⟩ | ⟨T', U', _, _, hG, hG2, _⟩
    · exact ⟨rfl, rfl⟩
    · exact absurd ⟨hG, hG2⟩ hn
  · rcases h' with ⟨_, _, hn⟩ | ⟨T', U', hT, hU, _, _, h'⟩
    · exact absurd ⟨hG, hG2⟩ hn
    · obtain rfl := Grps.ofTw_inj hT
      obtain rfl := Grps.ofTw_inj hU
      rcases h with ⟨rfl, rfl, h1⟩ | ⟨rfl, rfl, h1, h2, h3⟩ | ⟨rfl, h1, h2, f, f1, f2, rfl⟩ <;> rcases h' with ⟨rfl, rfl, g1⟩ | ⟨rfl, rfl, g1, g2, g3⟩ | ⟨rfl, g1, g2, f', g3, g4, rfl⟩ <;> first | exact ⟨rfl, rfl⟩ | omega | skip
      · rw [h3 g1] at g3; cases g3
      · rw [g3 h1] at f1; cases f1
      · have e : f' = f := cmpL_eq _ _ (by rw [ImplY.grow_rows _ _ _ g3, ImplY.grow_rows _ _ _ f1]) (f2 f' g3) (g4 f f1)
        rw [e]
        exact ⟨rfl, rfl⟩
theorem grow_lt {U T : Tw} (hU : Wf U) : ∀ (k : Nat) (im : List Nat), (∀ q ∈ im, q < sz U) → ∀ f ∈ Grow.grow U T k im, ∀ q ∈ f, q < sz U
  | 0, im, h, f, hf, q, hq => by
    simp only [Grow.grow, List.mem_singleton] at hf
    subst hf
    exact h q hq
  | k + 1, im, h, f, hf, q, hq => by
    rw [Grow.grow, List.mem_flatMap] at hf
    obtain ⟨x, hx, hf⟩ := hf
    split at hf
    · exact grow_lt hU k (x :: im) (fun y hy => by
        rcases List.mem_cons.1 hy with h' | h'
        · rw [h']; exact List.mem_range.1 hx
        · exact h y h') f hf q hq
    · cases hf
theorem grp_sz' {T : Tw} (h : Grps.Grp (ofTw T)) : sz T ≤ 729 := (IsoA.grp_sz h).2
theorem OwnE.mono {B B' : Nat} {w : World} {v : Value} {L : List (Nat × List Int)} (h : OwnE B w v L) (hB : B' ≤ B) : OwnE B' w v L := by
  obtain ⟨us, h1, h2, h4⟩ := h
  exact ⟨us, ownsRow_mono h1 hB, h2, fun i p u hp hu => ⟨(h4 i p u hp hu).1, (h4 i p u hp hu).2.mono hB⟩⟩
def FindR (P Q : Pres) (w : World) (e : Ending) (w' : World) : Prop := ∃ v k res, e = .returned (.tuple #[v, .int .i64 k]) ∧ FindV P Q res k ∧ Elts w.heap.size w' v res ∧ Below w.heap.size w w'
theorem Elts.nil (B : Nat) (w : World) : Elts B w (.slice none 0 0) [] := ⟨[], OwnE.nil _ _, rfl, by simp⟩

set_option maxRecDepth 100000 in
set_option maxHeartbeats 1000000 in
theorem impl_find (w : World) (pO pP pC qO qP qC : Value) (P Q : Pres) (hP : ValP Any w pO pP pC P) (hQ : ValP Any w qO qP qC Q) :
    Calls Tryz.prog 20 #[.agg #[pO, pP, pC], .agg #[qO, qP, qC]] w (FindR P Q w) := by
  obtain ⟨W0, hW0⟩ : ∃ W0, W0 = (w.alloc (.cells #[pO, pP, pC] 30)).alloc (.cells #[qO, qP, qC] 30) := ⟨_, rfl⟩
  have HB0 := Lib.hid (show Below (w.heap.size + 2) ((w.alloc (.cells #[pO, pP, pC] 30)).alloc (.cells #[qO, qP, qC] 30)) W0 by rw [hW0]; exact Below.refl _ _)
  obtain ⟨⟨p0, p1, p2⟩, ⟨q0, q1, q2⟩, hk, hbw, hs⟩ := bx HB0.out
  have HC := Lib.hid (ImplY.isomorphisms_any W0 w.heap.size 0 (w.heap.size + 1) 0 P Q ⟨trivial, by omega, _, _, _, p0, p1, p2, hP.keep hk⟩ ⟨trivial, by omega, _, _, _, q0, q1, q2, hQ.keep hk⟩)
  have HQP := Lib.hid (show PtrP Any W0 (w.heap.size + 1) 0 Q from ⟨trivial, by omega, _, _, _, q0, q1, q2, hQ.keep hk⟩)
  have HBW := Lib.hid hbw
  have HSS := Lib.hid hs
  clear p0 p1 p2 q0 q1 q2 hk hbw hP hQ hs
  go_enter Tryz.func20, Tryz.ntmps20
  go_upto_region 1 with fail
  rw [← hW0]
  clear hW0
  go_wp2_with fail
  refine HC.out.mono ?_
  rintro e w1 ⟨v, k, rfl, hb, h⟩
  have HB1 := Lib.hid (HBW.out.trans (hb.mono (by have := HSS.out; omega)))
  have HK1 := Lib.hid (Keep.of_below (S := Any) hb)
  clear hb
  rcases h with ⟨rfl, rfl, h⟩ | ⟨T, U, rfl, rfl, gP, gQ, h⟩
  · have HR := Lib.hid (show FindR P Q w (.returned (.tuple #[.slice none 0 0, .int .i64 1])) w1 from ⟨_, 1, [], rfl, .inl ⟨rfl, rfl, h⟩, Elts.nil _ _, HB1.out⟩)
    clear h
    go_wp2_with fail
    exact bodyPost_ret (v := .tuple #[.slice none 0 0, .int .i64 1]) (by simp [results, Tryz.results20, go_sem]) rfl HR.out
  rcases h with ⟨rfl, rfl, h⟩ | ⟨rfl, rfl, h1, h2, h3⟩ | ⟨rfl, h1, h2, F, hperm, hasc, ho⟩
  · have HR := Lib.hid (show FindR (ofTw T) (ofTw U) w (.returned (.tuple #[.slice none 0 0, .int .i64 3])) w1 from ⟨_, 3, [], rfl, .inr ⟨T, U, rfl, rfl, gP, gQ, .inl ⟨rfl, rfl, h⟩⟩, Elts.nil _ _, HB1.out⟩)
    clear h gP gQ
    go_wp2_with fail
    exact bodyPost_ret (v := .tuple #[.slice none 0 0, .int .i64 3]) (by simp [results, Tryz.results20, go_sem]) rfl HR.out
  · have HR := Lib.hid (show FindR (ofTw T) (ofTw U) w (.returned (.tuple #[.slice none 0 0, .int .i64 4])) w1 from ⟨_, 4, [], rfl, .inr ⟨T, U, rfl, rfl, gP, gQ, .inr (.inl ⟨rfl, rfl, h1, h2, fun h => absurd h h3⟩)⟩, Elts.nil _ _, HB1.out⟩)
    clear h1 h2 h3 gP gQ
    go_wp2_with fail
    exact bodyPost_ret (v := .tuple #[.slice none 0 0, .int .i64 4]) (by simp [results, Tryz.results20, go_sem]) rfl HR.out
  · cases F with
    | nil =>
      obtain ⟨a, c, rfl, _, _⟩ := ho.form
      have HR := Lib.hid (show FindR (ofTw T) (ofTw U) w (.returned (.tuple #[.slice none 0 0, .int .i64 4])) w1 from ⟨_, 4, [], rfl, .inr ⟨T, U, rfl, rfl, gP, gQ, .inr (.inl ⟨rfl, rfl, by omega, h2, fun _ => by
        have := hperm.length_eq
        exact List.eq_nil_of_length_eq_zero this.symm⟩)⟩, Elts.nil _ _, HB1.out⟩)
      clear h1 h2 gP gQ hperm hasc ho
      go_wp2_with fail
      exact bodyPost_ret (v := .tuple #[.slice none 0 0, .int .i64 4]) (by simp [results, Tryz.results20, go_sem]) rfl HR.out
    | cons f F =>
      have hmem : f ∈ Grow.grow U T T.length [] := hperm.mem_iff.1 List.mem_cons_self
      have hmin : ∀ f' ∈ Grow.grow U T T.length [], ¬ cmpL f' f < 0 := fun f' hf' => by
        rcases List.mem_cons.1 (hperm.mem_iff.2 hf') with e | e
        · rw [e, cmpL_self]; omega
        · exact (List.pairwise_cons.1 hasc).1 f' e
      obtain ⟨g, cap, u, rfl, _, hgl, hcell, hrow⟩ := ho.at (i := 0) (r := f) rfl
      obtain ⟨hU, hsU, hgU, hpU⟩ := SpecX.grp_parts gQ
      have hfl := ImplY.grow_rows _ _ _ hmem
      have hT6 : T.length ≤ 6 := (SpecX.grp_parts gP).2.1.1
      have HEL := Lib.hid (elementsAt_any U hU hsU.1 (grp_sz' gQ) w1 (w.heap.size + 1) 0 (HQP.out.keep HK1.out) u f (hrow.sl.mono (fun _ _ => trivial)) (by simp at hfl; omega) (fun q hq => by have := grow_lt hU _ _ (by simp) f hmem q hq; omega))
      have HFV := Lib.hid (show FindV (ofTw T) (ofTw U) (f.map fun q => ints (at_ U q)) 0 from .inr ⟨T, U, rfl, rfl, gP, gQ, .inr (.inr ⟨rfl, h1, h2, f, hmem, hmin, rfl⟩)⟩)
      have hne : (((f :: F).length : Int) == 0) = false := by simp <;> omega
      have hl0 : (0 : Int) < (((f :: F).length : Nat) : Int) := by simp <;> omega
      obtain ⟨n, hn⟩ : ∃ n, (f :: F).length = n := ⟨_, rfl⟩
      rw [hn] at hne hl0 ⊢
      clear hmem hmin hperm hasc ho hrow gP gQ hU hsU hgU hpU hfl h1 h2 hn
      go_wp2_with fail
      refine HEL.out.mono ?_
      rintro e w2 ⟨v2, rfl, hel, hb2⟩
      have HR := Lib.hid (show FindR (ofTw T) (ofTw U) w (.returned (.tuple #[v2, .int .i64 0])) w2 from ⟨_, 0, _, rfl, HFV.out, by obtain ⟨L, h1, h2, h3⟩ := hel; exact ⟨L, OwnE.mono h1 HB1.out.size, h2, h3⟩, HB1.out.trans (hb2.mono HB1.out.size)⟩)
      clear hel hb2
      go_wp2_with fail
      exact bodyPost_ret (v := .tuple #[v2, .int .i64 0]) (by simp [results, Tryz.results20, go_sem]) rfl HR.out
end Go.Proofs.YtabeedimnbkcgaaGreat.FindB

/-
  spec.l03Flat, spec.l01Less, spec.FindIsomorphism.
-/
namespace Go.Proofs.YtabeedimnbkcgaaGreat.FindC
open Go.RowKit Go.Proofs.YtabeedimnbkcgaaGreat Go.Proofs.YtabeedimnbkcgaaGreat.Tow Go.Proofs.YtabeedimnbkcgaaGreat.NumT Go.Proofs.YtabeedimnbkcgaaGreat.GenD Go.Proofs.YtabeedimnbkcgaaGreat.SpecB Go.Proofs.YtabeedimnbkcgaaGreat.SpecS Go.Proofs.YtabeedimnbkcgaaGreat.LawE Go.Proofs.YtabeedimnbkcgaaGreat.Cmp Go.Proofs.YtabeedimnbkcgaaGreat.Srt Go.Proofs.YtabeedimnbkcgaaGreat.Ord Go.Proofs.YtabeedimnbkcgaaGreat.FindA Go.Proofs.YtabeedimnbkcgaaGreat.FindB
set_option linter.unusedVariables false
set_option linter.unusedSimpArgs false

theorem flat_take {l : List (List Nat)} {k : Nat} {r : List Nat} (h : l[k]? = some r) : (l.take (k + 1)).flatten = (l.take k).flatten ++ r := by
  rw [take_succ h, List.flatten_append, List.flatten_cons, List.flatten_nil, List.append_nil]
theorem flat_le : ∀ (l : List (List Nat)) (k : Nat), (l.take k).flatten.length ≤ l.flatten.length
  | [], k => by simp
  | a :: l, 0 => by simp
  | a :: l, k + 1 => by
    have := flat_le l k
    rw [List.take_succ_cons, List.flatten_cons, List.flatten_cons, List.length_append, List.length_append]
    omega
theorem ints_append (a b : List Nat) : ints (a ++ b) = ints a ++ ints b := by simp [ints]

set_option maxRecDepth 100000 in
set_option maxHeartbeats 1000000 in
theorem flat_any (B : Nat) (w : World) (v : Value) (rows : List (List Nat)) (hv : Own2 22 2 B w v rows) (hl : rows.flatten.length ≤ 1000000) (hr : rows.length ≤ 1000000) :
    Calls Tryz.prog 57 #[v] w (NewI (ints rows.flatten) w) := by
  obtain ⟨i0, hi, hz0, hz1, hz2⟩ := info_parts infoI
  obtain ⟨aU, cU, rfl, _, _⟩ := hv.form
  have hv2 := Lib.hid hv
  have HL := Lib.hid hl
  have HFL := Lib.hid (fun k => flat_le rows k)
  have h00 := Lib.hid (World.ownsRow_made (base := w.heap.size) (e := 2) (size := 1) w #[] 0 (Nat.le_refl _) (Nat.zero_le _) rfl)
  have hl63 : (rows.length : Int) ≤ 9223372036854775807 := by omega
  clear hv hl hr
  go_enter Tryz.func57, Tryz.ntmps57
  go_wp2_with fail
  go_loopw [3, 4] (fun ov i wr => ∃ k : Nat, k ≤ rows.length ∧ i = .int .i64 (k : Int) ∧ Hid (Own w.heap.size wr ov (ints (rows.take k).flatten)) ∧ Hid (Below w.heap.size w wr)) (fun _ i _ => rows.length - (intOf i).toNat)
  case atStart => exact ⟨0, Nat.zero_le _, rfl, Lib.hid (show Own _ _ _ (ints ((rows.take 0).flatten)) from by simpa [ints, Own] using h00.out), Lib.hid ((Below.refl _ _).alloc (Nat.le_refl _) _)⟩
  case round =>
    obtain ⟨k, hk, rfl, ho, hb⟩ := hrel
    by_cases hlt : k < rows.length
    · obtain ⟨r, hrk⟩ : ∃ r, rows[k]? = some r := ⟨_, List.getElem?_eq_getElem hlt⟩
      obtain ⟨gU, cU', u, he, _, _, hcU, hrU⟩ := (hv2.out.of_below hb.out).at hrk
      obtain ⟨rfl, rfl⟩ : aU = some ⟨gU, 0, none⟩ ∧ cU = cU' := by simpa using he
      have hRow := hrU
      obtain ⟨⟨gr, cR, rfl⟩, _⟩ := hrU
      have HRU := Lib.hid (hRow.sl)
      have HTK := Lib.hid (flat_take hrk)
      have HLE := Lib.hid (show (rows.take k).flatten.length + r.length ≤ 1000000 from by
        have := HFL.out (k + 1)
        rw [HTK.out, List.length_append] at this
        have := HL.out
        omega)
      clear he hRow hrk
      obtain ⟨m, hm⟩ : ∃ m, (rows.take k).flatten.length = m := ⟨_, rfl⟩
      have h1 : wr.ownsRow w.heap.size 2 1 u3 m (vals (ints (rows.take k).flatten)) := by
        have h := ho.out
        unfold Own at h
        rwa [ints_length, hm] at h
      rw [hm] at HLE
      have HMM := Lib.hid hm
      clear hm
      have C1 := Lib.hid (SlI.src (w' := wr) HRU.out (Keep.refl _ _))
      have C2 := Lib.hid (vals_one (ints r))
      have C5 := Lib.hid (show (vals (ints r)).length = r.length * 1 by simp [vals, ints])
      have C3 := Lib.hid (show m + r.length ≤ maxLen by have := HLE.out; unfold maxLen; omega)
      have C4 := Lib.hid (show (m + r.length) * 8 ≤ 140737488355328 by have := HLE.out; omega)
      have HOW := Lib.hid h1
      go_wp2_with (at_builtin; (refine wpList_append_own _ rfl _ _ 22 rfl w.heap.size 2 i0 (.int .i64 0) 1 8 Tryz.underlying22 hi hz0 hz1 hz2 rfl (by decide) _ _ _ rfl h1 ⟨gr, 0, none⟩ r.length cR (vals (ints r)) rfl C5.out C1.out C2.out C3.out C4.out hb.out.size ?_))
      intro v' w1 hown' hgrow hnil
      have HN := Lib.hid (show Own w.heap.size w1 v' (ints (rows.take (k + 1)).flatten) from by
        unfold Own
        rw [HTK.out, ints_append, List.length_append, ints_length, ints_length, HMM.out]
        have h := hown'
        rw [show vals (ints (rows.take k).flatten) ++ vals (ints r) = vals (ints (rows.take k).flatten ++ ints r) by simp [vals]] at h
        exact h)
      have HB1 := Lib.hid (hb.out.grown hgrow hb.out.size (fun g hg => (World.ownsRow.lt HOW.out g hg).1))
      clear hown' hgrow hnil h1 ho
      go_wp2_with fail
      go_roundw
      case rel => exact ⟨k + 1, by omega, by go_num, HN, HB1⟩
      case measure => simp [intOf]; omega
    · obtain rfl : k = rows.length := by omega
      have h := ho.out
      rw [List.take_length] at h
      have HR := Lib.hid (show NewI (ints rows.flatten) w (.returned _) wr from ⟨_, rfl, h, hb.out⟩)
      clear h ho hb
      go_wp2_with fail
      go_ret
      exact HR.out
set_option maxRecDepth 100000 in
set_option maxHeartbeats 1000000 in
theorem less_any (w : World) (va vb : Value) (a b : List Nat) (ha : SlI Any w va (ints a)) (hb : SlI Any w vb (ints b)) (n : Nat) (hla : a.length = n) (hlb : b.length = n) (hn : (n : Int) ≤ 9223372036854775806) :
    Calls Tryz.prog 56 #[va, vb] w (EqR (cmpL a b < 0) w) := by
  obtain ⟨aA, cA, rfl, _⟩ := ha.open
  obtain ⟨aB, cB, rfl, _⟩ := hb.open
  rw [hla] at ha ⊢
  rw [hlb] at hb ⊢
  have HA := Lib.hid ha
  have HB := Lib.hid hb
  have HLA := Lib.hid hla
  have HLB := Lib.hid hlb
  clear ha hb hla hlb
  go_enter Tryz.func56, Tryz.ntmps56
  go_wp2_with fail
  go_loopw [5] (fun iv wr => ∃ k : Nat, k ≤ n ∧ iv = .int .i64 (k : Int) ∧ Hid (cmpL (a.drop k) (b.drop k) = cmpL a b ∧ ∃ m, wr = w.drewN m)) (fun iv _ => n - (intOf iv).toNat)
  case atStart => exact ⟨0, Nat.zero_le _, rfl, Lib.hid ⟨rfl, 0, rfl⟩⟩
  case round =>
    obtain ⟨k, hk, rfl, hR⟩ := hrel
    have HK := Lib.hid (keepN (S := Any) hR.out.2)
    by_cases hlt : k < n
    · obtain ⟨x, hx⟩ : ∃ x, a[k]? = some x := ⟨_, List.getElem?_eq_getElem (by rw [HLA.out]; exact hlt)⟩
      obtain ⟨y, hy⟩ : ∃ y, b[k]? = some y := ⟨_, List.getElem?_eq_getElem (by rw [HLB.out]; exact hlt)⟩
      obtain ⟨bA, oA, rfl, _, hbA, hcA⟩ := (HA.out.keep HK.out).at hx
      obtain ⟨bB, oB, rfl, _, hbB, hcB⟩ := (HB.out.keep HK.out).at hy
      have hd : decide ((k : Int) < (n : Int)) = true := by simp; omega
      have w4 : (k : Int) < (n : Int) := by omega
      have w5 : (0 : Int) ≤ (k : Int) := by omega
      have HD := Lib.hid ((cmpL_drop hx hy).symm.trans hR.out.1)
      have HDW := Lib.hid hR.out.2
      clear hx hy hR
      by_cases hxy : x = y
      · subst hxy
        have h2 : ((x : Int) != (x : Int)) = false := by simp
        have HN := Lib.hid (show cmpL (a.drop (k + 1)) (b.drop (k + 1)) = cmpL a b by have := HD.out; rwa [if_neg (Nat.lt_irrefl _), if_neg (Nat.lt_irrefl _)] at this)
        go_wp2_with fail
        go_quiet (fail)
        go_wp2_with fail
        go_roundw
        case rel => exact ⟨k + 1, by omega, by go_num, Lib.hid ⟨HN.out, drewN_two HDW.out ⟨nq, rfl⟩⟩⟩
        case measure => simp [intOf]; omega
      · have h2 : ((x : Int) != (y : Int)) = true := by simp; omega
        have HXY := Lib.hid hxy
        by_cases hl : x < y
        · have h3 : decide ((x : Int) < (y : Int)) = true := by simp; omega
          have HR := Lib.hid (show cmpL a b < 0 by have := HD.out; rw [if_pos hl] at this; omega)
          clear hxy
          go_wp2_with fail
          go_quiet (fail)
          go_wp2_with fail
          go_quiet (fail)
          go_wp2_with fail
          go_ret
          exact EqR.t HR.out (drewN_two HDW.out (by first | exact ⟨_, rfl⟩ | exact ⟨_, World.drewN_drewN _ _ _⟩))
        · have h3 : decide ((x : Int) < (y : Int)) = false := by simp; omega
          have HR := Lib.hid (show ¬ cmpL a b < 0 by have := HD.out; rw [if_neg hl, if_pos (by omega)] at this; omega)
          clear hxy
          go_wp2_with fail
          go_quiet (fail)
          go_wp2_with fail
          go_quiet (fail)
          go_wp2_with fail
          go_ret
          exact EqR.f (fun h => by have := HR.out; omega) (drewN_two HDW.out (by first | exact ⟨_, rfl⟩ | exact ⟨_, World.drewN_drewN _ _ _⟩))
    · obtain rfl : k = n := by omega
      have hd : decide ((k : Int) < (k : Int)) = false := by simp
      have HR := Lib.hid (show ¬ cmpL a b < 0 by
        have h := hR.out.1
        rw [List.drop_of_length_le (by rw [HLA.out]; exact Nat.le_refl _), List.drop_of_length_le (by rw [HLB.out]; exact Nat.le_refl _)] at h
        rw [← h]; simp [cmpL])
      have HDW := Lib.hid hR.out.2
      clear hR
      go_wp2_with fail
      go_ret
      exact EqR.f (fun h => by have := HR.out; omega) HDW.out
theorem Own3.at {B : Nat} {w : World} {v : Value} {M : List (List (List Nat))} (h : Own3 B w v M) {i : Nat} {r : List (List Nat)} (hr : M[i]? = some r) :
    ∃ g cap u, v = .slice (some ⟨g, 0, none⟩) M.length cap ∧ B ≤ g ∧ g < w.heap.size ∧ w.cell? ⟨g, i, none⟩ = some u ∧ Own2 22 2 B w u r := by
  obtain ⟨us, h1, h2, h4⟩ := h
  have hil := (List.getElem?_eq_some_iff.1 hr).1
  rcases h1.2 with ⟨rfl, hn⟩ | ⟨g, cap, cur, rfl, hb, hgg, hn, hm, hs, ht⟩
  · omega
  · obtain ⟨u, hu⟩ : ∃ u, us[i]? = some u := ⟨_, List.getElem?_eq_getElem (by omega)⟩
    refine ⟨g, cap, u, rfl, hb, (Array.getElem?_eq_some_iff.1 hgg).1, ?_, h4 i r u hr hu⟩
    have := World.ownsRow.cells h1 (g := g) rfl i u hu
    rw [addr_add, Nat.zero_add] at this
    exact this
theorem flt_length (U : Tw) : ∀ l : List Nat, (flt U l).length = l.length * U.length
  | [] => by simp [flt]
  | a :: l => by
    show (at_ U a ++ flt U l).length = _
    rw [List.length_append, at_length, flt_length U l, List.length_cons, Nat.succ_mul, Nat.add_comm]
theorem maps_eq {T U : Tw} (gT : Grps.Grp (ofTw T)) (gU : Grps.Grp (ofTw U)) : growV U T T.length [] = (Grow.grow U T T.length []).map (fun l => l.map (at_ U)) := by
  obtain ⟨hT, hsT, hgT, hpT⟩ := SpecX.grp_parts gT
  obtain ⟨hU, hsU, hgU, hpU⟩ := SpecX.grp_parts gU
  have h := grow_growV hU hgU hT T.length (Nat.le_refl _) [] (by rw [List.drop_length]; trivial)
  rw [List.map_nil] at h
  exact h.symm
/-- the best so far -/
def Best (G : List (List Nat)) (t j : Nat) : Prop := ∃ f, G[j]? = some f ∧ ∀ i f', i < t → G[i]? = some f' → ¬ cmpL f' f < 0
theorem Best.yes {G : List (List Nat)} {n t j : Nat} (hl : ∀ f ∈ G, f.length = n) (h : Best G t j) {f f' : List Nat} (hf : G[j]? = some f) (hf' : G[t]? = some f') (hc : cmpL f' f < 0) : Best G (t + 1) t := by
  obtain ⟨f0, h0, h1⟩ := h
  rw [hf] at h0
  cases h0
  refine ⟨f', hf', fun i g hi hg hlt => ?_⟩
  have lg := hl g (List.mem_of_getElem? hg)
  have lf := hl f (List.mem_of_getElem? hf)
  have lf' := hl f' (List.mem_of_getElem? hf')
  rcases Nat.lt_succ_iff_lt_or_eq.1 hi with h | h
  · exact h1 i g h hg (cmpL_trans g f' f (by omega) (by omega) hlt hc)
  · subst h
    rw [hf'] at hg
    cases hg
    rw [cmpL_self] at hlt
    omega
theorem Best.no {G : List (List Nat)} {t j : Nat} (h : Best G t j) {f f' : List Nat} (hf : G[j]? = some f) (hf' : G[t]? = some f') (hc : ¬ cmpL f' f < 0) : Best G (t + 1) j := by
  obtain ⟨f0, h0, h1⟩ := h
  rw [hf] at h0
  cases h0
  refine ⟨f, hf, fun i g hi hg => ?_⟩
  rcases Nat.lt_succ_iff_lt_or_eq.1 hi with h | h
  · exact h1 i g h hg
  · subst h
    rw [hf'] at hg
    cases hg
    exact hc

def SFindR (P Q : Pres) (w : World) (e : Ending) (w' : World) : Prop := ∃ v k res, e = .returned (.tuple #[v, .int .i64 k]) ∧ FindV P Q res k ∧ Sl2 (fun b => w.heap.size ≤ b) w' v res ∧ Below w.heap.size w w'
theorem Sl2_nil (S : Nat → Prop) (w : World) : Sl2 S w (.slice none 0 0) [] := ⟨none, 0, rfl, Nat.le_refl _, by simp, fun _ => rfl, fun i x hx => by simp at hx⟩

set_option maxRecDepth 100000 in
set_option maxHeartbeats 4000000 in
theorem spec_find (w : World) (pO pP pC qO qP qC : Value) (P Q : Pres) (hP : ValP Any w pO pP pC P) (hQ : ValP Any w qO qP qC Q) :
    Calls Tryz.prog 19 #[.agg #[pO, pP, pC], .agg #[qO, qP, qC]] w (SFindR P Q w) := by
  have HP := Lib.hid hP
  have HQ := Lib.hid hQ
  obtain ⟨W0, hW0⟩ : ∃ W0, W0 = (w.alloc (.cells #[pO, pP, pC] 30)).alloc (.cells #[qO, qP, qC] 30) := ⟨_, rfl⟩
  have HB0 := Lib.hid (show Below (w.heap.size + 2) ((w.alloc (.cells #[pO, pP, pC] 30)).alloc (.cells #[qO, qP, qC] 30)) W0 by rw [hW0]; exact Below.refl _ _)
  clear hP hQ
  go_enter Tryz.func19, Tryz.ntmps19
  go_upto_region 1 with fail
  rw [← hW0]
  clear hW0
  obtain ⟨⟨p0, p1, p2⟩, ⟨q0, q1, q2⟩, hk, hbw, hs⟩ := bx HB0.out
  go_wp2_with fail
  refine (IsoA.code2_any _ _ _ _ _ _ _ P Q (HP.out.keep hk) (HQ.out.keep hk)).mono ?_
  rintro e w1 ⟨k, rfl, hc, hb1⟩
  have HB1 := Lib.hid (HB0.out.trans (hb1.mono hs))
  clear p0 p1 p2 q0 q1 q2 hk hbw hs hb1
  obtain ⟨⟨p0, p1, p2⟩, ⟨q0, q1, q2⟩, hk, hbw, hs⟩ := bx HB1.out
  rcases hc with ⟨rfl, hG⟩ | ⟨T, U, rfl, rfl, hG, hG2, ⟨rfl, h27⟩ | ⟨rfl, h27, h28⟩⟩
  · have HR := Lib.hid (show SFindR P Q w (.returned (.tuple #[.slice none 0 0, .int .i64 1])) w1 from ⟨_, 1, [], rfl, .inl ⟨rfl, rfl, hG⟩, Sl2_nil _ _, hbw⟩)
    clear hG hk hbw
    go_wp2_with fail
    exact bodyPost_ret (v := .tuple #[.slice none 0 0, .int .i64 1]) (by simp [results, Tryz.results19, go_sem]) rfl HR.out
  · have HR := Lib.hid (show SFindR (ofTw T) (ofTw U) w (.returned (.tuple #[.slice none 0 0, .int .i64 3])) w1 from ⟨_, 3, [], rfl, .inr ⟨T, U, rfl, rfl, hG, hG2, .inl ⟨rfl, rfl, h27⟩⟩, Sl2_nil _ _, hbw⟩)
    clear hG hG2 hk hbw h27
    go_wp2_with fail
    exact bodyPost_ret (v := .tuple #[.slice none 0 0, .int .i64 3]) (by simp [results, Tryz.results19, go_sem]) rfl HR.out
  · have HM := Lib.hid (IsoA.maps_any T U hG hG2 h28 w1 pO pP pC qO qP qC (HP.out.keep hk) (HQ.out.keep hk))
    have HG := Lib.hid (And.intro hG hG2)
    have HBW := Lib.hid hbw
    have HLE := Lib.hid (And.intro h27 h28)
    have HSS := Lib.hid hs
    clear hk hG hG2 hbw h27 h28 hs
    go_wp2_with fail
    refine HM.out.mono ?_
    rintro e w2 ⟨v, rfl, ho, hb2⟩
    have HB2 := Lib.hid (HBW.out.trans (hb2.mono (by have := HSS.out; omega)))
    have HB12 := Lib.hid (show w.heap.size ≤ w1.heap.size by have := HSS.out; omega)
    clear hb2 p0 p1 p2 q0 q1 q2
    by_cases hq : sz T = sz U
    · rw [if_pos hq, maps_eq HG.out.1 HG.out.2] at ho
      obtain ⟨G, hGG⟩ : ∃ G, Grow.grow U T T.length [] = G := ⟨_, rfl⟩
      rw [hGG] at ho
      cases hGc : G with
      | nil =>
        subst hGc
        obtain ⟨a, c, rfl, _, _⟩ := ho.form
        have HR := Lib.hid (show SFindR (ofTw T) (ofTw U) w (.returned (.tuple #[.slice none 0 0, .int .i64 4])) w2 from ⟨_, 4, [], rfl, .inr ⟨T, U, rfl, rfl, HG.out.1, HG.out.2, .inr (.inl ⟨rfl, rfl, HLE.out.1, HLE.out.2, fun _ => hGG⟩)⟩, Sl2_nil _ _, HB2.out⟩)
        clear ho hGG hq
        go_wp2_with fail
        exact bodyPost_ret (v := .tuple #[.slice none 0 0, .int .i64 4]) (by simp [results, Tryz.results19, go_sem]) rfl HR.out
      | cons f0 G' =>
        obtain ⟨n, hn⟩ : ∃ n, G.length = n := ⟨_, rfl⟩
        have hn0 : 0 < n := by rw [← hn, hGc]; simp
        have hG0 : G[0]? = some f0 := by rw [hGc]; rfl
        clear hGc
        have hlen : ∀ f ∈ G, f.length = T.length := fun f hf => by
          rw [← hGG] at hf
          simpa using ImplY.grow_rows _ _ _ hf
        have hltU : ∀ f ∈ G, ∀ q ∈ f, q < sz U := fun f hf => by
          rw [← hGG] at hf
          exact grow_lt (SpecX.grp_parts HG.out.2).1 _ _ (by simp) f hf
        have hn9 : n ≤ 1000000000 := by
          have h1 := Grow.grow_length U T HLE.out.2 T.length []
          have h6 : 27 ^ T.length ≤ 27 ^ 6 := Nat.pow_le_pow_right (by omega) (SpecX.grp_parts HG.out.1).2.1.1
          rw [← hn, ← hGG]
          omega
        obtain ⟨g, cap, u0, rfl, hgB, hgl, hc0, _⟩ := Own3.at ho (i := 0) (r := f0.map (at_ U)) (by rw [List.getElem?_map, hG0]; rfl)
        rw [List.length_map, hn] at ho ⊢
        have HO := Lib.hid ho
        have HNN := Lib.hid hn
        have HGG := Lib.hid hGG
        have HGL := Lib.hid hlen
        have HGU := Lib.hid hltU
        have HQQ := Lib.hid hq
        have hne : ((n : Int) == 0) = false := by simp; omega
        have hn0i : (0 : Int) < (n : Int) := by omega
        have hnn : (n : Int) ≤ 9223372036854775806 := by omega
        have HB0' := Lib.hid (show Best G 1 0 from ⟨f0, hG0, fun i f' hi hf' => by
          obtain rfl : i = 0 := by omega
          rw [hG0] at hf'
          cases hf'
          rw [cmpL_self]; omega⟩)
        clear ho hn hGG hlen hltU hq hn9 hG0
        go_wp2_with fail
        go_loopw [8, 9] (fun bv iv wr => ∃ t j : Nat, 1 ≤ t ∧ t ≤ n ∧ iv = .int .i64 (t : Int) ∧ Hid (w2.cell? ⟨g, j, none⟩ = some bv ∧ Best G t j) ∧ Hid (Below w2.heap.size w2 wr)) (fun _ iv _ => n - (intOf iv).toNat)
        case atStart => exact ⟨1, 0, by omega, by omega, rfl, Lib.hid ⟨hc0, HB0'.out⟩, Lib.hid (Below.refl _ _)⟩
        case round =>
          obtain ⟨t, j, ht1, ht, rfl, hJ, hB⟩ := hrel
          obtain ⟨fj, hfj, hbest⟩ := hJ.out.2
          obtain ⟨g', cap', uj, e1, _, _, hcj, hoj⟩ := Own3.at HO.out (i := j) (r := fj.map (at_ U)) (by rw [List.getElem?_map, hfj]; rfl)
          simp only [Value.slice.injEq, Option.some.injEq, Addr.mk.injEq, and_true] at e1
          obtain ⟨⟨rfl, -⟩, -, rfl⟩ := e1
          have huj : u8 = uj := Option.some.inj (hJ.out.1.symm.trans hcj)
          subst huj
          have HFJ := Lib.hid hfj
          have HOJ := Lib.hid hoj
          clear hcj hoj hc0 hbest hfj
          by_cases hlt : t < n
          · have hdt : decide ((t : Int) < (n : Int)) = true := by simp; omega
            obtain ⟨ft, hft⟩ : ∃ ft, G[t]? = some ft := ⟨_, List.getElem?_eq_getElem (by rw [HNN.out]; exact hlt)⟩
            obtain ⟨g', cap', ut, e1, _, _, hct, hot⟩ := Own3.at HO.out (i := t) (r := ft.map (at_ U)) (by rw [List.getElem?_map, hft]; rfl)
            simp only [Value.slice.injEq, Option.some.injEq, Addr.mk.injEq, and_true] at e1
            obtain ⟨⟨rfl, -⟩, -, rfl⟩ := e1
            have HCT := Lib.hid hct
            have hctr : wr.cell? ⟨g, t, none⟩ = some ut := (hB.out.cell (p := ⟨g, t, none⟩) hgl).trans hct
            have hgr : g < wr.heap.size := Nat.lt_of_lt_of_le hgl hB.out.size
            have hlj := HGL.out fj (List.mem_of_getElem? HFJ.out)
            have hlt' := HGL.out ft (List.mem_of_getElem? hft)
            have hU6 : U.length ≤ 6 := (SpecX.grp_parts HG.out.2).2.1.1
            have hT6 : T.length ≤ 6 := (SpecX.grp_parts HG.out.1).2.1.1
            have h36 : T.length * U.length ≤ 36 := Nat.mul_le_mul hT6 hU6
            have HF1 := Lib.hid (flat_any _ wr ut (ft.map (at_ U)) (hot.of_below hB.out) (by show (flt U ft).length ≤ _; rw [flt_length, hlt']; omega) (by rw [List.length_map]; omega))
            have HF2 := Lib.hid (fun w3 (hb : Below wr.heap.size wr w3) => flat_any _ w3 u8 (fj.map (at_ U)) ((HOJ.out.of_below hB.out).of_below hb) (by show (flt U fj).length ≤ _; rw [flt_length, hlj]; omega) (by rw [List.length_map]; omega))
            have HCMP := Lib.hid (cmp_flt (SpecX.grp_parts HG.out.2).1 ft fj (by rw [hlt', hlj]) (HGU.out ft (List.mem_of_getElem? hft)) (HGU.out fj (List.mem_of_getElem? HFJ.out)))
            have HLS := Lib.hid (fun w4 va vb ha hb => less_any w4 va vb (flt U ft) (flt U fj) ha hb (T.length * U.length) (by rw [flt_length, hlt']) (by rw [flt_length, hlj]) (by omega))
            have HFT := Lib.hid hft
            clear hct hot hft hlj hlt' hU6 hT6 h36
            go_wp2_with fail
            refine HF1.out.mono ?_
            rintro e w3 ⟨v3, rfl, ho3, hb3⟩
            have HO3 := Lib.hid ho3
            have HB3 := Lib.hid hb3
            clear ho3 hb3
            go_wp2_with fail
            refine (HF2.out w3 HB3.out).mono ?_
            rintro e w4 ⟨v4, rfl, ho4, hb4⟩
            have HO4 := Lib.hid ho4
            have HB4 := Lib.hid (HB3.out.trans (hb4.mono HB3.out.size))
            have HO3' := Lib.hid (HO3.out.of_below hb4)
            clear ho4 hb4
            go_wp2_with fail
            refine (HLS.out w4 v3 v4 (HO3'.out.sl.mono (fun _ _ => trivial)) (HO4.out.sl.mono (fun _ _ => trivial))).mono ?_
            rintro e w5 ⟨b, rfl, hbb, hn5⟩
            rw [HCMP.out] at hbb
            have HB5 := Lib.hid (hB.out.trans ((bel_drawn HB4.out hn5).mono hB.out.size))
            have hct5 : w5.cell? ⟨g, t, none⟩ = some ut := (HB5.out.cell (p := ⟨g, t, none⟩) hgl).trans HCT.out
            clear hctr hn5
            by_cases hcmp : cmpL ft fj < 0
            · obtain rfl : b = true := hbb.2 hcmp
              have HN := Lib.hid (show w2.cell? ⟨g, t, none⟩ = some ut ∧ Best G (t + 1) t from ⟨HCT.out, Best.yes HGL.out hJ.out.2 HFJ.out HFT.out hcmp⟩)
              clear hbb hcmp
              go_wp2_with fail
              go_roundw
              case rel => exact ⟨t + 1, t, by omega, by omega, by go_num, HN, HB5⟩
              case measure => simp [intOf]; omega
            · obtain rfl : b = false := by
                cases b with
                | false => rfl
                | true => exact absurd (hbb.1 rfl) hcmp
              have HN := Lib.hid (show w2.cell? ⟨g, j, none⟩ = some u8 ∧ Best G (t + 1) j from ⟨hJ.out.1, Best.no hJ.out.2 HFJ.out HFT.out hcmp⟩)
              clear hbb hcmp
              go_wp2_with fail
              go_roundw
              case rel => exact ⟨t + 1, j, by omega, by omega, by go_num, HN, HB5⟩
              case measure => simp [intOf]; omega
          · obtain rfl : t = n := by omega
            have hdt : decide ((t : Int) < (t : Int)) = false := by simp
            have HR := Lib.hid (show SFindR (ofTw T) (ofTw U) w (.returned (.tuple #[u8, .int .i64 0])) wr from by
              obtain ⟨f, hf, hbest⟩ := hJ.out.2
              rw [HFJ.out] at hf
              cases hf
              refine ⟨_, 0, _, rfl, .inr ⟨T, U, rfl, rfl, HG.out.1, HG.out.2, .inr (.inr ⟨rfl, HQQ.out, HLE.out.2, fj, ?_, fun f' hf' => ?_, rfl⟩)⟩, ?_, HB2.out.trans (hB.out.mono HB2.out.size)⟩
              · rw [HGG.out]; exact List.mem_of_getElem? HFJ.out
              · rw [HGG.out] at hf'
                obtain ⟨i, hi⟩ := List.getElem?_of_mem hf'
                exact hbest i f' (by have := (List.getElem?_eq_some_iff.1 hi).1; rw [HNN.out] at this; exact this) hi
              · have h := Sl2.mono ((HOJ.out.of_below hB.out).sl) (S' := fun b => w.heap.size ≤ b) (fun b hb => Nat.le_trans HB12.out hb)
                rw [List.map_map] at h
                exact h)
            clear hJ
            go_wp2_with fail
            exact bodyPost_ret (v := .tuple #[u8, .int .i64 0]) (by simp [results, Tryz.results19, go_sem]) rfl HR.out
    · rw [if_neg hq] at ho
      obtain ⟨a, c, rfl, _, _⟩ := ho.form
      have HR := Lib.hid (show SFindR (ofTw T) (ofTw U) w (.returned (.tuple #[.slice none 0 0, .int .i64 4])) w2 from ⟨_, 4, [], rfl, .inr ⟨T, U, rfl, rfl, HG.out.1, HG.out.2, .inr (.inl ⟨rfl, rfl, HLE.out.1, HLE.out.2, fun h => absurd h hq⟩)⟩, Sl2_nil _ _, HB2.out⟩)
      clear ho hq
      go_wp2_with fail
      exact bodyPost_ret (v := .tuple #[.slice none 0 0, .int .i64 4]) (by simp [results, Tryz.results19, go_sem]) rfl HR.out
end Go.Proofs.YtabeedimnbkcgaaGreat.FindC

/-
  The law FnExactFindIsomorphism, walked.
-/
namespace Go.Proofs.YtabeedimnbkcgaaGreat.FindD
open Go.RowKit Go.Proofs.YtabeedimnbkcgaaGreat Go.Proofs.YtabeedimnbkcgaaGreat.Tow Go.Proofs.YtabeedimnbkcgaaGreat.NumT Go.Proofs.YtabeedimnbkcgaaGreat.SpecB Go.Proofs.YtabeedimnbkcgaaGreat.LawB Go.Proofs.YtabeedimnbkcgaaGreat.LawC Go.Proofs.YtabeedimnbkcgaaGreat.LawD Go.Proofs.YtabeedimnbkcgaaGreat.LawE Go.Proofs.YtabeedimnbkcgaaGreat.LawN Go.Proofs.YtabeedimnbkcgaaGreat.Mark Go.Proofs.YtabeedimnbkcgaaGreat.FindA Go.Proofs.YtabeedimnbkcgaaGreat.FindB Go.Proofs.YtabeedimnbkcgaaGreat.FindC
set_option linter.unusedVariables false
set_option linter.unusedSimpArgs false

theorem Rows2.sl2 {S : Nat → Prop} {w : World} {v : Value} {L : List (Nat × List Int)} (h : Rows2 S w v L) : Sl2 Any w v (L.map (·.2)) := by
  obtain ⟨ao, c, h1, h2, h3, h0, h4⟩ := h
  refine ⟨ao, c, by simpa using h1, by simpa using h2, h3, h0, fun i x hx => ?_⟩
  simp only [List.getElem?_map, Option.map_eq_some_iff] at hx
  obtain ⟨p, hp, rfl⟩ := hx
  obtain ⟨b, o, e1, _, e3, u, e4, e5⟩ := h4 i p hp
  exact ⟨b, o, e1, trivial, e3, u, e4, e5.mono (fun _ _ => trivial)⟩
theorem tot_tot2 : ∀ L : List (Nat × List Int), tot L = tot2 (L.map (·.2))
  | [] => rfl
  | p :: L => by rw [tot, List.map_cons, tot2, tot_tot2 L]
theorem tot2_ats (U : Tw) : ∀ l : List Nat, tot2 (l.map fun q => ints (at_ U q)) = l.length * U.length
  | [] => by simp [tot2]
  | a :: l => by rw [List.map_cons, tot2, tot2_ats U l, ints_length, at_length, List.length_cons, Nat.succ_mul, Nat.add_comm]
theorem tot_find {P Q : Pres} {res : List (List Int)} {k : Int} (h : FindV P Q res k) {L : List (Nat × List Int)} (hL : L.map (·.2) = res) : tot L ≤ 36 := by
  rw [tot_tot2, hL]
  rcases h with ⟨rfl, _⟩ | ⟨T, U, rfl, rfl, gT, gU, ⟨rfl, _⟩ | ⟨rfl, _⟩ | ⟨_, _, _, f, hf, _, rfl⟩⟩
  · simp [tot2]
  · simp [tot2]
  · simp [tot2]
  · have hl := ImplY.grow_rows _ _ _ hf
    simp at hl
    rw [tot2_ats, hl]
    exact Nat.mul_le_mul (SpecX.grp_parts gT).2.1.1 (SpecX.grp_parts gU).2.1.1

/-- what the law has in memory: the reference's answer, its own copies, the program's answer -/
structure St (n5 g g' : Nat) (vW vG x0 x1 x2 y0 y1 y2 : Value) (P Q : Pres) (res : List (List Int)) (L : List (Nat × List Int)) (W : World) : Prop where
  vw : Sl2 (fun b => b < n5) W vW res
  xs : ValP (fun b => n5 ≤ b ∧ b < g) W x0 x1 x2 P
  ys : ValP (fun b => g + 1 ≤ b ∧ b < g') W y0 y1 y2 Q
  fx : NFS (fun b => n5 ≤ b ∧ b < g) W
  fy : NFS (fun b => g + 1 ≤ b ∧ b < g') W
  bx : W.heap[g]? = some (.cells #[x0, x1, x2] 30 (0, 0))
  by' : W.heap[g']? = some (.cells #[y0, y1, y2] 30 (0, 0))
  own : OwnE (g' + 1) W vG L
  le : n5 ≤ g ∧ g + 1 ≤ g' ∧ g' < W.heap.size
theorem St.below {n5 g g' : Nat} {vW vG x0 x1 x2 y0 y1 y2 : Value} {P Q : Pres} {res : List (List Int)} {L : List (Nat × List Int)} {W W' : World} (h : St n5 g g' vW vG x0 x1 x2 y0 y1 y2 P Q res L W) (hb : Below W.heap.size W W') : St n5 g g' vW vG x0 x1 x2 y0 y1 y2 P Q res L W' := by
  have hl := h.le
  have hs := hb.size
  exact ⟨Sl2.keep h.vw (Keep.of_below hb), h.xs.keep (Keep.of_below hb), h.ys.keep (Keep.of_below hb), h.fx.keep (Keep.of_below (S := Any) hb) (fun b hb => ⟨trivial, by omega⟩), h.fy.keep (Keep.of_below (S := Any) hb) (fun b hb => ⟨trivial, by omega⟩),
    blk hb (by omega) h.bx, blk hb (by omega) h.by', h.own.keep hb, by omega⟩
/-- behind the marks over both copies -/
structure St2 (n5 g' : Nat) (vW vG : Value) (res : List (List Int)) (L : List (Nat × List Int)) (W : World) : Prop where
  vw : Sl2 (fun b => b < n5) W vW res
  own : OwnE (g' + 1) W vG L
  le : n5 ≤ g'
theorem OwnE.keepS {B : Nat} {w w' : World} {v : Value} {L : List (Nat × List Int)} {S : Nat → Prop} (h : OwnE B w v L) (hk : Keep S w w') (hS : ∀ k, B ≤ k → S k) : OwnE B w' v L := by
  obtain ⟨us, h1, h2, h4⟩ := h
  exact ⟨us, ownsRow_keep h1 hk hS, h2, fun i p u hp hu => ⟨(h4 i p u hp hu).1, ownsRow_keep (h4 i p u hp hu).2 hk hS⟩⟩
theorem St2.below {n5 g' : Nat} {vW vG : Value} {res : List (List Int)} {L : List (Nat × List Int)} {W W' : World} (h : St2 n5 g' vW vG res L W) (hb : Below W.heap.size W W') : St2 n5 g' vW vG res L W' :=
  ⟨Sl2.keep h.vw (Keep.of_below hb), h.own.keep hb, h.le⟩
/-- behind the marks over the answer -/
structure St3 (n5 g' : Nat) (vW vG : Value) (res : List (List Int)) (L : List (Nat × List Int)) (W : World) : Prop where
  vw : Sl2 (fun b => b < n5) W vW res
  rows : Rows2 (fun b => g' + 1 ≤ b) W vG (mrk 1 L)
theorem Rows2.keep {S : Nat → Prop} {w w' : World} {v : Value} {L : List (Nat × List Int)} (h : Rows2 S w v L) (hb : Below w.heap.size w w') : Rows2 S w' v L :=
  SlG.keep h (Keep.of_below hb) (fun u p hu => SlI.keep hu (Keep.of_below hb))
theorem St3.below {n5 g' : Nat} {vW vG : Value} {res : List (List Int)} {L : List (Nat × List Int)} {W W' : World} (h : St3 n5 g' vW vG res L W) (hb : Below W.heap.size W W') : St3 n5 g' vW vG res L W' :=
  ⟨Sl2.keep h.vw (Keep.of_below hb), Rows2.keep h.rows hb⟩
/-- marks behind new blocks -/
theorem St.marks {n5 g g' : Nat} {vW vG x0 x1 x2 y0 y1 y2 : Value} {P Q : Pres} {res : List (List Int)} {L : List (Nat × List Int)} {W W1 W2 W3 W4 : World} (h : St n5 g g' vW vG x0 x1 x2 y0 y1 y2 P Q res L W)
    (hb : Below W.heap.size W W1) (hm : Mrk (fun b => n5 ≤ b ∧ b < g) W1 W2) (hb2 : Below W2.heap.size W2 W3) (hm2 : Mrk (fun b => g + 1 ≤ b ∧ b < g') W3 W4) : St2 n5 g' vW vG res L W4 := by
  have hl := h.le
  refine ⟨Sl2.keep (Sl2.keep (Sl2.keep (Sl2.keep h.vw (Keep.of_below hb)) (hm.keep.mono (fun b hb => by omega))) (Keep.of_below hb2)) (hm2.keep.mono (fun b hb => by omega)), ?_, by omega⟩
  exact OwnE.keepS ((OwnE.keepS (h.own.keep hb) hm.keep (fun k hk => by omega)).keep hb2) hm2.keep (fun k hk => by omega)
theorem St.mark1y {n5 g g' : Nat} {vW vG x0 x1 x2 y0 y1 y2 : Value} {P Q : Pres} {res : List (List Int)} {L : List (Nat × List Int)} {W W1 W2 : World} (h : St n5 g g' vW vG x0 x1 x2 y0 y1 y2 P Q res L W)
    (hb : Below W.heap.size W W1) (hm : Mrk (fun b => n5 ≤ b ∧ b < g) W1 W2) : ValP (fun b => g + 1 ≤ b ∧ b < g') W2 y0 y1 y2 Q ∧ NFS (fun b => g + 1 ≤ b ∧ b < g') W2 ∧ W2.heap[g']? = some (.cells #[y0, y1, y2] 30 (0, 0)) := by
  have hl := h.le
  have h1 := h.below hb
  have hl1 := h1.le
  exact ⟨h1.ys.keep (hm.keep.mono (fun b hb => by omega)), hm.nf _ h1.fy, (hm.block g' (by omega)).trans h1.by'⟩
end Go.Proofs.YtabeedimnbkcgaaGreat.FindD
