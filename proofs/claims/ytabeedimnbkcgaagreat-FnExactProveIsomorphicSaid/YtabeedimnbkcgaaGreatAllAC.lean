import Derived.Test.YtabeedimnbkcgaaGreatFindAD
import Derived.Test.YtabeedimnbkcgaaGreatBx
import Derived.Test.YtabeedimnbkcgaaGreatMarkN
/-
  spec.l25Insert, spec.AllAutomorphisms.
-/
namespace Go.Proofs.YtabeedimnbkcgaaGreat.AllA
open Go.RowKit Go.Proofs.YtabeedimnbkcgaaGreat Go.Proofs.YtabeedimnbkcgaaGreat.Tow Go.Proofs.YtabeedimnbkcgaaGreat.NumT Go.Proofs.YtabeedimnbkcgaaGreat.GenD Go.Proofs.YtabeedimnbkcgaaGreat.SpecB Go.Proofs.YtabeedimnbkcgaaGreat.LawE Go.Proofs.YtabeedimnbkcgaaGreat.Cmp Go.Proofs.YtabeedimnbkcgaaGreat.Srt Go.Proofs.YtabeedimnbkcgaaGreat.Ord Go.Proofs.YtabeedimnbkcgaaGreat.FindA Go.Proofs.YtabeedimnbkcgaaGreat.FindB Go.Proofs.YtabeedimnbkcgaaGreat.FindC
set_option linter.unusedVariables false
set_option linter.unusedSimpArgs false

/-- rows of rows of rows: the outer row made by the call, the inner ones older -/
def Own3x (B1 B2 : Nat) (w : World) (v : Value) (L : List (List (List Nat))) : Prop :=
  ∃ us : List Value, w.ownsRow B1 23 1 v L.length us ∧ us.length = L.length ∧ ∀ (i : Nat) (rows : List (List Nat)) (u : Value), L[i]? = some rows → us[i]? = some u → Own2 22 2 B2 w u rows
theorem Own3x.own3 {B1 B2 : Nat} {w : World} {v : Value} {L : List (List (List Nat))} (h : Own3x B1 B2 w v L) (hB : B2 ≤ B1) : Own3 B2 w v L := by
  obtain ⟨us, h1, h2, h4⟩ := h
  exact ⟨us, ownsRow_mono h1 hB, h2, h4⟩
theorem Own3x.keep {B1 B2 : Nat} {w w' : World} {v : Value} {L : List (List (List Nat))} (h : Own3x B1 B2 w v L) (hb : Below w.heap.size w w') : Own3x B1 B2 w' v L := by
  obtain ⟨us, h1, h2, h4⟩ := h
  exact ⟨us, ownsRow_keep h1 (Keep.of_below (S := fun _ => True) hb) (fun _ _ => trivial), h2, fun i r u hr hu => (h4 i r u hr hu).of_below hb⟩
theorem Own3x.push {B1 B2 n : Nat} {w w' : World} {v v' u : Value} {L : List (List (List Nat))} {rows : List (List Nat)} {us : List Value} (hn : L.length = n)
    (h1 : w.ownsRow B1 23 1 v n us) (h2 : us.length = L.length) (h4 : ∀ (i : Nat) (rows : List (List Nat)) (u : Value), L[i]? = some rows → us[i]? = some u → Own2 22 2 B2 w u rows)
    (hu : Own2 22 2 B2 w u rows) (ho : w'.ownsRow B1 23 1 v' (n + 1) (us ++ [u])) (hg : w.grownBy w' v.ownBlock) : Own3x B1 B2 w' v' (L ++ [rows]) := by
  subst hn
  refine ⟨us ++ [u], by simpa using ho, by simp [h2], fun i r' u' hr' hu' => ?_⟩
  have hown : Own2 22 2 B2 w u' r' := by
    rcases Nat.lt_or_ge i L.length with hi | hi
    · rw [List.getElem?_append_left hi] at hr'
      rw [List.getElem?_append_left (by omega)] at hu'
      exact h4 i r' u' hr' hu'
    · rw [List.getElem?_append_right hi] at hr'
      rw [List.getElem?_append_right (by omega)] at hu'
      rw [h2] at hu'
      rcases hj : i - L.length with _ | j
      · rw [hj] at hr' hu'
        simp at hr' hu'
        subst hr'; subst hu'
        exact hu
      · rw [hj] at hr'
        simp at hr'
  exact hown.apart (by decide) (by decide) h1 hg
def Pl (f : List Nat) (l : List (List Nat)) : Prop := ∃ x ∈ l, cmpL f x < 0
/-- a list put ahead of the first that is greater -/
def insG (f : List Nat) : List (List Nat) → List (List Nat)
  | [] => [f]
  | x :: l => if cmpL f x < 0 then f :: x :: l else x :: insG f l
theorem Pl.snoc {f : List Nat} {l : List (List Nat)} {x : List Nat} : Pl f (l ++ [x]) ↔ Pl f l ∨ cmpL f x < 0 := by
  unfold Pl
  constructor
  · rintro ⟨y, hy, h⟩
    rcases List.mem_append.1 hy with h' | h'
    · exact .inl ⟨y, h', h⟩
    · rw [List.mem_singleton.1 h'] at h; exact .inr h
  · rintro (⟨y, hy, h⟩ | h)
    · exact ⟨y, List.mem_append.2 (.inl hy), h⟩
    · exact ⟨x, by simp, h⟩
theorem insG_pl {f : List Nat} : ∀ {l : List (List Nat)}, Pl f l → ∀ x, insG f (l ++ [x]) = insG f l ++ [x]
  | [], h, x => by obtain ⟨y, hy, _⟩ := h; cases hy
  | y :: l, h, x => by
    rw [List.cons_append, insG, insG]
    by_cases hy : cmpL f y < 0
    · rw [if_pos hy, if_pos hy]; rfl
    · rw [if_neg hy, if_neg hy, insG_pl (by
        obtain ⟨z, hz, h⟩ := h
        rcases List.mem_cons.1 hz with e | e
        · rw [e] at h; exact absurd h hy
        · exact ⟨z, e, h⟩) x]; rfl
theorem insG_np {f : List Nat} : ∀ {l : List (List Nat)}, ¬ Pl f l → insG f l = l ++ [f]
  | [], _ => rfl
  | y :: l, h => by
    rw [insG, if_neg (fun hy => h ⟨y, List.mem_cons_self, hy⟩), insG_np (fun ⟨z, hz, h'⟩ => h ⟨z, List.mem_cons_of_mem _ hz, h'⟩)]; rfl
theorem insG_yes {f x : List Nat} (hx : cmpL f x < 0) : ∀ {l : List (List Nat)}, ¬ Pl f l → insG f (l ++ [x]) = (l ++ [f]) ++ [x]
  | [], _ => by simp [insG, hx]
  | y :: l, h => by
    rw [List.cons_append, insG, if_neg (fun hy => h ⟨y, List.mem_cons_self, hy⟩), insG_yes hx (fun ⟨z, hz, h'⟩ => h ⟨z, List.mem_cons_of_mem _ hz, h'⟩)]; rfl
theorem insG_length (f : List Nat) : ∀ l, (insG f l).length = l.length + 1
  | [] => rfl
  | x :: l => by
    rw [insG]
    by_cases h : cmpL f x < 0
    · rw [if_pos h]; rfl
    · rw [if_neg h, List.length_cons, insG_length f l]; rfl
theorem insG_perm (f : List Nat) : ∀ l, (insG f l).Perm (f :: l)
  | [] => List.Perm.refl _
  | x :: l => by
    rw [insG]
    by_cases h : cmpL f x < 0
    · rw [if_pos h]
    · rw [if_neg h]
      exact ((insG_perm f l).cons x).trans (List.Perm.swap _ _ _)
theorem insG_asc {f : List Nat} {n : Nat} (hf : f.length = n) : ∀ {l : List (List Nat)}, (∀ x ∈ l, x.length = n) → Asc l → Asc (insG f l)
  | [], _, _ => by simp [insG, Asc]
  | x :: l, hl, h => by
    have hx := hl x List.mem_cons_self
    have hl' : ∀ y ∈ l, y.length = n := fun y hy => hl y (List.mem_cons_of_mem _ hy)
    obtain ⟨h1, h2⟩ := List.pairwise_cons.1 h
    rw [insG]
    by_cases hc : cmpL f x < 0
    · rw [if_pos hc]
      refine List.pairwise_cons.2 ⟨fun y hy => ?_, h⟩
      rcases List.mem_cons.1 hy with e | e
      · subst e
        intro h'
        have := cmpL_trans f y f (by omega) (by omega) hc h'
        rw [cmpL_self] at this
        omega
      · intro h'
        exact h1 y e (cmpL_trans y f x (by rw [hl' y e]; omega) (by omega) h' hc)
    · rw [if_neg hc]
      refine List.pairwise_cons.2 ⟨fun y hy => ?_, insG_asc hf hl' h2⟩
      rcases List.mem_cons.1 ((insG_perm f l).mem_iff.1 hy) with e | e
      · rw [e]; exact hc
      · exact h1 y e
/-- sorted by insertion -/
def sortG : List (List Nat) → List (List Nat) := List.foldl (fun acc f => insG f acc) []
theorem sortG_take {G : List (List Nat)} {k : Nat} {f : List Nat} (h : G[k]? = some f) : sortG (G.take (k + 1)) = insG f (sortG (G.take k)) := by
  unfold sortG
  rw [take_succ h, List.foldl_append]; rfl
theorem fold_perm : ∀ (G acc : List (List Nat)), (List.foldl (fun acc f => insG f acc) acc G).Perm (G ++ acc)
  | [], acc => List.Perm.refl _
  | f :: G, acc => by
    rw [List.foldl_cons]
    exact (fold_perm G (insG f acc)).trans (((insG_perm f acc).append_left G).trans List.perm_middle)
theorem sortG_perm (G : List (List Nat)) : (sortG G).Perm G := by
  have := fold_perm G []
  rwa [List.append_nil] at this
theorem fold_asc {n : Nat} : ∀ (G acc : List (List Nat)), (∀ x ∈ G, x.length = n) → (∀ x ∈ acc, x.length = n) → Asc acc → Asc (List.foldl (fun acc f => insG f acc) acc G)
  | [], acc, _, _, h => h
  | f :: G, acc, hG, ha, h => by
    rw [List.foldl_cons]
    refine fold_asc G _ (fun x hx => hG x (List.mem_cons_of_mem _ hx)) (fun x hx => ?_) (insG_asc (hG f List.mem_cons_self) ha h)
    rcases List.mem_cons.1 ((insG_perm f acc).mem_iff.1 hx) with e | e
    · rw [e]; exact hG f List.mem_cons_self
    · exact ha x e
theorem sortG_asc {n : Nat} {G : List (List Nat)} (hG : ∀ x ∈ G, x.length = n) : Asc (sortG G) := fold_asc G [] hG (by simp) (by simp [Asc])
theorem asc_one {n : Nat} : ∀ {F H : List (List Nat)}, (∀ x ∈ F, x.length = n) → F.Perm H → Asc F → Asc H → F = H
  | [], H, _, hp, _, _ => (List.nil_perm.1 hp).symm
  | a :: F, [], _, hp, _, _ => absurd hp.length_eq (by simp)
  | a :: F, b :: H, hn, hp, h1, h2 => by
    obtain ⟨p1, q1⟩ := List.pairwise_cons.1 h1
    obtain ⟨p2, q2⟩ := List.pairwise_cons.1 h2
    have hbF : b ∈ a :: F := hp.mem_iff.2 List.mem_cons_self
    have haH : a ∈ b :: H := hp.mem_iff.1 List.mem_cons_self
    have hab : a = b := by
      rcases List.mem_cons.1 hbF with e | e
      · exact e.symm
      · rcases List.mem_cons.1 haH with e' | e'
        · exact e'
        · exact cmpL_eq a b (by rw [hn a List.mem_cons_self, hn b hbF]) (p2 a e') (p1 b e)
    subst hab
    rw [asc_one (fun x hx => hn x (List.mem_cons_of_mem _ hx)) (List.perm_cons _ |>.1 hp) q1 q2]

def InvP (p : Bool) (f : List Nat) (l M : List (List Nat)) : Prop := (p = true ↔ Pl f l) ∧ M = if p = true then insG f l else l
theorem InvP.t {f : List Nat} {l M : List (List Nat)} (h : InvP true f l M) : Pl f l ∧ M = insG f l := ⟨h.1.1 rfl, by have := h.2; rwa [if_pos rfl] at this⟩
theorem InvP.f {f : List Nat} {l M : List (List Nat)} (h : InvP false f l M) : ¬ Pl f l ∧ M = l := ⟨fun hp => Bool.noConfusion (h.1.2 hp), by have := h.2; rwa [if_neg (by decide)] at this⟩
theorem InvP.mt {f : List Nat} {l M : List (List Nat)} (h1 : Pl f l) (h2 : M = insG f l) : InvP true f l M := ⟨⟨fun _ => h1, fun _ => rfl⟩, by rw [if_pos rfl]; exact h2⟩
theorem InvP.mf {f : List Nat} {l M : List (List Nat)} (h1 : ¬ Pl f l) (h2 : M = l) : InvP false f l M := ⟨⟨fun h => Bool.noConfusion h, fun h => absurd h h1⟩, by rw [if_neg (by decide)]; exact h2⟩
theorem InvP.len {p : Bool} {f : List Nat} {l M : List (List Nat)} (h : InvP p f l M) : M.length ≤ l.length + 1 := by
  cases p with
  | true => rw [h.t.2, insG_length]; exact Nat.le_refl _
  | false => rw [h.f.2]; omega

set_option maxRecDepth 100000 in
set_option maxHeartbeats 4000000 in
theorem insert_any (U : Tw) (hU : Wf U) (hU6 : U.length ≤ 6) (n : Nat) (hn6 : n ≤ 6) (B : Nat) (w : World) (vl va : Value) (G : List (List Nat)) (f : List Nat) (hL : Own3 B w vl (G.map fun l => l.map (at_ U))) (ha : Own2 22 2 B w va (f.map (at_ U))) (hB : B ≤ w.heap.size)
    (hlen : ∀ x ∈ G, x.length = n) (hlt : ∀ x ∈ G, ∀ q ∈ x, q < sz U) (hfl : f.length = n) (hfq : ∀ q ∈ f, q < sz U) (hG : G.length ≤ 1000) :
    Calls Tryz.prog 60 #[vl, va] w fun e w' => ∃ v, e = .returned v ∧ Own3 B w' v ((insG f G).map fun l => l.map (at_ U)) ∧ Below w.heap.size w w' := by
  obtain ⟨i0, hinf, hz0, hz1, hz2⟩ := info_parts infoR3
  obtain ⟨aL, cL, rfl, _, _⟩ := hL.form
  obtain ⟨aA, cA, rfl, _, _⟩ := ha.form
  rw [List.length_map] at hL ⊢
  rw [List.length_map] at ha ⊢
  have HL := Lib.hid hL
  have HA := Lib.hid ha
  have HLEN := Lib.hid hlen
  have HLT := Lib.hid hlt
  have h36 : n * U.length ≤ 36 := Nat.mul_le_mul hn6 hU6
  have HF := Lib.hid (fun W l (hl : l.length = n) v (h : Own2 22 2 B W v (l.map (at_ U))) => (show Calls _ _ _ _ (NewI (ints (flt U l)) W) from flat_any B W v (l.map (at_ U)) h (by show (flt U l).length ≤ _; rw [flt_length, hl]; omega) (by rw [List.length_map]; omega)))
  have HLS := Lib.hid (fun W va vb l (hl : l.length = n) (hq : ∀ q ∈ l, q < sz U) ha hb => (show Calls _ _ _ _ (EqR (cmpL f l < 0) W) from by
    have h := less_any W va vb (flt U f) (flt U l) ha hb (n * U.length) (by rw [flt_length, hfl]) (by rw [flt_length, hl]) (by omega)
    rwa [cmp_flt hU f l (by omega) hfq hq] at h))
  have HFL := Lib.hid hfl
  have hgl : (G.length : Int) ≤ 9223372036854775806 := by omega
  have HG := Lib.hid hG
  have HO0 := Lib.hid (show Own3x w.heap.size B (w.alloc (.cells #[] 23)) (.slice (some ⟨w.heap.size, 0, none⟩) 0 0) [] from ⟨[], World.ownsRow_made (base := w.heap.size) (e := 23) (size := 1) w #[] 0 (Nat.le_refl _) (Nat.zero_le _) rfl, rfl, by simp⟩)
  clear hL ha hlen hlt hfl hfq h36 hG
  go_enter Tryz.func60, Tryz.ntmps60
  go_wp2_with fail
  go_loopw [5, 6, 7] (fun ov pv iv wr => ∃ (i : Nat) (p : Bool) (M : List (List Nat)), i ≤ G.length ∧ iv = .int .i64 (i : Int) ∧ pv = .bool p ∧ Hid (InvP p f (G.take i) M) ∧ Hid (Own3x w.heap.size B wr ov (M.map fun l => l.map (at_ U))) ∧ Hid (Below w.heap.size w wr)) (fun _ _ iv _ => G.length - (intOf iv).toNat)
  case atStart => exact ⟨0, false, [], Nat.zero_le _, rfl, rfl, Lib.hid (InvP.mf (fun ⟨x, hx, _⟩ => by simp at hx) (by simp)), HO0, Lib.hid ((Below.refl _ _).alloc (Nat.le_refl _) _)⟩
  case round =>
    obtain ⟨i, p, M, hi, rfl, rfl, hP, hO, hBB⟩ := hrel
    have HML := Lib.hid (show M.length ≤ 1001 from by
      have := hP.out.len
      rw [List.length_take] at this
      have := HG.out
      omega)
    by_cases hlt : i < G.length
    · obtain ⟨x, hx⟩ : ∃ x, G[i]? = some x := ⟨_, List.getElem?_eq_getElem hlt⟩
      obtain ⟨g, cap, ux, e1, _, hgl', hcx, hox⟩ := Own3.at HL.out (i := i) (r := x.map (at_ U)) (by rw [List.getElem?_map, hx]; rfl)
      simp only [Value.slice.injEq] at e1
      obtain ⟨rfl, -, rfl⟩ := e1
      obtain ⟨ax, cx, rfl, _, _⟩ := hox.form
      rw [List.length_map] at hcx hox
      have HX := Lib.hid hx
      have HOX := Lib.hid hox
      have hcr := (hBB.out.cell (p := ⟨g, i, none⟩) hgl').trans hcx
      have hgr : g < wr.heap.size := Nat.lt_of_lt_of_le hgl' hBB.out.size
      have HCX := Lib.hid hcx
      have HXL := Lib.hid (HLEN.out x (List.mem_of_getElem? hx))
      have HXQ := Lib.hid (HLT.out x (List.mem_of_getElem? hx))
      have HTK := Lib.hid (show G.take (i + 1) = G.take i ++ [x] from take_succ hx)
      have hil : (i : Int) < (G.length : Int) := by omega
      have hi0 : (0 : Int) ≤ (i : Int) := by omega
      clear hx hcx hox
      cases p with
      | true =>
        have HX1 := Lib.hid (HOX.out.of_below hBB.out)
        have HNP := Lib.hid (show InvP true f (G.take (i + 1)) (M ++ [x]) from by
          obtain ⟨hp, hm⟩ := hP.out.t
          rw [HTK.out]
          exact InvP.mt (Pl.snoc.2 (.inl hp)) (by rw [insG_pl hp, hm]))
        clear hP
        go_wp2_with fail
        go_quiet (fail)
        obtain ⟨w8, hw8⟩ : ∃ w8, w8 = wr.drewN nq := ⟨_, rfl⟩
        rw [← hw8]
        have hbz : Below wr.heap.size wr w8 := by rw [hw8]; exact below_drewN (Below.refl _ _) _
        have HOz := Lib.hid (hO.out.keep hbz)
        have HBz := Lib.hid (hBB.out.trans (hbz.mono hBB.out.size))
        have HXz := Lib.hid (HX1.out.of_below hbz)
        have hcz : w8.cell? ⟨g, i, none⟩ = some (.slice ax x.length cx) := (hbz.cell (p := ⟨g, i, none⟩) hgr).trans hcr
        have hgz : g < w8.heap.size := Nat.lt_of_lt_of_le hgr hbz.size
        clear hw8 hbz hcr hgr
        obtain ⟨us_p, h1_p, h2_p, h4_p⟩ := HOz.out
        have HUU_p := Lib.hid (And.intro h2_p h4_p)
        obtain ⟨M_p, hm_p⟩ : ∃ m_p, ((M.map fun l => l.map (at_ U))).length = m_p := ⟨_, rfl⟩
        rw [hm_p] at h1_p
        have HM_p := Lib.hid hm_p
        have HL_p := Lib.hid (show M_p ≤ 2000 from by rw [← hm_p]; rw [List.length_map]; have := HML.out; omega)
        clear h2_p h4_p hm_p
        go_wp2_with (at_builtin; (refine wpList_append_own _ rfl _ _ 24 rfl w.heap.size 23 i0 (.slice none 0 0) 1 24 Tryz.underlying24 hinf hz0 hz1 hz2 rfl (by decide) _ _ _ rfl (h1_p.alloc _) ⟨w8.heap.size, 0, none⟩ 1 1 [(.slice ax x.length cx)] rfl rfl ?a_p ?b_p ?c_p ?d_p ?e_p ?_))
        try
          case a_p =>
            intro j u hj
            match j, hj with
            | 0, hj => simp at hj; subst hj; simp [Addr.add]
        case b_p => intro u hu; simp at hu; subst hu; rfl
        case c_p => have := HL_p.out; unfold maxLen; omega
        case d_p => have := HL_p.out; omega
        case e_p => have := HBz.out.size; simp; omega
        intro v9 w9 hown_p hgrow_p _
        have HN9 := Lib.hid (show Own3x w.heap.size B w9 v9 ((M.map fun l => l.map (at_ U)) ++ [(x.map (at_ U))]) from
          Own3x.push (w := w8.alloc _) (us := us_p) HM_p.out (h1_p.alloc _) HUU_p.out.1 (fun i r u hr hu => (HUU_p.out.2 i r u hr hu).keep (S := fun _ => True) ((Keep.refl _ _).alloc _) (fun _ _ => trivial)) (HXz.out.keep (S := fun _ => True) ((Keep.refl _ _).alloc _) (fun _ _ => trivial)) hown_p hgrow_p)
        have HB9 := Lib.hid (show Below w.heap.size w w9 from (HBz.out.alloc (by have := HBz.out.size; omega) _).grown hgrow_p (by simp; have := HBz.out.size; omega) (fun g hg => (World.ownsRow.lt h1_p g hg).1))
        clear hown_p hgrow_p h1_p HUU_p HM_p HL_p
        have HN9' := Lib.hid (show Own3x w.heap.size B w9 v9 ((M ++ [x]).map fun l => l.map (at_ U)) from by rw [List.map_append]; exact HN9.out)
        go_wp2_with fail
        go_roundw
        case rel => exact ⟨i + 1, true, M ++ [x], by omega, by go_num, rfl, HNP, HN9', HB9⟩
        case measure => simp [intOf]; omega
      | false =>
        have HX1 := Lib.hid (HOX.out.of_below hBB.out)
        have HA1 := Lib.hid (HA.out.of_below hBB.out)
        have HNP0 := Lib.hid hP.out.f.1
        have HMM := Lib.hid (show M = G.take i from hP.out.f.2)
        clear hP
        go_wp2_with fail
        go_region_held3 (fun w' => (∀ b o, b < wr.heap.size → w'.cell? ⟨b, o, none⟩ = wr.cell? ⟨b, o, none⟩) ∧ Keep (fun _ => True) wr w')
          (first | exact ks_mk (by repeat (first | exact (Keep.refl _ _).drew | exact Keep.refl _ _ | refine Keep.drewN ?_ _ | refine Keep.trans ?_ (Keep.of_below (by assumption)))))
          (first | (go_at_call_of 57 cA; refine (HF.out _ f HFL.out _ (HA1.out.keep (S := fun _ => True) (by repeat (first | exact (Keep.refl _ _).drew | exact Keep.refl _ _ | exact (Keep.refl _ _).alloc _ | exact ((Keep.refl _ _).alloc _).drew | refine Keep.drewN ?_ _ | refine Keep.trans ?_ (Keep.of_below (by assumption)))) (fun _ _ => trivial))).mono ?_; rintro e w3 ⟨v3, rfl, ho3, hb3⟩) | (go_at_call_of 57 cx; refine (HF.out _ x HXL.out _ (HX1.out.keep (S := fun _ => True) (by repeat (first | exact (Keep.refl _ _).drew | exact Keep.refl _ _ | exact (Keep.refl _ _).alloc _ | exact ((Keep.refl _ _).alloc _).drew | refine Keep.drewN ?_ _ | refine Keep.trans ?_ (Keep.of_below (by assumption)))) (fun _ _ => trivial))).mono ?_; rintro e w4 ⟨v4, rfl, ho4, hb4⟩) | (go_at_call 56; refine (HLS.out _ v3 v4 x HXL.out HXQ.out ((ho3.sl.mono (fun _ _ => trivial)).keep (by repeat (first | exact (Keep.refl _ _).drew | exact Keep.refl _ _ | exact (Keep.refl _ _).alloc _ | exact ((Keep.refl _ _).alloc _).drew | refine Keep.drewN ?_ _ | refine Keep.trans ?_ (Keep.of_below (by assumption))))) ((ho4.sl.mono (fun _ _ => trivial)).keep (by repeat (first | exact (Keep.refl _ _).drew | exact Keep.refl _ _ | exact (Keep.refl _ _).alloc _ | exact ((Keep.refl _ _).alloc _).drew | refine Keep.drewN ?_ _ | refine Keep.trans ?_ (Keep.of_below (by assumption)))))).mono ?_; rintro e w5 ⟨b, rfl, hbb, n5, rfl⟩))
        rename_i hHd
        clear hHd
        obtain ⟨w5, hw5⟩ : ∃ w5, w5 = w4.drewN n5 := ⟨_, rfl⟩
        rw [← hw5]
        have hn5 : ∃ n, w5 = w4.drewN n := ⟨n5, hw5⟩
        clear hw5
        have hb3' : Below wr.heap.size wr w3 := ((Below.refl _ _).drew).trans hb3
        have hb4' : Below wr.heap.size wr w4 := hb3'.trans (hb4.mono hb3'.size)
        have hbz : Below wr.heap.size wr w5 := bel_drawn hb4' hn5
        have HOz := Lib.hid (hO.out.keep hbz)
        have HBz := Lib.hid (hBB.out.trans (hbz.mono hBB.out.size))
        have HXz := Lib.hid (HX1.out.of_below hbz)
        have hcz : w5.cell? ⟨g, i, none⟩ = some (.slice ax x.length cx) := (hbz.cell (p := ⟨g, i, none⟩) hgr).trans hcr
        have hgz : g < w5.heap.size := Nat.lt_of_lt_of_le hgr hbz.size
        have HAz := Lib.hid (HA1.out.of_below hbz)
        clear ho3 hb3 ho4 hb4 hn5 hb3' hb4' hbz hcr hgr
        by_cases hc : cmpL f x < 0
        · obtain rfl : b = true := hbb.2 hc
          have HNP := Lib.hid (show InvP true f (G.take (i + 1)) ((M ++ [f]) ++ [x]) from by
            rw [HTK.out]
            exact InvP.mt (Pl.snoc.2 (.inr hc)) (by rw [insG_yes hc HNP0.out, HMM.out]))
          clear hbb hc
          obtain ⟨us_q, h1_q, h2_q, h4_q⟩ := HOz.out
          have HUU_q := Lib.hid (And.intro h2_q h4_q)
          obtain ⟨M_q, hm_q⟩ : ∃ m_q, ((M.map fun l => l.map (at_ U))).length = m_q := ⟨_, rfl⟩
          rw [hm_q] at h1_q
          have HM_q := Lib.hid hm_q
          have HL_q := Lib.hid (show M_q ≤ 2000 from by rw [← hm_q]; rw [List.length_map]; have := HML.out; omega)
          clear h2_q h4_q hm_q
          go_wp2_with (at_builtin; (refine wpList_append_own _ rfl _ _ 24 rfl w.heap.size 23 i0 (.slice none 0 0) 1 24 Tryz.underlying24 hinf hz0 hz1 hz2 rfl (by decide) _ _ _ rfl (h1_q.alloc _) ⟨w5.heap.size, 0, none⟩ 1 1 [(.slice aA f.length cA)] rfl rfl ?a_q ?b_q ?c_q ?d_q ?e_q ?_))
          try
            case a_q =>
              intro j u hj
              match j, hj with
              | 0, hj => simp at hj; subst hj; simp [Addr.add]
          case b_q => intro u hu; simp at hu; subst hu; rfl
          case c_q => have := HL_q.out; unfold maxLen; omega
          case d_q => have := HL_q.out; omega
          case e_q => have := HBz.out.size; simp; omega
          intro v9 w9 hown_q hgrow_q _
          have HN9 := Lib.hid (show Own3x w.heap.size B w9 v9 ((M.map fun l => l.map (at_ U)) ++ [(f.map (at_ U))]) from
            Own3x.push (w := w5.alloc _) (us := us_q) HM_q.out (h1_q.alloc _) HUU_q.out.1 (fun i r u hr hu => (HUU_q.out.2 i r u hr hu).keep (S := fun _ => True) ((Keep.refl _ _).alloc _) (fun _ _ => trivial)) (HAz.out.keep (S := fun _ => True) ((Keep.refl _ _).alloc _) (fun _ _ => trivial)) hown_q hgrow_q)
          have HB9 := Lib.hid (show Below w.heap.size w w9 from (HBz.out.alloc (by have := HBz.out.size; omega) _).grown hgrow_q (by simp; have := HBz.out.size; omega) (fun g hg => (World.ownsRow.lt h1_q g hg).1))
          clear hown_q hgrow_q h1_q HUU_q HM_q HL_q
          have hb59 : Below wr.heap.size wr wr := Below.refl _ _
          have HX9 := Lib.hid (HOX.out.of_below HB9.out)
          have hc9 : w9.cell? ⟨g, i, none⟩ = some (.slice ax x.length cx) := (HB9.out.cell (p := ⟨g, i, none⟩) hgl').trans HCX.out
          have hg9 : g < w9.heap.size := Nat.lt_of_lt_of_le hgl' HB9.out.size
          clear hcz hgz hb59
          obtain ⟨us_s, h1_s, h2_s, h4_s⟩ := HN9.out
          have HUU_s := Lib.hid (And.intro h2_s h4_s)
          obtain ⟨M_s, hm_s⟩ : ∃ m_s, ((M.map fun l => l.map (at_ U)) ++ [f.map (at_ U)]).length = m_s := ⟨_, rfl⟩
          rw [hm_s] at h1_s
          have HM_s := Lib.hid hm_s
          have HL_s := Lib.hid (show M_s ≤ 2000 from by rw [← hm_s]; rw [List.length_append, List.length_map]; have := HML.out; simp; omega)
          clear h2_s h4_s hm_s
          go_wp2_with (at_builtin; (refine wpList_append_own _ rfl _ _ 24 rfl w.heap.size 23 i0 (.slice none 0 0) 1 24 Tryz.underlying24 hinf hz0 hz1 hz2 rfl (by decide) _ _ _ rfl (h1_s.alloc _) ⟨w9.heap.size, 0, none⟩ 1 1 [(.slice ax x.length cx)] rfl rfl ?a_s ?b_s ?c_s ?d_s ?e_s ?_))
          try
            case a_s =>
              intro j u hj
              match j, hj with
              | 0, hj => simp at hj; subst hj; simp [Addr.add]
          case b_s => intro u hu; simp at hu; subst hu; rfl
          case c_s => have := HL_s.out; unfold maxLen; omega
          case d_s => have := HL_s.out; omega
          case e_s => have := HB9.out.size; simp; omega
          intro v10 w10 hown_s hgrow_s _
          have HN10 := Lib.hid (show Own3x w.heap.size B w10 v10 ((M.map fun l => l.map (at_ U)) ++ [f.map (at_ U)] ++ [(x.map (at_ U))]) from
            Own3x.push (w := w9.alloc _) (us := us_s) HM_s.out (h1_s.alloc _) HUU_s.out.1 (fun i r u hr hu => (HUU_s.out.2 i r u hr hu).keep (S := fun _ => True) ((Keep.refl _ _).alloc _) (fun _ _ => trivial)) (HX9.out.keep (S := fun _ => True) ((Keep.refl _ _).alloc _) (fun _ _ => trivial)) hown_s hgrow_s)
          have HB10 := Lib.hid (show Below w.heap.size w w10 from (HB9.out.alloc (by have := HB9.out.size; omega) _).grown hgrow_s (by simp; have := HB9.out.size; omega) (fun g hg => (World.ownsRow.lt h1_s g hg).1))
          clear hown_s hgrow_s h1_s HUU_s HM_s HL_s
          have HN10' := Lib.hid (show Own3x w.heap.size B w10 v10 (((M ++ [f]) ++ [x]).map fun l => l.map (at_ U)) from by rw [List.map_append, List.map_append]; exact HN10.out)
          go_wp2_with fail
          go_roundw
          case rel => exact ⟨i + 1, true, (M ++ [f]) ++ [x], by omega, by go_num, rfl, HNP, HN10', HB10⟩
          case measure => simp [intOf]; omega
        · obtain rfl : b = false := by
            cases b with
            | false => rfl
            | true => exact absurd (hbb.1 rfl) hc
          have HNP := Lib.hid (show InvP false f (G.take (i + 1)) (M ++ [x]) from by
            rw [HTK.out]
            exact InvP.mf (fun h => by
              rcases Pl.snoc.1 h with h | h
              · exact absurd h HNP0.out
              · exact absurd h hc) (by rw [HMM.out]))
          clear hbb hc
          obtain ⟨us_t, h1_t, h2_t, h4_t⟩ := HOz.out
          have HUU_t := Lib.hid (And.intro h2_t h4_t)
          obtain ⟨M_t, hm_t⟩ : ∃ m_t, ((M.map fun l => l.map (at_ U))).length = m_t := ⟨_, rfl⟩
          rw [hm_t] at h1_t
          have HM_t := Lib.hid hm_t
          have HL_t := Lib.hid (show M_t ≤ 2000 from by rw [← hm_t]; rw [List.length_map]; have := HML.out; omega)
          clear h2_t h4_t hm_t
          go_wp2_with (at_builtin; (refine wpList_append_own _ rfl _ _ 24 rfl w.heap.size 23 i0 (.slice none 0 0) 1 24 Tryz.underlying24 hinf hz0 hz1 hz2 rfl (by decide) _ _ _ rfl (h1_t.alloc _) ⟨w5.heap.size, 0, none⟩ 1 1 [(.slice ax x.length cx)] rfl rfl ?a_t ?b_t ?c_t ?d_t ?e_t ?_))
          try
            case a_t =>
              intro j u hj
              match j, hj with
              | 0, hj => simp at hj; subst hj; simp [Addr.add]
          case b_t => intro u hu; simp at hu; subst hu; rfl
          case c_t => have := HL_t.out; unfold maxLen; omega
          case d_t => have := HL_t.out; omega
          case e_t => have := HBz.out.size; simp; omega
          intro v9 w9 hown_t hgrow_t _
          have HN9 := Lib.hid (show Own3x w.heap.size B w9 v9 ((M.map fun l => l.map (at_ U)) ++ [(x.map (at_ U))]) from
            Own3x.push (w := w5.alloc _) (us := us_t) HM_t.out (h1_t.alloc _) HUU_t.out.1 (fun i r u hr hu => (HUU_t.out.2 i r u hr hu).keep (S := fun _ => True) ((Keep.refl _ _).alloc _) (fun _ _ => trivial)) (HXz.out.keep (S := fun _ => True) ((Keep.refl _ _).alloc _) (fun _ _ => trivial)) hown_t hgrow_t)
          have HB9 := Lib.hid (show Below w.heap.size w w9 from (HBz.out.alloc (by have := HBz.out.size; omega) _).grown hgrow_t (by simp; have := HBz.out.size; omega) (fun g hg => (World.ownsRow.lt h1_t g hg).1))
          clear hown_t hgrow_t h1_t HUU_t HM_t HL_t
          have HN9' := Lib.hid (show Own3x w.heap.size B w9 v9 ((M ++ [x]).map fun l => l.map (at_ U)) from by rw [List.map_append]; exact HN9.out)
          go_wp2_with fail
          go_roundw
          case rel => exact ⟨i + 1, false, M ++ [x], by omega, by go_num, rfl, HNP, HN9', HB9⟩
          case measure => simp [intOf]; omega
    · obtain rfl : i = G.length := by omega
      have hdl : decide ((G.length : Int) < (G.length : Int)) = false := by simp
      cases p with
      | true =>
        have hm := hP.out.t.2
        rw [List.take_length] at hm
        have HR := Lib.hid (show Own3 B wr u5 ((insG f G).map fun l => l.map (at_ U)) ∧ Below w.heap.size w wr from ⟨by rw [← hm]; exact hO.out.own3 hB, hBB.out⟩)
        clear hm hP
        go_wp2_with fail
        go_ret
        exact ⟨_, rfl, HR.out.1, HR.out.2⟩
      | false =>
        have hnp := hP.out.f
        rw [List.take_length] at hnp
        have HMM := Lib.hid (show M ++ [f] = insG f G from by rw [insG_np hnp.1, hnp.2])
        have HAz := Lib.hid (HA.out.of_below hBB.out)
        clear hP hnp
        obtain ⟨us_r, h1_r, h2_r, h4_r⟩ := hO.out
        have HUU_r := Lib.hid (And.intro h2_r h4_r)
        obtain ⟨M_r, hm_r⟩ : ∃ m_r, ((M.map fun l => l.map (at_ U))).length = m_r := ⟨_, rfl⟩
        rw [hm_r] at h1_r
        have HM_r := Lib.hid hm_r
        have HL_r := Lib.hid (show M_r ≤ 2000 from by rw [← hm_r]; rw [List.length_map]; have := HML.out; omega)
        clear h2_r h4_r hm_r
        go_wp2_with (at_builtin; (refine wpList_append_own _ rfl _ _ 24 rfl w.heap.size 23 i0 (.slice none 0 0) 1 24 Tryz.underlying24 hinf hz0 hz1 hz2 rfl (by decide) _ _ _ rfl (h1_r.alloc _) ⟨wr.heap.size, 0, none⟩ 1 1 [(.slice aA f.length cA)] rfl rfl ?a_r ?b_r ?c_r ?d_r ?e_r ?_))
        try
          case a_r =>
            intro j u hj
            match j, hj with
            | 0, hj => simp at hj; subst hj; simp [Addr.add]
        case b_r => intro u hu; simp at hu; subst hu; rfl
        case c_r => have := HL_r.out; unfold maxLen; omega
        case d_r => have := HL_r.out; omega
        case e_r => have := hBB.out.size; simp; omega
        intro v9 w9 hown_r hgrow_r _
        have HN9 := Lib.hid (show Own3x w.heap.size B w9 v9 ((M.map fun l => l.map (at_ U)) ++ [(f.map (at_ U))]) from
          Own3x.push (w := wr.alloc _) (us := us_r) HM_r.out (h1_r.alloc _) HUU_r.out.1 (fun i r u hr hu => (HUU_r.out.2 i r u hr hu).keep (S := fun _ => True) ((Keep.refl _ _).alloc _) (fun _ _ => trivial)) (HAz.out.keep (S := fun _ => True) ((Keep.refl _ _).alloc _) (fun _ _ => trivial)) hown_r hgrow_r)
        have HB9 := Lib.hid (show Below w.heap.size w w9 from (hBB.out.alloc (by have := hBB.out.size; omega) _).grown hgrow_r (by simp; have := hBB.out.size; omega) (fun g hg => (World.ownsRow.lt h1_r g hg).1))
        clear hown_r hgrow_r h1_r HUU_r HM_r HL_r
        have HN9' := Lib.hid (show Own3 B w9 v9 ((insG f G).map fun l => l.map (at_ U)) from by rw [← HMM.out, List.map_append]; exact HN9.out.own3 hB)
        go_wp2_with fail
        go_ret
        exact ⟨_, rfl, HN9'.out, HB9.out⟩
end Go.Proofs.YtabeedimnbkcgaaGreat.AllA

/-
  spec.AllAutomorphisms, impl.AllAutomorphisms.
-/
namespace Go.Proofs.YtabeedimnbkcgaaGreat.AllB
open Go.RowKit Go.Proofs.YtabeedimnbkcgaaGreat Go.Proofs.YtabeedimnbkcgaaGreat.Tow Go.Proofs.YtabeedimnbkcgaaGreat.NumT Go.Proofs.YtabeedimnbkcgaaGreat.GenD Go.Proofs.YtabeedimnbkcgaaGreat.SpecB Go.Proofs.YtabeedimnbkcgaaGreat.LawE Go.Proofs.YtabeedimnbkcgaaGreat.LawF Go.Proofs.YtabeedimnbkcgaaGreat.Mark Go.Proofs.YtabeedimnbkcgaaGreat.Cmp Go.Proofs.YtabeedimnbkcgaaGreat.Srt Go.Proofs.YtabeedimnbkcgaaGreat.Ord Go.Proofs.YtabeedimnbkcgaaGreat.FindA Go.Proofs.YtabeedimnbkcgaaGreat.FindB Go.Proofs.YtabeedimnbkcgaaGreat.FindC Go.Proofs.YtabeedimnbkcgaaGreat.AllA
set_option linter.unusedVariables false
set_option linter.unusedSimpArgs false

/-- all automorphisms in order, with the code -/
def AllV (P : Pres) (res : List (List (List Int))) (k : Int) : Prop :=
  (res = [] ∧ k = 1 ∧ ¬ Grps.Grp P) ∨ ∃ T, P = ofTw T ∧ Grps.Grp P ∧ ((res = [] ∧ k = 3 ∧ (27 < sz T ∨ 200 < (Grow.grow T T T.length []).length)) ∨
    (k = 0 ∧ sz T ≤ 27 ∧ (Grow.grow T T T.length []).length ≤ 200 ∧ ∃ F, F.Perm (Grow.grow T T T.length []) ∧ Asc F ∧ res = F.map fun f => f.map fun q => ints (at_ T q)))
theorem all_one {P : Pres} {r r' : List (List (List Int))} {k k' : Int} (h : AllV P r k) (h' : AllV P r' k') : r' = r ∧ k' = k := by
  rcases h with ⟨rfl, rfl, hn⟩ | ⟨T, rfl, hG, h⟩
  · rcases h' with ⟨rfl, rfl, _⟩ | ⟨T', _, hG, _⟩
    · exact ⟨rfl, rfl⟩
    · exact absurd hG hn
  · rcases h' with ⟨_, _, hn⟩ | ⟨T', hT, _, h'⟩
    · exact absurd hG hn
    · obtain rfl := Grps.ofTw_inj hT
      rcases h with ⟨rfl, rfl, h1⟩ | ⟨rfl, h1, h2, F, f1, f2, rfl⟩ <;> rcases h' with ⟨rfl, rfl, g1⟩ | ⟨rfl, g1, g2, F', g3, g4, rfl⟩ <;> first | exact ⟨rfl, rfl⟩ | omega | skip
      have e : F' = F := asc_one (n := T.length) (fun x hx => by simpa using ImplY.grow_rows _ _ _ (g3.mem_iff.1 hx)) (g3.trans f1.symm) g4 f2
      rw [e]
      exact ⟨rfl, rfl⟩
theorem Own3.sl3 {B : Nat} {w : World} {v : Value} {L : List (List (List Nat))} (h : Own3 B w v L) : Sl3 (fun k => B ≤ k) w v (L.map fun r => r.map ints) := by
  obtain ⟨a, cap, rfl, h1, h2⟩ := h.form
  refine ⟨a, cap, by simp, by simpa using h1, h2, fun ha => ?_, fun i r hr => ?_⟩
  · subst ha
    obtain ⟨us, o1, _⟩ := h
    rcases o1.2 with ⟨he, _⟩ | ⟨g, cap', cur, he, _⟩
    · simp at he; exact he.2
    · simp at he
  · simp only [List.getElem?_map, Option.map_eq_some_iff] at hr
    obtain ⟨r', hr', rfl⟩ := hr
    obtain ⟨g, cap', u, he, hb, hg, hc, hok⟩ := FindC.Own3.at h hr'
    simp only [Value.slice.injEq] at he
    obtain ⟨rfl, -, rfl⟩ := he
    exact ⟨g, 0, rfl, hb, hg, u, by rw [Nat.zero_add]; exact hc, hok.sl⟩
theorem Sl3_nil (S : Nat → Prop) (w : World) : Sl3 S w (.slice none 0 0) [] := ⟨none, 0, rfl, Nat.le_refl _, by simp, fun _ => rfl, fun i x hx => by simp at hx⟩
def SAllR (P : Pres) (w : World) (e : Ending) (w' : World) : Prop := ∃ v k res, e = .returned (.tuple #[v, .int .i64 k]) ∧ AllV P res k ∧ Sl3 (fun b => w.heap.size ≤ b) w' v res ∧ Below w.heap.size w w'

set_option maxRecDepth 100000 in
set_option maxHeartbeats 2000000 in
theorem spec_all (w : World) (vO vP vC : Value) (P : Pres) (hP : ValP Any w vO vP vC P) :
    Calls Tryz.prog 25 #[.agg #[vO, vP, vC]] w (SAllR P w) := by
  have HP := Lib.hid hP
  obtain ⟨W0, hW0⟩ : ∃ W0, W0 = w.alloc (.cells #[vO, vP, vC] 30) := ⟨_, rfl⟩
  have HB0 := Lib.hid (show Below (w.heap.size + 1) (w.alloc (.cells #[vO, vP, vC] 30)) W0 by rw [hW0]; exact Below.refl _ _)
  clear hP
  go_enter Tryz.func25, Tryz.ntmps25
  go_upto_region 1 with fail
  rw [← hW0]
  clear hW0
  obtain ⟨⟨e0, e1, e2⟩, hk, hbw, hs⟩ := bx1 HB0.out
  go_wp2_with fail
  refine (SpecT.code_any _ vO vP vC P (HP.out.keep hk)).mono ?_
  rintro e w1 ⟨k, rfl, hc, hb1⟩
  have HB1 := Lib.hid (HB0.out.trans (hb1.mono hs))
  clear e0 e1 e2 hk hbw hs hb1
  obtain ⟨⟨e0, e1, e2⟩, hk, hbw, hs⟩ := bx1 HB1.out
  rcases hc with ⟨rfl, hG⟩ | ⟨T, rfl, hG, ⟨rfl, h27⟩ | ⟨rfl, h27⟩⟩
  · have HR := Lib.hid (show SAllR P w (.returned (.tuple #[.slice none 0 0, .int .i64 1])) w1 from ⟨_, 1, [], rfl, .inl ⟨rfl, rfl, hG⟩, Sl3_nil _ _, hbw⟩)
    clear hG hk hbw
    go_wp2_with fail
    exact bodyPost_ret (v := .tuple #[.slice none 0 0, .int .i64 1]) (by simp [results, Tryz.results25, go_sem]) rfl HR.out
  · have HR := Lib.hid (show SAllR (ofTw T) w (.returned (.tuple #[.slice none 0 0, .int .i64 3])) w1 from ⟨_, 3, [], rfl, .inr ⟨T, rfl, hG, .inl ⟨rfl, rfl, .inl h27⟩⟩, Sl3_nil _ _, hbw⟩)
    clear hG hk hbw h27
    go_wp2_with fail
    exact bodyPost_ret (v := .tuple #[.slice none 0 0, .int .i64 3]) (by simp [results, Tryz.results25, go_sem]) rfl HR.out
  · obtain ⟨hT, hsT, hgT, hpT⟩ := SpecX.grp_parts hG
    have HEM := Lib.hid (SpecX.embed_any T T hT hsT hT hsT hgT hpT h27 (fun h => h) w1 vO vP vC vO vP vC (HP.out.keep hk) (HP.out.keep hk))
    have HGP := Lib.hid hG
    have HBW := Lib.hid hbw
    have HSS := Lib.hid hs
    have HTT := Lib.hid hT
    have HT6 := Lib.hid hsT.1
    clear hk hG hT hsT hgT hpT hbw hs
    go_wp2_with fail
    refine HEM.out.mono ?_
    rintro e w2 ⟨v, rfl, ho, hb2⟩
    rw [maps_eq HGP.out HGP.out] at ho
    have HB2 := Lib.hid (HBW.out.trans (hb2.mono (by have := HSS.out; omega)))
    obtain ⟨G, hGG⟩ : ∃ G, Grow.grow T T T.length [] = G := ⟨_, rfl⟩
    rw [hGG] at ho
    have HGG := Lib.hid hGG
    have HO := Lib.hid (ho.mono (B' := w.heap.size) (by have := HSS.out; omega))
    obtain ⟨a, c, rfl, _, _⟩ := ho.form
    rw [List.length_map] at ho HO ⊢
    have HGL := Lib.hid (show ∀ f ∈ G, f.length = T.length from fun f hf => by
      rw [← hGG] at hf
      simpa using ImplY.grow_rows _ _ _ hf)
    have HGU := Lib.hid (show ∀ f ∈ G, ∀ q ∈ f, q < sz T from fun f hf => by
      rw [← hGG] at hf
      exact grow_lt HTT.out _ _ (by simp) f hf)
    clear ho hb2 hGG e0 e1 e2
    by_cases h200 : 200 < G.length
    · have hd : decide ((G.length : Int) > 200) = true := by simp; omega
      have HR := Lib.hid (show SAllR (ofTw T) w (.returned (.tuple #[.slice none 0 0, .int .i64 3])) w2 from ⟨_, 3, [], rfl, .inr ⟨T, rfl, HGP.out, .inl ⟨rfl, rfl, .inr (by rw [HGG.out]; exact h200)⟩⟩, Sl3_nil _ _, HB2.out⟩)
      go_wp2_with fail
      exact bodyPost_ret (v := .tuple #[.slice none 0 0, .int .i64 3]) (by simp [results, Tryz.results25, go_sem]) rfl HR.out
    · have hd : decide ((G.length : Int) > 200) = false := by simp; omega
      have hG200 : G.length ≤ 200 := by omega
      have HO0 := Lib.hid (show Own3 w.heap.size (w2.alloc (.cells #[] 23)) (.slice (some ⟨w2.heap.size, 0, none⟩) 0 0) [] from ⟨[], World.ownsRow_made (base := w.heap.size) (e := 23) (size := 1) w2 #[] 0 HB2.out.size (Nat.zero_le _) rfl, rfl, by simp⟩)
      clear h200
      go_wp2_with fail
      go_loopw [6, 7] (fun ov iv wr => ∃ i : Nat, i ≤ G.length ∧ iv = .int .i64 (i : Int) ∧ Hid (Own3 w.heap.size wr ov ((sortG (G.take i)).map fun l => l.map (at_ T))) ∧ Hid (Below w2.heap.size w2 wr)) (fun _ iv _ => G.length - (intOf iv).toNat)
      case atStart => exact ⟨0, Nat.zero_le _, rfl, Lib.hid (by have h := HO0.out; simpa [sortG] using h), Lib.hid ((Below.refl _ _).alloc (Nat.le_refl _) _)⟩
      case round =>
        obtain ⟨i, hi, rfl, hOo, hBB⟩ := hrel
        by_cases hlt : i < G.length
        · obtain ⟨f, hf⟩ : ∃ f, G[i]? = some f := ⟨_, List.getElem?_eq_getElem hlt⟩
          obtain ⟨g, cap, uf, e1, _, hgl, hcf, hof⟩ := FindC.Own3.at HO.out (i := i) (r := f.map (at_ T)) (by rw [List.getElem?_map, hf]; rfl)
          simp only [Value.slice.injEq] at e1
          obtain ⟨rfl, -, rfl⟩ := e1
          have hcr := (hBB.out.cell (p := ⟨g, i, none⟩) hgl).trans hcf
          have hp := sortG_perm (G.take i)
          have HIN := Lib.hid (insert_any T HTT.out HT6.out T.length HT6.out w.heap.size wr u6 uf (sortG (G.take i)) f hOo.out (hof.of_below hBB.out) (Nat.le_trans HB2.out.size hBB.out.size)
            (fun x hx => HGL.out x (List.mem_of_mem_take (hp.mem_iff.1 hx))) (fun x hx => HGU.out x (List.mem_of_mem_take (hp.mem_iff.1 hx))) (HGL.out f (List.mem_of_getElem? hf)) (HGU.out f (List.mem_of_getElem? hf)) (by rw [hp.length_eq, List.length_take]; omega))
          have HTK := Lib.hid (sortG_take hf)
          have hil : (i : Int) < (G.length : Int) := by omega
          clear hf hcf hof hp
          go_wp2_with fail
          refine HIN.out.mono ?_
          rintro e w3 ⟨v3, rfl, ho3, hb3⟩
          have HN := Lib.hid (show Own3 w.heap.size w3 v3 ((sortG (G.take (i + 1))).map fun l => l.map (at_ T)) from by rw [HTK.out]; exact ho3)
          have HB3 := Lib.hid (hBB.out.trans (hb3.mono hBB.out.size))
          clear ho3 hb3
          go_wp2_with fail
          go_roundw
          case rel => exact ⟨i + 1, by omega, by go_num, HN, HB3⟩
          case measure => simp [intOf]; omega
        · obtain rfl : i = G.length := by omega
          have hdl : decide ((G.length : Int) < (G.length : Int)) = false := by simp
          have HR := Lib.hid (show SAllR (ofTw T) w (.returned (.tuple #[u6, .int .i64 0])) wr from by
            have h := hOo.out
            rw [List.take_length] at h
            refine ⟨_, 0, _, rfl, .inr ⟨T, rfl, HGP.out, .inr ⟨rfl, h27, by rw [HGG.out]; exact hG200, sortG G, by rw [HGG.out]; exact sortG_perm G, sortG_asc HGL.out, rfl⟩⟩, ?_, HB2.out.trans (hBB.out.mono HB2.out.size)⟩
            have h3 := Own3.sl3 h
            rw [List.map_map] at h3
            simpa [Function.comp_def, List.map_map] using h3)
          clear hOo
          go_wp2_with fail
          exact bodyPost_ret (v := .tuple #[u6, .int .i64 0]) (by simp [results, Tryz.results25, go_sem]) rfl HR.out
end Go.Proofs.YtabeedimnbkcgaaGreat.AllB

/-
  The law's marks over rows of rows of rows.
-/
namespace Go.Proofs.YtabeedimnbkcgaaGreat.Mark
open Go.RowKit Go.Proofs.YtabeedimnbkcgaaGreat Go.Proofs.YtabeedimnbkcgaaGreat.SpecB Go.Proofs.YtabeedimnbkcgaaGreat.LawB Go.Proofs.YtabeedimnbkcgaaGreat.LawC Go.Proofs.YtabeedimnbkcgaaGreat.LawN
set_option linter.unusedVariables false
set_option linter.unusedSimpArgs false

abbrev Rows3 (S : Nat → Prop) (w : World) (v : Value) (LL : List (List (Nat × List Int))) : Prop := SlG (fun w u L => Rows2 S w u L) S w v LL
/-- all rows lie in different blocks -/
def D3 (LL : List (List (Nat × List Int))) : Prop := (∀ L ∈ LL, (L.map (·.1)).Nodup) ∧ LL.Pairwise (fun A B => ∀ a ∈ A, ∀ b ∈ B, a.1 ≠ b.1)
def Bl (LL : List (List (Nat × List Int))) (b : Nat) : Prop := ∃ L ∈ LL, b ∈ L.map (·.1)
def tt3 : List (List (Nat × List Int)) → Nat
  | [] => 0
  | L :: LL => tot L + tt3 LL
def mrk3 : Nat → List (List (Nat × List Int)) → List (List (Nat × List Int))
  | _, [] => []
  | k, L :: LL => mrk k L :: mrk3 (k + tot L) LL
theorem mrk3_length : ∀ (k : Nat) (LL : List (List (Nat × List Int))), (mrk3 k LL).length = LL.length
  | _, [] => rfl
  | k, p :: L => by rw [mrk3, List.length_cons, List.length_cons, mrk3_length]
theorem mrk3_get : ∀ (k : Nat) (LL : List (List (Nat × List Int))) (j : Nat) (L : List (Nat × List Int)), LL[j]? = some L → (mrk3 k LL)[j]? = some (mrk (k + tt3 (LL.take j)) L)
  | k, [], j, p, h => by simp at h
  | k, q :: L, 0, p, h => by
    simp only [List.getElem?_cons_zero, Option.some.injEq] at h
    subst h
    simp [mrk3, tt3]
  | k, q :: L, j + 1, p, h => by
    rw [mrk3, List.getElem?_cons_succ, mrk3_get _ L j p (by simpa using h)]
    simp only [List.take_succ_cons, tt3]
    rw [Nat.add_assoc]
theorem tt3_take : ∀ (LL : List (List (Nat × List Int))) (j : Nat) (p : List (Nat × List Int)), LL[j]? = some p → tt3 (LL.take (j + 1)) = tt3 (LL.take j) + tot p
  | [], j, p, h => by simp at h
  | q :: L, 0, p, h => by
    simp only [List.getElem?_cons_zero, Option.some.injEq] at h
    subst h
    simp [tt3]
  | q :: L, j + 1, p, h => by
    simp only [List.take_succ_cons, tt3]
    rw [tt3_take L j p (by simpa using h)]
    omega
theorem tt3_le : ∀ (LL : List (List (Nat × List Int))) (j : Nat), tt3 (LL.take j) ≤ tt3 LL
  | [], j => by simp [tt3]
  | q :: L, 0 => by simp [tt3]
  | q :: L, j + 1 => by
    simp only [List.take_succ_cons, tt3]
    have := tt3_le L j
    omega
def mix3 (k : Nat) (L : List (List (Nat × List Int))) (j : Nat) : List (List (Nat × List Int)) := (mrk3 k L).take j ++ L.drop j
theorem mix3_length {k : Nat} {L : List (List (Nat × List Int))} {j : Nat} (h : j ≤ L.length) : (mix3 k L j).length = L.length := by
  unfold mix3
  rw [List.length_append, List.length_take, mrk3_length, List.length_drop]; omega
theorem mix3_get {k : Nat} {L : List (List (Nat × List Int))} {j i : Nat} (h : j ≤ L.length) : (mix3 k L j)[i]? = if i < j then (mrk3 k L)[i]? else L[i]? := by
  unfold mix3
  by_cases hi : i < j
  · rw [if_pos hi, List.getElem?_append_left (by rw [List.length_take, mrk3_length]; omega), List.getElem?_take_of_lt hi]
  · rw [if_neg hi, List.getElem?_append_right (by rw [List.length_take, mrk3_length]; omega), List.length_take, mrk3_length, List.getElem?_drop]
    congr 1
    omega
theorem mix3_zero (k : Nat) (L : List (List (Nat × List Int))) : mix3 k L 0 = L := by simp [mix3]
theorem mix3_end (k : Nat) (L : List (List (Nat × List Int))) : mix3 k L L.length = mrk3 k L := by
  unfold mix3
  rw [List.drop_length, List.append_nil, List.take_of_length_le (by rw [mrk3_length]; exact Nat.le_refl _)]
theorem D3.ne {LL : List (List (Nat × List Int))} (h : D3 LL) {i j : Nat} {A B : List (Nat × List Int)} (hA : LL[i]? = some A) (hB : LL[j]? = some B) (hij : i ≠ j) {a b : Nat × List Int} (ha : a ∈ A) (hb : b ∈ B) : a.1 ≠ b.1 := by
  obtain ⟨hi, rfl⟩ := List.getElem?_eq_some_iff.1 hA
  obtain ⟨hj, rfl⟩ := List.getElem?_eq_some_iff.1 hB
  rcases Nat.lt_or_gt_of_ne hij with hl | hl
  · exact (List.pairwise_iff_getElem.1 h.2) i j hi hj hl a ha b hb
  · exact fun e => (List.pairwise_iff_getElem.1 h.2) j i hj hi hl b hb a ha e.symm
theorem Rows2.mrk {S S' : Nat → Prop} {w w' : World} {v : Value} {L : List (Nat × List Int)} (h : Rows2 S w v L) (hm : Mrk S' w w') (hS : ∀ p ∈ L, ¬ S' p.1) : Rows2 S w' v L :=
  SlG.carry (S' := S) h (Nat.le_of_eq hm.size.symm) rfl fun i x x' b o u hx hx' hc hu => by
    rw [hx] at hx'
    cases hx'
    have hp := hS x (List.mem_of_getElem? hx)
    obtain ⟨a, c, rfl, _⟩ := hu.form
    exact ⟨hm.sl hc, hu.keep (hm.keep.mono (fun b hb => by rw [hb]; exact hp))⟩
theorem mix3_step {S : Nat → Prop} {w w' : World} {v : Value} {k j : Nat} {LL : List (List (Nat × List Int))} (hd : D3 LL) {p : List (Nat × List Int)} (hp : LL[j]? = some p) (h : Rows3 S w v (mix3 k LL j)) (hm : Mrk (fun b => b ∈ p.map (·.1)) w w') {b o : Nat} {u : Value}
    (hcell : ∀ b' o' c', v = .slice (some ⟨b', o', none⟩) LL.length c' → b = b' ∧ o = o' + j) (hc : w.cell? ⟨b, o, none⟩ = some u) (hu : Rows2 S w' u (mrk (k + tt3 (LL.take j)) p)) : Rows3 S w' v (mix3 k LL (j + 1)) := by
  have hjl : j < LL.length := (List.getElem?_eq_some_iff.1 hp).1
  obtain ⟨ao, c, h1, h2, h3, h0, h4⟩ := h
  rw [mix3_length (by omega)] at h1 h2
  refine ⟨ao, c, by rw [mix3_length (by omega)]; exact h1, by rw [mix3_length (by omega)]; exact h2, h3, h0, fun i x hx => ?_⟩
  have hil : i < LL.length := by
    have := (List.getElem?_eq_some_iff.1 hx).1
    rwa [mix3_length (by omega)] at this
  rw [mix3_get (by omega)] at hx
  have hsl : ∀ (b o : Nat) (u : Value) (q : List (Nat × List Int)), w.cell? ⟨b, o, none⟩ = some u → Rows2 S w u q → w'.cell? ⟨b, o, none⟩ = some u := fun b o u q hc hq => by
    obtain ⟨a', c', rfl, _⟩ := SlG.form hq
    exact hm.sl hc
  by_cases hij : i = j
  · subst hij
    rw [if_pos (by omega), mrk3_get k LL i p hp] at hx
    cases hx
    obtain ⟨b1, o1, e1, e2, e3, u1, e4, e5⟩ := h4 i p (by rw [mix3_get (by omega), if_neg (by omega)]; exact hp)
    subst e1
    obtain ⟨rfl, rfl⟩ := hcell b1 o1 c h1
    rw [hc] at e4
    cases e4
    exact ⟨b, o1, rfl, e2, by rw [hm.size]; exact e3, u, hsl _ _ _ _ hc e5, hu⟩
  · obtain ⟨q, hq⟩ : ∃ q, LL[i]? = some q := ⟨_, List.getElem?_eq_getElem hil⟩
    have hxm : (mix3 k LL j)[i]? = some x := by
      rw [mix3_get (by omega)]
      by_cases h : i < j
      · rw [if_pos h]; rw [if_pos (by omega)] at hx; exact hx
      · rw [if_neg h]; rw [if_neg (by omega)] at hx; exact hx
    have hx1 : x.map (·.1) = q.map (·.1) := by
      by_cases h : i < j
      · rw [if_pos (by omega), mrk3_get k LL i q hq] at hx
        cases hx; exact mrk_fst _ _
      · rw [if_neg (by omega), hq] at hx
        cases hx; rfl
    obtain ⟨b1, o1, e1, e2, e3, u1, e4, e5⟩ := h4 i x hxm
    refine ⟨b1, o1, e1, e2, by rw [hm.size]; exact e3, u1, hsl _ _ _ _ e4 e5, Rows2.mrk e5 hm (fun r hr hin => ?_)⟩
    have hr1 : r.1 ∈ q.map (·.1) := by rw [← hx1]; exact List.mem_map.2 ⟨r, hr, rfl⟩
    obtain ⟨a, ha, ea⟩ := List.mem_map.1 hr1
    obtain ⟨b, hb, eb⟩ := List.mem_map.1 hin
    exact hd.ne hq hp hij ha hb (ea.trans eb.symm)

set_option maxHeartbeats 1000000 in
theorem mark3 (S : Nat → Prop) (w : World) (v : Value) (LL : List (List (Nat × List Int))) (hv : Rows3 S w v LL) (hd : D3 LL) (hN : NFS (Bl LL) w) (k : Nat) (hk : ((k + tt3 LL : Nat) : Int) ≤ 9223372036854775807) :
    Calls Tryz.prog 28 #[v, .int .i64 (k : Int)] w fun e w' => e = .returned (.int .i64 ((k + tt3 LL : Nat) : Int)) ∧ Mrk (Bl LL) w w' ∧ Rows3 S w' v (mrk3 k LL) := by
  obtain ⟨ao, c, rfl, hlc, hcm⟩ := SlG.form hv
  unfold maxLen at hcm
  have HV := Lib.hid hv
  have HN := Lib.hid hN
  have hl63 : (LL.length : Int) ≤ 9223372036854775807 := by omega
  have HD := Lib.hid hd
  have HT := Lib.hid (fun j => tt3_le LL j)
  obtain ⟨T, hT⟩ : ∃ T, tt3 LL = T := ⟨_, rfl⟩
  have HTT := Lib.hid hT
  rw [hT] at hk ⊢
  clear hv hN hd hcm hT
  go_enter Tryz.func28, Tryz.ntmps28
  go_wp2_with fail
  go_loopw [1, 5] (fun tv iv wr => ∃ j m : Nat, j ≤ LL.length ∧ iv = .int .i64 (j : Int) ∧ Hid (m = k + tt3 (LL.take j)) ∧ tv = .int .i64 (m : Int) ∧ Hid (Mrk (Bl LL) w wr ∧ Rows3 S wr (.slice ao LL.length c) (mix3 k LL j))) (fun _ iv _ => LL.length - (intOf iv).toNat)
  case atStart => exact ⟨0, k, Nat.zero_le _, rfl, Lib.hid (by simp [tt3]), rfl, Lib.hid ⟨Mrk.refl _ _, by rw [mix3_zero]; exact HV.out⟩⟩
  case round =>
    obtain ⟨j, m, hj, rfl, hm, rfl, hM⟩ := hrel
    by_cases hlt : j < LL.length
    · obtain ⟨p, hp⟩ : ∃ p, LL[j]? = some p := ⟨_, List.getElem?_eq_getElem hlt⟩
      obtain ⟨b, o, u, he, hSb, hb, hc, hu⟩ := SlG.get hM.out.2 (k := j) (x := p) (by rw [mix3_get (by omega), if_neg (by omega)]; exact hp)
      have hml : m + tot p ≤ k + T := by
        rw [hm.out, Nat.add_assoc, ← tt3_take LL j p hp, ← HTT.out]
        have := HT.out (j + 1)
        omega
      have hpm := List.mem_of_getElem? hp
      obtain ⟨tp, htp⟩ : ∃ tp, tot p = tp := ⟨_, rfl⟩
      have HM1 := Lib.hid (mark2 S wr u p hu (HD.out.1 p hpm) ((hM.out.1.nf _ HN.out).mono (fun b hb => ⟨p, hpm, hb⟩)) m (by omega))
      have HP := Lib.hid hp
      have HTP := Lib.hid htp
      rw [htp] at HM1 hml
      subst he
      clear hu hp hpm htp
      go_wp2_with fail
      refine HM1.out.mono ?_
      rintro e w1 ⟨rfl, hmk, hcn⟩
      have HN1 := Lib.hid (show Mrk (Bl LL) w w1 ∧ Rows3 S w1 (.slice (some ⟨b, o, none⟩) LL.length c) (mix3 k LL (j + 1)) from by
        refine ⟨hM.out.1.trans (hmk.mono (fun b hb => ⟨p, List.mem_of_getElem? HP.out, hb⟩)), ?_⟩
        rw [hm.out] at hcn
        exact mix3_step HD.out HP.out hM.out.2 hmk (fun b' o' c' e => by simp only [Value.slice.injEq, Option.some.injEq, Addr.mk.injEq, and_true] at e; exact ⟨e.1.1, by rw [e.1.2]⟩) hc hcn)
      have HMN := Lib.hid (show m + tp = k + tt3 (LL.take (j + 1)) by rw [tt3_take LL j p HP.out, hm.out, ← HTP.out]; omega)
      clear hmk hcn hc hm hM
      go_wp2_with fail
      go_roundw
      case rel => exact ⟨j + 1, m + tp, by omega, by go_num, HMN, rfl, HN1⟩
      case measure => simp [intOf]; omega
    · obtain rfl : j = LL.length := by omega
      have HR := Lib.hid (show Mrk (Bl LL) w wr ∧ Rows3 S wr (.slice ao LL.length c) (mrk3 k LL) from ⟨hM.out.1, by have h := hM.out.2; rwa [mix3_end] at h⟩)
      obtain rfl : m = k + T := by rw [hm.out, List.take_length, HTT.out]
      clear hM hm
      go_wp2_with fail
      go_ret
      exact ⟨rfl, HR.out⟩

set_option maxHeartbeats 1000000 in
theorem held3 (S : Nat → Prop) (w : World) (v : Value) (LL : List (List (Nat × List Int))) (k : Nat) (hv : Rows3 S w v (mrk3 k LL)) (hk : ((k + tt3 LL : Nat) : Int) ≤ 9223372036854775807) :
    Calls Tryz.prog 29 #[v, .int .i64 (k : Int)] w fun e w' => e = .returned (.int .i64 ((k + tt3 LL : Nat) : Int)) ∧ w = w' := by
  obtain ⟨ao, c, rfl, hlc, hcm⟩ := SlG.form hv
  rw [mrk3_length] at hv hlc ⊢
  unfold maxLen at hcm
  have HV := Lib.hid hv
  have hl63 : (LL.length : Int) ≤ 9223372036854775807 := by omega
  have HT := Lib.hid (fun j => tt3_le LL j)
  obtain ⟨T, hT⟩ : ∃ T, tt3 LL = T := ⟨_, rfl⟩
  have HTT := Lib.hid hT
  rw [hT] at hk ⊢
  clear hv hcm hT
  go_enter Tryz.func29, Tryz.ntmps29
  go_wp2_with fail
  go_loop [1, 5] (fun tv iv => ∃ j m : Nat, j ≤ LL.length ∧ iv = .int .i64 (j : Int) ∧ Hid (m = k + tt3 (LL.take j)) ∧ tv = .int .i64 (m : Int)) (fun _ iv => LL.length - (intOf iv).toNat)
  case atStart => exact ⟨0, k, Nat.zero_le _, rfl, Lib.hid (by simp [tt3]), rfl⟩
  case round =>
    obtain ⟨j, m, hj, rfl, hm, rfl⟩ := hrel
    by_cases hlt : j < LL.length
    · obtain ⟨p, hp⟩ : ∃ p, LL[j]? = some p := ⟨_, List.getElem?_eq_getElem hlt⟩
      obtain ⟨b, o, u, he, hSb, hb, hc, hu⟩ := SlG.get HV.out (mrk3_get k LL j p hp)
      subst he
      have hml : m + tot p ≤ k + T := by
        rw [hm.out, Nat.add_assoc, ← tt3_take LL j p hp, ← HTT.out]
        have := HT.out (j + 1)
        omega
      rw [← hm.out] at hu
      have HM1 := Lib.hid (held2 S w u p m hu (by omega))
      have HMN := Lib.hid (show m + tot p = k + tt3 (LL.take (j + 1)) by rw [tt3_take LL j p hp, hm.out]; omega)
      have hnn : decide (((m + tot p : Nat) : Int) < 0) = false := by simp; omega
      obtain ⟨m', hm'⟩ : ∃ m', m + tot p = m' := ⟨_, rfl⟩
      rw [hm'] at HM1 HMN hnn
      clear hu hp hm hm' hml
      go_wp2_with fail
      refine HM1.out.mono ?_
      rintro e w1 ⟨rfl, rfl⟩
      go_wp2_with fail
      go_round
      case rel => exact ⟨j + 1, m', by omega, by go_num, HMN, rfl⟩
      case measure => simp [intOf]; omega
    · obtain rfl : j = LL.length := by omega
      obtain rfl : m = k + T := by rw [hm.out, List.take_length, HTT.out]
      clear hm
      go_wp2_with fail
      go_ret
      exact ⟨rfl, rfl⟩
end Go.Proofs.YtabeedimnbkcgaaGreat.Mark

/-
  impl.AllAutomorphisms.
-/
namespace Go.Proofs.YtabeedimnbkcgaaGreat.AllC
open Go.RowKit Go.Proofs.YtabeedimnbkcgaaGreat Go.Proofs.YtabeedimnbkcgaaGreat.Tow Go.Proofs.YtabeedimnbkcgaaGreat.NumT Go.Proofs.YtabeedimnbkcgaaGreat.GenD Go.Proofs.YtabeedimnbkcgaaGreat.SpecB Go.Proofs.YtabeedimnbkcgaaGreat.LawF Go.Proofs.YtabeedimnbkcgaaGreat.Mark Go.Proofs.YtabeedimnbkcgaaGreat.Cmp Go.Proofs.YtabeedimnbkcgaaGreat.Srt Go.Proofs.YtabeedimnbkcgaaGreat.Ord Go.Proofs.YtabeedimnbkcgaaGreat.FindA Go.Proofs.YtabeedimnbkcgaaGreat.FindB Go.Proofs.YtabeedimnbkcgaaGreat.AllB
set_option linter.unusedVariables false
set_option linter.unusedSimpArgs false

/-- owned rows of rows, each row with its block -/
def OwnE3 (B : Nat) (w : World) (v : Value) (LL : List (List (Nat × List Int))) : Prop :=
  ∃ us : List Value, w.ownsRow B 23 1 v LL.length us ∧ us.length = LL.length ∧ ∀ (i : Nat) (L : List (Nat × List Int)) (u : Value), LL[i]? = some L → us[i]? = some u → OwnE B w u L
theorem OwnE3.nil (B : Nat) (w : World) : OwnE3 B w (.slice none 0 0) [] := ⟨[], World.ownsRow_nil _ _ _ _, rfl, by simp⟩
theorem OwnE3.mem {B : Nat} {w : World} {v : Value} {LL : List (List (Nat × List Int))} (h : OwnE3 B w v LL) {L : List (Nat × List Int)} (hL : L ∈ LL) : ∃ u, OwnE B w u L := by
  obtain ⟨us, h1, h2, h4⟩ := h
  obtain ⟨i, hi⟩ := List.getElem?_of_mem hL
  have hil := (List.getElem?_eq_some_iff.1 hi).1
  exact ⟨us[i], h4 i L us[i] hi (List.getElem?_eq_getElem (by omega))⟩
theorem OwnE3.lt {B : Nat} {w : World} {v : Value} {LL : List (List (Nat × List Int))} (h : OwnE3 B w v LL) : ∀ L ∈ LL, ∀ p ∈ L, B ≤ p.1 ∧ p.1 < w.heap.size := fun L hL p hp => by
  obtain ⟨u, hu⟩ := h.mem hL
  exact hu.lt p hp
theorem OwnE3.nfs {B : Nat} {w : World} {v : Value} {LL : List (List (Nat × List Int))} (h : OwnE3 B w v LL) : NFS (Bl LL) w := fun g cs t fr ⟨L, hL, hg⟩ hh => by
  obtain ⟨u, hu⟩ := h.mem hL
  exact hu.nfs g cs t fr hg hh
theorem OwnE3.form {B : Nat} {w : World} {v : Value} {LL : List (List (Nat × List Int))} (h : OwnE3 B w v LL) : ∃ a cap, v = .slice a LL.length cap ∧ LL.length ≤ cap ∧ cap ≤ maxLen ∧ (a = none → cap = 0) := by
  obtain ⟨us, h1, h2, h4⟩ := h
  rcases h1.2 with ⟨rfl, hn⟩ | ⟨g, cap, cur, rfl, hb, hgg, hn, hm, hs, ht⟩
  · exact ⟨none, 0, by rw [hn], by omega, by simp, fun _ => rfl⟩
  · exact ⟨_, cap, rfl, hn, hm, by simp⟩
theorem OwnE3.rows {B : Nat} {w : World} {v : Value} {LL : List (List (Nat × List Int))} (h : OwnE3 B w v LL) : Rows3 (fun b => B ≤ b) w v LL := by
  obtain ⟨a, cap, rfl, h1, h2, h0⟩ := h.form
  refine ⟨a, cap, rfl, h1, h2, h0, fun i p hp => ?_⟩
  obtain ⟨us, o1, o2, o4⟩ := h
  have hil := (List.getElem?_eq_some_iff.1 hp).1
  obtain ⟨u, hu⟩ : ∃ u, us[i]? = some u := ⟨_, List.getElem?_eq_getElem (by omega)⟩
  have ho := o4 i p u hp hu
  rcases o1.2 with ⟨e, hn⟩ | ⟨g, cap', cur, e, hb, hgg, _⟩
  · omega
  · cases e
    refine ⟨g, 0, rfl, hb, (Array.getElem?_eq_some_iff.1 hgg).1, u, ?_, ho.rows⟩
    rw [Nat.zero_add, World.ownsRow.cellAt o1 i (by omega)]
    exact hu
theorem OwnE3.keepS {B : Nat} {S : Nat → Prop} {w w' : World} {v : Value} {LL : List (List (Nat × List Int))} (h : OwnE3 B w v LL) (hk : Keep S w w') (hS : ∀ k, B ≤ k → S k) : OwnE3 B w' v LL := by
  obtain ⟨us, h1, h2, h4⟩ := h
  exact ⟨us, ownsRow_keep h1 hk hS, h2, fun i L u hL hu => FindD.OwnE.keepS (h4 i L u hL hu) hk hS⟩
theorem OwnE3.keep {B : Nat} {w w' : World} {v : Value} {LL : List (List (Nat × List Int))} (h : OwnE3 B w v LL) (hb : Below w.heap.size w w') : OwnE3 B w' v LL := h.keepS (Keep.of_below (S := fun _ => True) hb) (fun _ _ => trivial)
theorem OwnE3.mono {B B' : Nat} {w : World} {v : Value} {LL : List (List (Nat × List Int))} (h : OwnE3 B w v LL) (hB : B' ≤ B) : OwnE3 B' w v LL := by
  obtain ⟨us, h1, h2, h4⟩ := h
  exact ⟨us, ownsRow_mono h1 hB, h2, fun i L u hL hu => OwnE.mono (h4 i L u hL hu) hB⟩
theorem OwnE.apart {B B' s n : Nat} {w w' : World} {v v3 : Value} {L : List (Nat × List Int)} {us : List Value} (h : OwnE B w v L) (h3 : w.ownsRow B' 23 s v3 n us) (hg : w.grownBy w' v3.ownBlock) : OwnE B w' v L := by
  obtain ⟨us2, a1, a2, a4⟩ := h
  exact ⟨us2, a1.kept hg (rows_apart a1 h3 (by decide)), a2, fun i r u hr hu => ⟨(a4 i r u hr hu).1, World.ownsRow.kept (a4 i r u hr hu).2 hg (rows_apart (a4 i r u hr hu).2 h3 (by decide))⟩⟩
theorem OwnE3.push {B n : Nat} {w w' : World} {v v' u : Value} {LL : List (List (Nat × List Int))} {L : List (Nat × List Int)} {us : List Value} (hn : LL.length = n)
    (h1 : w.ownsRow B 23 1 v n us) (h2 : us.length = LL.length) (h4 : ∀ (i : Nat) (L : List (Nat × List Int)) (u : Value), LL[i]? = some L → us[i]? = some u → OwnE B w u L)
    (hu : OwnE B w u L) (ho : w'.ownsRow B 23 1 v' (n + 1) (us ++ [u])) (hg : w.grownBy w' v.ownBlock) : OwnE3 B w' v' (LL ++ [L]) := by
  subst hn
  refine ⟨us ++ [u], by simpa using ho, by simp [h2], fun i r' u' hr' hu' => ?_⟩
  have hown : OwnE B w u' r' := by
    rcases Nat.lt_or_ge i LL.length with hi | hi
    · rw [List.getElem?_append_left hi] at hr'
      rw [List.getElem?_append_left (by omega)] at hu'
      exact h4 i r' u' hr' hu'
    · rw [List.getElem?_append_right hi] at hr'
      rw [List.getElem?_append_right (by omega)] at hu'
      rw [h2] at hu'
      rcases hj : i - LL.length with _ | j
      · rw [hj] at hr' hu'
        simp at hr' hu'
        subst hr'; subst hu'
        exact hu
      · rw [hj] at hr'
        simp at hr'
  exact OwnE.apart hown h1 hg
def IAllR (P : Pres) (w : World) (e : Ending) (w' : World) : Prop := ∃ v k res, e = .returned (.tuple #[v, .int .i64 k]) ∧ AllV P res k ∧ (∃ LL, OwnE3 w.heap.size w' v LL ∧ LL.map (fun L => L.map (·.2)) = res ∧ D3 LL) ∧ Below w.heap.size w w'
theorem no_rows (B : Nat) (w : World) : ∃ LL, OwnE3 B w (.slice none 0 0) LL ∧ LL.map (fun L => L.map (·.2)) = [] ∧ D3 LL := ⟨[], OwnE3.nil _ _, rfl, by simp [D3]⟩

set_option maxRecDepth 100000 in
set_option maxHeartbeats 2000000 in
theorem impl_all (w : World) (vO vP vC : Value) (P : Pres) (hP : ValP Any w vO vP vC P) :
    Calls Tryz.prog 26 #[.agg #[vO, vP, vC]] w (IAllR P w) := by
  obtain ⟨i0, hinf, hz0, hz1, hz2⟩ := info_parts infoR3
  obtain ⟨W0, hW0⟩ : ∃ W0, W0 = w.alloc (.cells #[vO, vP, vC] 30) := ⟨_, rfl⟩
  have HB0 := Lib.hid (show Below (w.heap.size + 1) (w.alloc (.cells #[vO, vP, vC] 30)) W0 by rw [hW0]; exact Below.refl _ _)
  obtain ⟨⟨e0, e1, e2⟩, hk, hbw, hs⟩ := bx1 HB0.out
  have HPT := Lib.hid (show PtrP Any W0 w.heap.size 0 P from ⟨trivial, by omega, _, _, _, e0, e1, e2, hP.keep hk⟩)
  have HC := Lib.hid (ImplY.isomorphisms_any W0 w.heap.size 0 w.heap.size 0 P P HPT.out HPT.out)
  have HBW := Lib.hid hbw
  have HSS := Lib.hid hs
  clear e0 e1 e2 hk hbw hs hP
  go_enter Tryz.func26, Tryz.ntmps26
  go_upto_region 1 with fail
  rw [← hW0]
  clear hW0
  go_wp2_with fail
  refine HC.out.mono ?_
  rintro e w1 ⟨v, k, rfl, hb, h⟩
  have HB1 := Lib.hid (HBW.out.trans (hb.mono (by have := HSS.out; omega)))
  have HK1 := Lib.hid (Keep.of_below (S := Any) hb)
  clear hb
  rcases h with ⟨rfl, rfl, h⟩ | ⟨T, U, hTE, hUE, gP, -, h⟩
  · have HR := Lib.hid (show IAllR P w (.returned (.tuple #[.slice none 0 0, .int .i64 1])) w1 from ⟨_, 1, [], rfl, .inl ⟨rfl, rfl, fun h' => h ⟨h', h'⟩⟩, no_rows _ _, HB1.out⟩)
    clear h
    go_wp2_with fail
    exact bodyPost_ret (v := .tuple #[.slice none 0 0, .int .i64 1]) (by simp [results, Tryz.results26, go_sem]) rfl HR.out
  subst hTE
  obtain rfl : T = U := Grps.ofTw_inj hUE
  clear hUE
  rcases h with ⟨rfl, rfl, h⟩ | ⟨rfl, rfl, h1, h2, h3⟩ | ⟨rfl, h1, h2, F, hperm, hasc, ho⟩
  · have HR := Lib.hid (show IAllR (ofTw T) w (.returned (.tuple #[.slice none 0 0, .int .i64 3])) w1 from ⟨_, 3, [], rfl, .inr ⟨T, rfl, gP, .inl ⟨rfl, rfl, .inl (by omega)⟩⟩, no_rows _ _, HB1.out⟩)
    clear h gP
    go_wp2_with fail
    exact bodyPost_ret (v := .tuple #[.slice none 0 0, .int .i64 3]) (by simp [results, Tryz.results26, go_sem]) rfl HR.out
  · exact absurd rfl h3
  · obtain ⟨a, c, rfl, _, _⟩ := ho.form
    have HPM := Lib.hid hperm
    have HAS := Lib.hid hasc
    have HGP := Lib.hid gP
    have HO := Lib.hid ho
    have hgl := Grow.grow_length T T h2 T.length []
    have hF9 : F.length ≤ 1000000000 := by
      have h6 : 27 ^ T.length ≤ 27 ^ 6 := Nat.pow_le_pow_right (by omega) (SpecX.grp_parts gP).2.1.1
      rw [hperm.length_eq]
      omega
    clear hperm hasc ho gP hgl h1
    by_cases h200 : 200 < F.length
    · have hd : decide ((F.length : Int) > 200) = true := by simp; omega
      have HR := Lib.hid (show IAllR (ofTw T) w (.returned (.tuple #[.slice none 0 0, .int .i64 3])) w1 from ⟨_, 3, [], rfl, .inr ⟨T, rfl, HGP.out, .inl ⟨rfl, rfl, .inr (by rw [← HPM.out.length_eq]; exact h200)⟩⟩, no_rows _ _, HB1.out⟩)
      go_wp2_with fail
      exact bodyPost_ret (v := .tuple #[.slice none 0 0, .int .i64 3]) (by simp [results, Tryz.results26, go_sem]) rfl HR.out
    · have hd : decide ((F.length : Int) > 200) = false := by simp; omega
      have hF200 : F.length ≤ 200 := by omega
      obtain ⟨hU, hsU, hgU, hpU⟩ := SpecX.grp_parts HGP.out
      have HEL := Lib.hid (fun W u f (hp : PtrP Any W w.heap.size 0 (ofTw T)) (hu : SlI Any W u (ints f)) (hf : f ∈ Grow.grow T T T.length []) => elementsAt_any T hU hsU.1 (grp_sz' HGP.out) W w.heap.size 0 hp u f hu (by have := ImplY.grow_rows _ _ _ hf; have := hsU.1; simp at *; omega) (fun q hq => by have := grow_lt hU _ _ (by simp) f hf q hq; omega))
      clear h200 hF9 hU hsU hgU hpU
      go_wp2_with fail
      go_loopw [6, 21] (fun ov iv wr => ∃ (i : Nat) (LL : List (List (Nat × List Int))), i ≤ F.length ∧ iv = .int .i64 (i : Int) ∧ Hid (OwnE3 w1.heap.size wr ov LL ∧ LL.map (fun L => L.map (·.2)) = (F.take i).map (fun f => f.map fun q => ints (at_ T q)) ∧ D3 LL) ∧ Hid (Below w1.heap.size w1 wr)) (fun _ iv _ => F.length - (intOf iv).toNat)
      case atStart => exact ⟨0, [], Nat.zero_le _, rfl, Lib.hid ⟨OwnE3.nil _ _, by simp, by simp [D3]⟩, Lib.hid (Below.refl _ _)⟩
      case round =>
        obtain ⟨i, LL, hi, rfl, hOo, hBB⟩ := hrel
        by_cases hlt : i < F.length
        · obtain ⟨f, hf⟩ : ∃ f, F[i]? = some f := ⟨_, List.getElem?_eq_getElem hlt⟩
          obtain ⟨g, cap, uf, e1, _, hgl, hcf, hrow⟩ := HO.out.at hf
          simp only [Value.slice.injEq] at e1
          obtain ⟨rfl, -, rfl⟩ := e1
          have hcr := (hBB.out.cell (p := ⟨g, i, none⟩) hgl).trans hcf
          have HK := Lib.hid (Keep.of_below (S := Any) hBB.out)
          have HEI := Lib.hid (HEL.out wr uf f (HPT.out.keep (HK1.out.trans HK.out)) ((hrow.sl.mono (fun _ _ => trivial)).keep HK.out) (HPM.out.mem_iff.1 (List.mem_of_getElem? hf)))
          have HTK := Lib.hid (show F.take (i + 1) = F.take i ++ [f] from take_succ hf)
          have hLk : LL.length = i := by
            have := congrArg List.length hOo.out.2.1
            rw [List.length_map, List.length_map, List.length_take] at this
            omega
          have HLK := Lib.hid hLk
          have hil : (i : Int) < (F.length : Int) := by omega
          clear hf hcf hrow hLk
          go_wp2_with fail
          refine HEI.out.mono ?_
          rintro e w3 ⟨v3, rfl, ⟨L, hL, hLr, hLd⟩, hb3⟩
          obtain ⟨a3, c3, rfl, _, _, _⟩ := hL.form
          have HB3 := Lib.hid (hBB.out.trans (hb3.mono hBB.out.size))
          have HBW3 := Lib.hid (HB1.out.trans (HB3.out.mono HB1.out.size))
          have HWR := Lib.hid (show w1.heap.size ≤ wr.heap.size from hBB.out.size)
          have HLL := Lib.hid (hOo.out.1.lt)
          have HLN := Lib.hid hL.lt
          have HLO := Lib.hid (OwnE.mono hL HWR.out)
          have HREST := Lib.hid hOo.out.2
          have HLR := Lib.hid (And.intro hLr hLd)
          obtain ⟨us, h1, h2, h4⟩ := hOo.out.1.keep hb3
          have HU := Lib.hid (And.intro h2 h4)
          rw [HLK.out] at h1
          clear hL hLr hLd hb3 h2 h4 hOo
          go_wp2_with (at_builtin; (refine wpList_append_own _ rfl _ _ 24 rfl w1.heap.size 23 i0 (.slice none 0 0) 1 24 Tryz.underlying24 hinf hz0 hz1 hz2 rfl (by decide) _ _ _ rfl (h1.alloc _) ⟨w3.heap.size, 0, none⟩ 1 1 [.slice a3 L.length c3] rfl rfl ?c1 ?c2 ?c3 ?c4 ?c5 ?_))
          case c1 =>
            intro j u hj
            match j, hj with
            | 0, hj => simp at hj; subst hj; simp [Addr.add]
          case c2 => intro u hu; simp at hu; subst hu; rfl
          case c3 => unfold maxLen; omega
          case c4 => omega
          case c5 => have := HB3.out.size; simp; omega
          · intro v' w4 hown hgrow _
            have HN2 := Lib.hid (show OwnE3 w1.heap.size w4 v' (LL ++ [L]) ∧ (LL ++ [L]).map (fun L => L.map (·.2)) = (F.take (i + 1)).map (fun f => f.map fun q => ints (at_ T q)) ∧ D3 (LL ++ [L]) from by
              refine ⟨OwnE3.push (w := w3.alloc _) (us := us) HLK.out (h1.alloc _) HU.out.1 (fun i p u hp hu => (HU.out.2 i p u hp hu).keep ((Below.refl _ _).alloc (Nat.le_refl _) _)) (HLO.out.keep ((Below.refl _ _).alloc (Nat.le_refl _) _)) hown hgrow, ?_, ?_, ?_⟩
              · rw [HTK.out, List.map_append, List.map_append, HREST.out.1, List.map_cons, List.map_nil, HLR.out.1]; rfl
              · intro A hA
                rcases List.mem_append.1 hA with h | h
                · exact HREST.out.2.1 A h
                · rw [List.mem_singleton.1 h]; exact HLR.out.2
              · refine List.pairwise_append.2 ⟨HREST.out.2.2, by simp, fun A hA C hC a ha b hb => ?_⟩
                rw [List.mem_singleton.1 hC] at hb
                have h1 := (HLL.out A hA a ha).2
                have h2 := (HLN.out b hb).1
                omega)
            have HB4 := Lib.hid (show Below w1.heap.size w1 w4 from (HB3.out.alloc (by have := HB3.out.size; omega) _).grown hgrow (by simp; have := HB3.out.size; omega) (fun g hg => (World.ownsRow.lt h1 g hg).1))
            clear hown hgrow h1 HU
            go_wp2_with fail
            go_roundw
            case rel => exact ⟨i + 1, _, by omega, by go_num, HN2, HB4⟩
            case measure => simp [intOf]; omega
        · obtain rfl : i = F.length := by omega
          have hdl : decide ((F.length : Int) < (F.length : Int)) = false := by simp
          have HR := Lib.hid (show IAllR (ofTw T) w (.returned (.tuple #[u6, .int .i64 0])) wr from ⟨_, 0, _, rfl, .inr ⟨T, rfl, HGP.out, .inr ⟨rfl, h2, by rw [← HPM.out.length_eq]; exact hF200, F, HPM.out, HAS.out, rfl⟩⟩, ⟨LL, hOo.out.1.mono HB1.out.size, by have h := hOo.out.2.1; rwa [List.take_length] at h, hOo.out.2.2⟩, HB1.out.trans (hBB.out.mono HB1.out.size)⟩)
          clear hOo
          go_wp2_with fail
          exact bodyPost_ret (v := .tuple #[u6, .int .i64 0]) (by simp [results, Tryz.results26, go_sem]) rfl HR.out
end Go.Proofs.YtabeedimnbkcgaaGreat.AllC
