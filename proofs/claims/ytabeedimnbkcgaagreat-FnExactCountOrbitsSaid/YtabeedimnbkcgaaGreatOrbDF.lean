import Derived.Test.YtabeedimnbkcgaaGreatOrbAC
import Derived.Test.YtabeedimnbkcgaaGreatInsA
/-
  An orbit that grows: ascending rows, each once; owned rows with one more at a place.
-/
namespace Go.Proofs.YtabeedimnbkcgaaGreat.OrbD
open Go.RowKit Go.Proofs.YtabeedimnbkcgaaGreat Go.Proofs.YtabeedimnbkcgaaGreat.Tow Go.Proofs.YtabeedimnbkcgaaGreat.Val Go.Proofs.YtabeedimnbkcgaaGreat.NumT Go.Proofs.YtabeedimnbkcgaaGreat.GenD Go.Proofs.YtabeedimnbkcgaaGreat.SpecB Go.Proofs.YtabeedimnbkcgaaGreat.SpecR Go.Proofs.YtabeedimnbkcgaaGreat.Cmp Go.Proofs.YtabeedimnbkcgaaGreat.Srt Go.Proofs.YtabeedimnbkcgaaGreat.Ord Go.Proofs.YtabeedimnbkcgaaGreat.BinS Go.Proofs.YtabeedimnbkcgaaGreat.FindA Go.Proofs.YtabeedimnbkcgaaGreat.AllA Go.Proofs.YtabeedimnbkcgaaGreat.OrbB Go.Proofs.YtabeedimnbkcgaaGreat.OrbC
set_option linter.unusedVariables false
set_option linter.unusedSimpArgs false

/-- the orbit under way: ascending rows, each once, those that were seen -/
def OrbI (rows ims : List (List Nat)) : Prop := Asc rows ∧ rows.Nodup ∧ ∀ y, y ∈ rows ↔ y ∈ ims
theorem OrbI.nil : OrbI [] [] := ⟨List.Pairwise.nil, List.nodup_nil, fun y => Iff.rfl⟩
theorem OrbI.yes {rows ims : List (List Nat)} {i : Nat} {y : List Nat} (h : OrbI rows ims) (hf : Fnd rows y i true) : OrbI rows (ims ++ [y]) := by
  refine ⟨h.1, h.2.1, fun z => ?_⟩
  rw [List.mem_append, List.mem_singleton, h.2.2 z]
  refine ⟨.inl, fun hz => hz.elim id fun e => ?_⟩
  subst e
  exact (h.2.2 z).1 (List.mem_of_getElem? (hf.1 rfl))
theorem OrbI.no {rows ims : List (List Nat)} {i n : Nat} {y : List Nat} (h : OrbI rows ims) (hl : ∀ r ∈ rows, r.length = n) (hyl : y.length = n) (hp : Pos rows y i) (hf : Fnd rows y i false) : OrbI (rows.take i ++ y :: rows.drop i) (ims ++ [y]) := by
  have hny : y ∉ rows := fun hy => by
    obtain ⟨k, hk⟩ := List.getElem?_of_mem hy
    rcases Nat.lt_trichotomy k i with c | c | c
    · have := hp.2.1 k y c hk
      rw [cmpL_self] at this
      omega
    · subst c
      exact Bool.noConfusion (hf.2 hk)
    · have hkl := (List.getElem?_eq_some_iff.1 hk).1
      obtain ⟨r, hr⟩ : ∃ r, rows[i]? = some r := ⟨_, List.getElem?_eq_getElem (by omega)⟩
      have h1 := hp.2.2 i r (Nat.le_refl _) hr
      have h2 := asc_get h.1 c hr hk
      have e : r = y := cmpL_eq r y (by rw [hl r (List.mem_of_getElem? hr), hyl]) h1 h2
      subst e
      exact Bool.noConfusion (hf.2 hr)
  have hpm : (rows.take i ++ y :: rows.drop i).Perm (y :: rows) := by
    have := @List.perm_middle _ y (rows.take i) (rows.drop i)
    rwa [List.take_append_drop] at this
  refine ⟨?_, hpm.nodup_iff.2 (List.nodup_cons.2 ⟨hny, h.2.1⟩), fun z => ?_⟩
  · have hA : (rows.take i ++ rows.drop i).Pairwise (fun a b => ¬ cmpL b a < 0) := by rw [List.take_append_drop]; exact h.1
    obtain ⟨h1, h2, h3⟩ := List.pairwise_append.1 hA
    refine List.pairwise_append.2 ⟨h1, List.pairwise_cons.2 ⟨fun b hb => ?_, h2⟩, fun a ha b hb => ?_⟩
    · obtain ⟨k, hk⟩ := List.getElem?_of_mem hb
      rw [List.getElem?_drop] at hk
      exact hp.2.2 (i + k) b (by omega) hk
    · rcases List.mem_cons.1 hb with e | e
      · subst e
        intro hc
        obtain ⟨k, hk⟩ := List.getElem?_of_mem ha
        rw [List.getElem?_take] at hk
        split at hk
        · next hki =>
          have h4 := hp.2.1 k a hki hk
          have := cmpL_trans a b a (by rw [hl a (List.mem_of_getElem? hk), hyl]) (by rw [hl a (List.mem_of_getElem? hk), hyl]) h4 hc
          rw [cmpL_self] at this
          omega
        · cases hk
      · exact h3 a ha b e
  · rw [hpm.mem_iff, List.mem_cons, List.mem_append, List.mem_singleton, h.2.2 z]
    exact Or.comm
theorem OrbI.len {rows ims : List (List Nat)} {n : Nat} (h : OrbI rows ims) (hl : ∀ r ∈ ims, r.length = n) : ∀ r ∈ rows, r.length = n := fun r hr => hl r ((h.2.2 r).1 hr)
theorem nodup_lt : ∀ (n : Nat) (l : List Nat), l.Nodup → (∀ t ∈ l, t < n) → l.length ≤ n
  | 0, l, _, h => by
    cases l with
    | nil => exact Nat.le_refl _
    | cons a l => exact absurd (h a List.mem_cons_self) (Nat.not_lt_zero _)
  | n + 1, l, hn, h => by
    by_cases hm : n ∈ l
    · have h1 := nodup_lt n (l.erase n) (hn.erase n) fun t ht => by
        have h2 := (hn.mem_erase_iff).1 ht
        have := h t h2.2
        omega
      rw [List.length_erase_of_mem hm] at h1
      omega
    · have h1 := nodup_lt n l hn fun t ht => by
        have h2 := h t ht
        have : t ≠ n := fun e => hm (e ▸ ht)
        omega
      omega
theorem OrbI.small {T : Tw} (hT : Wf T) {rows ims : List (List Nat)} (h : OrbI rows ims) (hl : ∀ r ∈ ims, El T r) : rows.length ≤ sz T := by
  have h2 : (rows.map (num T)).Nodup := by
    refine List.pairwise_map.2 (List.Pairwise.imp_of_mem (R := fun a b => a ≠ b) ?_ h.2.1)
    intro a b ha hb hne e
    exact hne (num_inj hT (hl a ((h.2.2 a).1 ha)) (hl b ((h.2.2 b).1 hb)) e)
  have h3 := nodup_lt (sz T) (rows.map (num T)) h2 fun t ht => by
    obtain ⟨r, hr, rfl⟩ := List.mem_map.1 ht
    exact num_lt (hl r ((h.2.2 r).1 hr)) hT
  simpa using h3
/-- when all maps were taken, the rows are the orbit -/
theorem OrbI.done {T : Tw} (hT : Wf T) {rows F : List (List Nat)} {x : List Nat} (hF : F.Perm (Grow.grow T T T.length [])) (h : OrbI rows (F.map fun f => prodL (mul T) (Tow.one T) (f.map (at_ T)) x)) :
    rows = (nums (orb T x) (sz T)).map (at_ T) := by
  have hE : ∀ r ∈ F.map (fun f => prodL (mul T) (Tow.one T) (f.map (at_ T)) x), El T r := fun r hr => by
    obtain ⟨f, _, rfl⟩ := List.mem_map.1 hr
    exact prodL_inv (El T) (mul T) (fun _ _ p q => El_mul hT p q) _ (fun c hc => by obtain ⟨i, _, rfl⟩ := List.mem_map.1 hc; exact at_El hT i) _ _ (El_one hT)
  have hn : (nums (orb T x) (sz T)).Pairwise (fun a b => a < b) := List.Pairwise.filter _ List.pairwise_lt_range
  have hlt : ∀ t ∈ nums (orb T x) (sz T), t < sz T := fun t ht => List.mem_range.1 (List.mem_filter.1 ht).1
  refine asc_one (n := T.length) (h.len fun r hr => El_length (hE r hr)) ?_ h.1 ?_
  · refine (List.perm_ext_iff_of_nodup h.2.1 ?_).2 fun y => ?_
    · refine List.pairwise_map.2 (List.Pairwise.imp_of_mem (R := fun a b => a < b) ?_ hn)
      intro a b ha hb hab e
      have := at_inj (hlt a ha) (hlt b hb) e
      omega
    · rw [h.2.2 y, List.mem_map, List.mem_map]
      constructor
      · rintro ⟨f, hf, rfl⟩
        have hy := hE _ (List.mem_map.2 ⟨f, hf, rfl⟩)
        refine ⟨_, List.mem_filter.2 ⟨List.mem_range.2 (num_lt hy hT), ?_⟩, at_num hT hy⟩
        unfold orb
        exact decide_eq_true ⟨f, hF.mem_iff.1 hf, rfl⟩
      · rintro ⟨t, ht, rfl⟩
        have h2 := (List.mem_filter.1 ht).2
        unfold orb at h2
        obtain ⟨f, hf, hft⟩ := of_decide_eq_true h2
        refine ⟨f, hF.mem_iff.2 hf, ?_⟩
        rw [← hft]
        exact (at_num hT (hE _ (List.mem_map.2 ⟨f, hF.mem_iff.2 hf, rfl⟩))).symm
  · refine List.pairwise_map.2 (List.Pairwise.imp_of_mem (R := fun a b => a < b) ?_ hn)
    intro a b ha hb hab
    rw [cmp_at T hT, Nat.mod_eq_of_lt (hlt a ha), Nat.mod_eq_of_lt (hlt b hb)]
    unfold c3
    rw [if_neg (by omega), if_pos hab]
    omega

/-- owned rows, with one more at a place -/
theorem OwnE.ins {B i n : Nat} {w w' : World} {v v' u : Value} {L : List (Nat × List Int)} {p : Nat × List Int} {us : List Value} (hn : L.length = n) (hi : i ≤ n)
    (h1 : w.ownsRow B 22 1 v n us) (h2 : us.length = L.length) (h4 : ∀ (i : Nat) (p : Nat × List Int) (u : Value), L[i]? = some p → us[i]? = some u → (∃ c, u = .slice (some ⟨p.1, 0, none⟩) p.2.length c) ∧ Own B w u p.2)
    (hu : (∃ c, u = .slice (some ⟨p.1, 0, none⟩) p.2.length c) ∧ Own B w u p.2) (ho : w'.ownsRow B 22 1 v' (n + 1) (us.take i ++ u :: us.drop i)) (hg : w.grownBy w' v.ownBlock) : OwnE B w' v' (L.take i ++ p :: L.drop i) := by
  subst hn
  have hl : (L.take i ++ p :: L.drop i).length = L.length + 1 := by simp; omega
  refine ⟨us.take i ++ u :: us.drop i, by rw [hl]; exact ho, by simp; omega, fun j r' u' hr' hu' => ?_⟩
  have hown : (∃ c, u' = .slice (some ⟨r'.1, 0, none⟩) r'.2.length c) ∧ Own B w u' r'.2 := by
    rcases Nat.lt_trichotomy j i with c | c | c
    · rw [List.getElem?_append_left (by rw [List.length_take]; omega), List.getElem?_take, if_pos c] at hr' hu'
      exact h4 j r' u' hr' hu'
    · subst c
      rw [List.getElem?_append_right (by rw [List.length_take]; omega), List.length_take, show j - min j L.length = 0 by omega] at hr'
      rw [List.getElem?_append_right (by rw [List.length_take]; omega), List.length_take, show j - min j us.length = 0 by omega] at hu'
      simp at hr' hu'
      subst hr'; subst hu'
      exact hu
    · rw [List.getElem?_append_right (by rw [List.length_take]; omega), List.length_take, show j - min i L.length = (j - i - 1) + 1 by omega, List.getElem?_cons_succ, List.getElem?_drop, show i + (j - i - 1) = j - 1 by omega] at hr'
      rw [List.getElem?_append_right (by rw [List.length_take]; omega), List.length_take, show j - min i us.length = (j - i - 1) + 1 by omega, List.getElem?_cons_succ, List.getElem?_drop, show i + (j - i - 1) = j - 1 by omega] at hu'
      exact h4 (j - 1) r' u' hr' hu'
  exact ⟨hown.1, World.ownsRow.kept hown.2 hg (rows_apart hown.2 h1 (by decide))⟩
theorem ins_map {α β : Type} (f : α → β) (L : List α) (p : α) (i : Nat) : (L.take i ++ p :: L.drop i).map f = (L.map f).take i ++ f p :: (L.map f).drop i := by
  rw [List.map_append, List.map_cons, List.map_take, List.map_drop]
theorem ins_nodup {L : List (Nat × List Int)} {p : Nat × List Int} (h : (L.map (·.1)).Nodup) (hp : ∀ q ∈ L, q.1 ≠ p.1) (i : Nat) : ((L.take i ++ p :: L.drop i).map (·.1)).Nodup := by
  have hpm : ((L.take i ++ p :: L.drop i)).Perm (p :: L) := by
    have := @List.perm_middle _ p (L.take i) (L.drop i)
    rwa [List.take_append_drop] at this
  refine (hpm.map (·.1)).nodup_iff.2 (List.nodup_cons.2 ⟨fun hm => ?_, h⟩)
  obtain ⟨q, hq, e⟩ := List.mem_map.1 hm
  exact hp q hq e
end Go.Proofs.YtabeedimnbkcgaaGreat.OrbD

/-
  impl.orbitOf.
-/
namespace Go.Proofs.YtabeedimnbkcgaaGreat.OrbE
open Go.RowKit Go.Proofs.YtabeedimnbkcgaaGreat Go.Proofs.YtabeedimnbkcgaaGreat.Tow Go.Proofs.YtabeedimnbkcgaaGreat.Val Go.Proofs.YtabeedimnbkcgaaGreat.NumT Go.Proofs.YtabeedimnbkcgaaGreat.GenD Go.Proofs.YtabeedimnbkcgaaGreat.SpecB Go.Proofs.YtabeedimnbkcgaaGreat.SpecR Go.Proofs.YtabeedimnbkcgaaGreat.Cmp Go.Proofs.YtabeedimnbkcgaaGreat.Srt Go.Proofs.YtabeedimnbkcgaaGreat.Ord Go.Proofs.YtabeedimnbkcgaaGreat.BinS Go.Proofs.YtabeedimnbkcgaaGreat.FindA Go.Proofs.YtabeedimnbkcgaaGreat.FindD Go.Proofs.YtabeedimnbkcgaaGreat.AllA Go.Proofs.YtabeedimnbkcgaaGreat.OrbB Go.Proofs.YtabeedimnbkcgaaGreat.OrbC Go.Proofs.YtabeedimnbkcgaaGreat.OrbD
set_option linter.unusedVariables false
set_option linter.unusedSimpArgs false

set_option maxRecDepth 100000 in
set_option maxHeartbeats 2000000 in
theorem orbitOf_any (T : Tw) (hT : Wf T) (hs : Small T) (hg : Tow.Good T) (hz : sz T ≤ 27) (B : Nat) (w : World) (b o : Nat) (hP : PtrP Any w b o (ofTw T)) (vF vx : Value) (F : List (List Nat)) (x : List Nat) (hF : Own2 71 3 B w vF F) (hperm : F.Perm (Grow.grow T T T.length []))
    (hx : SlI Any w vx (ints x)) (hxE : El T x) (hF9 : F.length ≤ 1000000000) :
    Calls Tryz.prog 71 #[.pointer (some ⟨b, o, none⟩), vF, vx] w (EltR ((nums (orb T x) (sz T)).map fun t => ints (at_ T t)) w) := by
  obtain ⟨aF, cF, rfl, _, _⟩ := hF.form
  have HP := Lib.hid hP
  have HF := Lib.hid hF
  have HX := Lib.hid hx
  have HT := Lib.hid hT
  have HPM := Lib.hid hperm
  have HFR := Lib.hid (show ∀ f ∈ F, f.length = T.length ∧ ∀ q ∈ f, q < sz T from fun f hf => ⟨by simpa using ImplY.grow_rows _ _ _ (hperm.mem_iff.1 hf), FindB.grow_lt hT _ _ (by simp) f (hperm.mem_iff.1 hf)⟩)
  have hxl := El_length hxE
  have hx6 : ∀ a ∈ x, a ≤ 6 := fun a ha => by
    obtain ⟨j, hj⟩ := List.getElem?_of_mem ha
    have := hs.lt (s := 0) (x := x) hxE (Nat.zero_le _) hj
    omega
  have HIE := Lib.hid (fun f : List Nat => show El T (prodL (mul T) (Tow.one T) (f.map (at_ T)) x) from prodL_inv (El T) (mul T) (fun _ _ p q => El_mul hT p q) _ (fun c hc => by obtain ⟨i, _, rfl⟩ := List.mem_map.1 hc; exact at_El hT i) _ _ (El_one hT))
  have HEL := Lib.hid (fun W u (f : List Nat) (hp : PtrP Any W b o (ofTw T)) (hu : SlI Any W u (ints f)) (hf : f.length = T.length) (hq : ∀ q ∈ f, q < sz T) => elementsAt_any T hT hs.1 (by omega) W b o hp u f hu (by have := hs.1; omega) (fun q h => by have := hq q h; omega))
  have HAP := Lib.hid (fun W u (f : List Nat) (hp : PtrP Any W b o (ofTw T)) (hu : Sl2 Any W u (f.map fun q => ints (at_ T q))) (hx : SlI Any W vx (ints x)) (hf : f.length = T.length) => OrbA.apply_any T hT hs hg W b o hp u vx (f.map (at_ T)) x (by rw [List.map_map]; exact hu) hx (fun c hc => by obtain ⟨i, _, rfl⟩ := List.mem_map.1 hc; exact at_El hT i) (by rw [List.length_map]; omega) (by have := hs.1; omega) hx6)
  have hT6 := hs.1
  clear hP hF hx hperm hT hs hg hxE hx6
  go_enter Tryz.func71, Tryz.ntmps71
  go_wp2_with fail
  go_loopw [7, 15] (fun ov iv wr => ∃ (i : Nat) (L : List (Nat × List Int)) (rows : List (List Nat)), i ≤ F.length ∧ iv = .int .i64 (i : Int) ∧ Hid (OwnE w.heap.size wr ov L ∧ L.map (·.2) = rows.map ints ∧ (L.map (·.1)).Nodup ∧ OrbI rows ((F.take i).map fun f => prodL (mul T) (Tow.one T) (f.map (at_ T)) x)) ∧ Hid (Below w.heap.size w wr)) (fun _ iv _ => F.length - (intOf iv).toNat)
  case atStart => exact ⟨0, [], [], Nat.zero_le _, rfl, Lib.hid ⟨OwnE.nil _ _, rfl, by simp, OrbI.nil⟩, Lib.hid (Below.refl _ _)⟩
  case round =>
    obtain ⟨i, L, rows, hi, rfl, hO, hBB⟩ := hrel
    by_cases hlt : i < F.length
    · obtain ⟨f, hf⟩ : ∃ f, F[i]? = some f := ⟨_, List.getElem?_eq_getElem hlt⟩
      obtain ⟨g, cap, uf, e1, _, hgl, hcf, hrow⟩ := HF.out.at hf
      simp only [Value.slice.injEq] at e1
      obtain ⟨rfl, -, rfl⟩ := e1
      have hcr := (hBB.out.cell (p := ⟨g, i, none⟩) hgl).trans hcf
      have HK := Lib.hid (Keep.of_below (S := Any) hBB.out)
      obtain ⟨hfl, hfq⟩ := HFR.out f (List.mem_of_getElem? hf)
      have HEI := Lib.hid (HEL.out wr uf f (HP.out.keep HK.out) ((hrow.sl.mono (fun _ _ => trivial)).keep HK.out) hfl hfq)
      have HFL := Lib.hid hfl
      have HTK := Lib.hid (show (F.take (i + 1)).map (fun f => prodL (mul T) (Tow.one T) (f.map (at_ T)) x) = (F.take i).map (fun f => prodL (mul T) (Tow.one T) (f.map (at_ T)) x) ++ [prodL (mul T) (Tow.one T) (f.map (at_ T)) x] from by rw [take_succ hf, List.map_append]; rfl)
      have hLk : L.length = rows.length := by
        have := congrArg List.length hO.out.2.1
        rwa [List.length_map, List.length_map] at this
      have hlims : ∀ r ∈ (F.take i).map (fun f => prodL (mul T) (Tow.one T) (f.map (at_ T)) x), El T r := fun r hr => by
        obtain ⟨f, _, rfl⟩ := List.mem_map.1 hr
        exact HIE.out f
      have HRL := Lib.hid (hO.out.2.2.2.len (n := T.length) (fun r hr => El_length (hlims r hr)))
      have hr27 : rows.length ≤ 27 := Nat.le_trans (hO.out.2.2.2.small HT.out hlims) hz
      have HLK := Lib.hid hLk
      obtain ⟨y, hy⟩ : ∃ y, prodL (mul T) (Tow.one T) (f.map (at_ T)) x = y := ⟨_, rfl⟩
      have HYL := Lib.hid (show y.length = T.length from by rw [← hy]; exact El_length (HIE.out f))
      rw [hy] at HTK
      have HAY := Lib.hid (fun W u h1 h2 h3 => (show Calls _ _ _ _ (NewS (ints y) W) from by have h := HAP.out W u f h1 h2 h3 HFL.out; rwa [hy] at h))
      clear hf hcf hrow hLk hlims hfl hfq hy
      go_wp2_with fail
      refine HEI.out.mono ?_
      rintro e w3 ⟨v3, rfl, ⟨L3, hL3, hL3r, -⟩, hb3⟩
      have HB3 := Lib.hid (hBB.out.trans (hb3.mono hBB.out.size))
      have HS3 := Lib.hid (show Sl2 Any w3 v3 (f.map fun q => ints (at_ T q)) from by have h := Rows2.sl2 hL3.rows; rwa [hL3r] at h)
      have HO3 := Lib.hid (hO.out.1.keep hb3)
      have HREST := Lib.hid hO.out.2
      have HLT := Lib.hid hO.out.1.lt
      have HWR := Lib.hid (show w.heap.size ≤ wr.heap.size from hBB.out.size)
      have H3S := Lib.hid hb3.size
      clear hL3 hL3r hb3 hO
      have HAI := Lib.hid (HAY.out w3 v3 (HP.out.keep (Keep.of_below HB3.out)) HS3.out (HX.out.keep (Keep.of_below HB3.out)))
      go_wp2_with fail
      refine HAI.out.mono ?_
      rintro e w4 ⟨g4, c4, rfl, ho4, hb4⟩
      have HB4 := Lib.hid (HB3.out.trans (hb4.mono HB3.out.size))
      have HG4 := Lib.hid (show wr.heap.size ≤ g4 from Nat.le_trans H3S.out ho4.lt.1)
      have HO4 := Lib.hid (HO3.out.keep hb4)
      have HY4 := Lib.hid (ho4.mono (B' := w.heap.size) HB3.out.size)
      obtain ⟨aL, cL, rfl, _, _, _⟩ := HO4.out.form
      have HSE := Lib.hid (search_any w4 (.slice aL L.length cL) (.slice (some ⟨g4, 0, none⟩) (ints y).length c4) rows y T.length (by have h := Rows2.sl2 HO4.out.rows; rwa [HREST.out.1] at h) (ho4.sl.mono (fun _ _ => trivial)) HREST.out.2.2.1 HRL.out HYL.out (by omega) (by omega))
      clear ho4 hb4
      go_wp2_with fail
      refine HSE.out.mono ?_
      rintro e w5 ⟨p, bb, rfl, hpos, hfnd, rfl⟩
      cases bb with
      | true =>
        have HN := Lib.hid (show OwnE w.heap.size w4 (.slice aL L.length cL) L ∧ L.map (·.2) = rows.map ints ∧ (L.map (·.1)).Nodup ∧ OrbI rows ((F.take (i + 1)).map fun f => prodL (mul T) (Tow.one T) (f.map (at_ T)) x) from ⟨HO4.out, HREST.out.1, HREST.out.2.1, by rw [HTK.out]; exact OrbI.yes HREST.out.2.2 hfnd⟩)
        clear hpos hfnd
        go_wp2_with fail
        go_roundw
        case rel => exact ⟨i + 1, L, rows, by omega, by go_num, HN, HB4⟩
        case measure => simp [intOf]; omega
      | false =>
        have hpl : p ≤ L.length := by have := hpos.1; have := HLK.out; omega
        have HPO := Lib.hid hpos
        have HFN := Lib.hid hfnd
        clear hpos hfnd
        obtain ⟨us, h1, h2, h4⟩ := HO4.out
        have HU := Lib.hid (And.intro h2 h4)
        have HIN := Lib.hid (Ins.insert_any w.heap.size p L.length w4.heap.size (w4.alloc (.cells #[.slice (some ⟨g4, 0, none⟩) (ints y).length c4] 22)) (.slice aL L.length cL) (.slice (some ⟨g4, 0, none⟩) (ints y).length c4) us (h1.alloc _) (heap_alloc_new _ _) (fun v hv => by
          obtain ⟨j, hj, rfl⟩ := List.getElem_of_mem hv
          obtain ⟨⟨c, hc⟩, _⟩ := h4 j L[j] us[j] (List.getElem?_eq_getElem _) (List.getElem?_eq_getElem _)
          rw [hc]; rfl) rfl hpl (by have := HLK.out; omega) (by have := HB4.out.size; simp; omega) (fun e => by have := (World.ownsRow.lt h1 _ e).2; omega))
        clear h2 h4
        go_wp2_with fail
        refine HIN.out.mono ?_
        rintro e w6 ⟨v6, rfl, hown, hgrow⟩
        have HN := Lib.hid (show OwnE w.heap.size w6 v6 (L.take p ++ (g4, ints y) :: L.drop p) ∧ (L.take p ++ (g4, ints y) :: L.drop p).map (·.2) = (rows.take p ++ y :: rows.drop p).map ints ∧ ((L.take p ++ (g4, ints y) :: L.drop p).map (·.1)).Nodup ∧ OrbI (rows.take p ++ y :: rows.drop p) ((F.take (i + 1)).map fun f => prodL (mul T) (Tow.one T) (f.map (at_ T)) x) from by
          refine ⟨OwnE.ins (w := w4.alloc _) (us := us) rfl hpl (h1.alloc _) HU.out.1 (fun i q u hq hu => ⟨(HU.out.2 i q u hq hu).1, (HU.out.2 i q u hq hu).2.alloc _⟩) ⟨⟨c4, rfl⟩, HY4.out.alloc _⟩ hown hgrow, ?_, ?_, ?_⟩
          · rw [ins_map, ins_map, HREST.out.1]
          · refine ins_nodup HREST.out.2.1 (fun q hq => ?_) p
            have h1 := (HLT.out q hq).2
            have h2 := HG4.out
            show q.1 ≠ g4
            omega
          · rw [HTK.out]
            exact OrbI.no HREST.out.2.2 HRL.out HYL.out HPO.out HFN.out)
        have HB6 := Lib.hid (show Below w.heap.size w w6 from (HB4.out.alloc (by have := HB4.out.size; omega) _).grown hgrow (by simp; have := HB4.out.size; omega) (fun g hg => (World.ownsRow.lt h1 g hg).1))
        clear hown hgrow h1 HU
        go_wp2_with fail
        go_roundw
        case rel => exact ⟨i + 1, _, _, by omega, by go_num, HN, HB6⟩
        case measure => simp [intOf]; omega
    · obtain rfl : i = F.length := by omega
      have HR := Lib.hid (show EltR ((nums (orb T x) (sz T)).map fun t => ints (at_ T t)) w (.returned u7) wr from by
        refine ⟨_, rfl, ⟨L, hO.out.1, ?_, hO.out.2.2.1⟩, hBB.out⟩
        have h := hO.out.2.2.2
        rw [List.take_length] at h
        rw [hO.out.2.1, OrbI.done HT.out HPM.out h, List.map_map]
        rfl)
      clear hO hBB
      go_wp2_with fail
      go_ret
      exact HR.out
end Go.Proofs.YtabeedimnbkcgaaGreat.OrbE

/-
  impl.ElementOrbit; what its law has in memory.
-/
namespace Go.Proofs.YtabeedimnbkcgaaGreat.OrbF
open Go.RowKit Go.Proofs.YtabeedimnbkcgaaGreat Go.Proofs.YtabeedimnbkcgaaGreat.Tow Go.Proofs.YtabeedimnbkcgaaGreat.Val Go.Proofs.YtabeedimnbkcgaaGreat.NumT Go.Proofs.YtabeedimnbkcgaaGreat.GenD Go.Proofs.YtabeedimnbkcgaaGreat.SpecB Go.Proofs.YtabeedimnbkcgaaGreat.SpecR Go.Proofs.YtabeedimnbkcgaaGreat.LawE Go.Proofs.YtabeedimnbkcgaaGreat.LawF Go.Proofs.YtabeedimnbkcgaaGreat.LawN Go.Proofs.YtabeedimnbkcgaaGreat.LawC Go.Proofs.YtabeedimnbkcgaaGreat.Mark Go.Proofs.YtabeedimnbkcgaaGreat.Cmp Go.Proofs.YtabeedimnbkcgaaGreat.Srt Go.Proofs.YtabeedimnbkcgaaGreat.Ord Go.Proofs.YtabeedimnbkcgaaGreat.FindA Go.Proofs.YtabeedimnbkcgaaGreat.FindB Go.Proofs.YtabeedimnbkcgaaGreat.FindD Go.Proofs.YtabeedimnbkcgaaGreat.Elt Go.Proofs.YtabeedimnbkcgaaGreat.OrbB Go.Proofs.YtabeedimnbkcgaaGreat.OrbC
set_option linter.unusedVariables false
set_option linter.unusedSimpArgs false

theorem El_tail {T : Tw} {x : List Nat} (h : El T x) : TailV (ofTw T).os 0 (ints x) := by
  refine ⟨by rw [ints_length, ofTw_os, El_length h], fun j y q hy hq => ?_⟩
  rw [ints_get, Option.map_eq_some_iff] at hy
  obtain ⟨a, ha, rfl⟩ := hy
  obtain ⟨L, hL, hlt⟩ := El_lt h ha
  rw [ofTw_os_get T j L hL] at hq
  cases hq
  exact ⟨by simp, by simp; omega, fun h => absurd h (Nat.not_lt_zero _)⟩
theorem orb_one {P : Pres} {l : List Int} {r r' : List (List Int)} {k k' : Int} (h : OrbV P l r k) (h' : OrbV P l r' k') : r' = r ∧ k' = k := by
  rcases h with ⟨rfl, rfl, hn⟩ | ⟨T, x, rfl, rfl, hG, hE, h⟩
  · rcases h' with ⟨rfl, rfl, _⟩ | ⟨T', x', hP, hl, hG, hE, _⟩
    · exact ⟨rfl, rfl⟩
    · refine absurd ⟨hG, ?_⟩ hn
      rw [hP, hl]
      exact El_tail hE
  · rcases h' with ⟨_, _, hn⟩ | ⟨T', x', hT, hx, _, _, h'⟩
    · exact absurd ⟨hG, El_tail hE⟩ hn
    · obtain rfl := Grps.ofTw_inj hT
      obtain rfl : x = x' := TowD.ints_inj.1 hx
      rcases h with ⟨rfl, rfl, h1⟩ | ⟨rfl, h1, rfl⟩ <;> rcases h' with ⟨rfl, rfl, g1⟩ | ⟨rfl, g1, rfl⟩ <;> first | exact ⟨rfl, rfl⟩ | omega
theorem sl2_one {w : World} {g : Nat} {vx : Value} {l : List Int} (h : w.cell? ⟨g, 0, none⟩ = some vx) (hg : g < w.heap.size) (hx : SlI Any w vx l) : Sl2 Any w (.slice (some ⟨g, 0, none⟩) 1 1) [l] := by
  refine ⟨some ⟨g, 0, none⟩, 1, rfl, Nat.le_refl _, by unfold maxLen; omega, by simp, fun i r hr => ?_⟩
  match i, hr with
  | 0, hr => simp at hr; subst hr; exact ⟨g, 0, rfl, trivial, hg, vx, h, hx⟩
def IOrbR (P : Pres) (l : List Int) (w : World) (e : Ending) (w' : World) : Prop := ∃ v k res, e = .returned (.tuple #[v, .int .i64 k]) ∧ OrbV P l res k ∧ Elts w.heap.size w' v res ∧ Below w.heap.size w w'

set_option maxRecDepth 100000 in
set_option maxHeartbeats 2000000 in
theorem impl_orbit (w : World) (vO vP vC vx : Value) (P : Pres) (l : List Int) (hP : ValP Any w vO vP vC P) (hx : SlI Any w vx l) :
    Calls Tryz.prog 43 #[.agg #[vO, vP, vC], vx] w (IOrbR P l w) := by
  obtain ⟨aX, cX, rfl, _, _⟩ := SlG.form hx
  obtain ⟨W0, hW0⟩ : ∃ W0, W0 = w.alloc (.cells #[vO, vP, vC] 30) := ⟨_, rfl⟩
  have HB0 := Lib.hid (show Below (w.heap.size + 1) (w.alloc (.cells #[vO, vP, vC] 30)) W0 by rw [hW0]; exact Below.refl _ _)
  obtain ⟨⟨e0, e1, e2⟩, hk, hbw, hs⟩ := bx1 HB0.out
  have HPT := Lib.hid (show PtrP Any W0 w.heap.size 0 P from ⟨trivial, by omega, _, _, _, e0, e1, e2, hP.keep hk⟩)
  have HX := Lib.hid (hx.keep hk)
  obtain ⟨W1, hW1⟩ : ∃ W1, W1 = W0.alloc (.cells #[.slice aX l.length cX] 22) := ⟨_, rfl⟩
  have hb1 : Below W0.heap.size W0 W1 := by rw [hW1]; exact (Below.refl _ _).alloc (Nat.le_refl _) _
  have HPT1 := Lib.hid (HPT.out.keep (Keep.of_below hb1))
  have HX1 := Lib.hid (HX.out.keep (Keep.of_below hb1))
  have HB1 := Lib.hid (HB0.out.trans (hb1.mono hs))
  have HAE := Lib.hid (areElements_any W1 w.heap.size 0 P (.slice (some ⟨W0.heap.size, 0, none⟩) 1 1) [l] HPT1.out (sl2_one (by rw [hW1]; exact cell_of_row _ _ _ #[.slice aX l.length cX] _ (0, 0) (heap_alloc_new _ _)) (by rw [hW1]; simp) HX1.out))
  clear e0 e1 e2 hk hbw hs hP hx hb1
  go_enter Tryz.func43, Tryz.ntmps43
  go_upto_region 1 with fail
  rw [← hW0]
  clear hW0
  go_wp2_with fail
  rw [← hW1]
  clear hW1
  refine HAE.out.mono ?_
  rintro e w2 ⟨r, rfl, hr, hb2⟩
  have HB2 := Lib.hid (HB1.out.trans (hb2.mono (bx1 HB1.out).2.2.2))
  have HPT2 := Lib.hid (HPT1.out.keep (Keep.of_below hb2))
  have HX2 := Lib.hid (HX1.out.keep (Keep.of_below hb2))
  clear hb2
  by_cases hE : ElV P l
  · obtain rfl : r = true := hr.2 ⟨hE.1, fun l' hl' => by rw [List.mem_singleton.1 hl']; exact hE.2⟩
    have HE := Lib.hid hE
    have HC := Lib.hid (ImplY.isomorphisms_any w2 w.heap.size 0 w.heap.size 0 P P HPT2.out HPT2.out)
    clear hr hE
    go_wp2_with fail
    refine HC.out.mono ?_
    rintro e w3 ⟨v, k, rfl, hb3, h⟩
    have HB3 := Lib.hid (HB2.out.trans (hb3.mono (bx1 HB2.out).2.2.2))
    have HPT3 := Lib.hid (HPT2.out.keep (Keep.of_below hb3))
    have HX3 := Lib.hid (HX2.out.keep (Keep.of_below hb3))
    have HBW3 := Lib.hid (bx1 HB3.out).2.2.1
    clear hb3
    rcases h with ⟨rfl, rfl, h⟩ | ⟨T, U, hTE, hUE, gP, -, h⟩
    · exact absurd ⟨HE.out.1, HE.out.1⟩ h
    subst hTE
    obtain rfl : T = U := Grps.ofTw_inj hUE
    clear hUE
    obtain ⟨x, hlx, hxE⟩ := el_of HE.out.2
    subst hlx
    rcases h with ⟨rfl, rfl, h⟩ | ⟨rfl, rfl, h1, h2, h3⟩ | ⟨rfl, h1, h2, F, hperm, hasc, ho⟩
    · have HR := Lib.hid (show IOrbR (ofTw T) (ints x) w (.returned (.tuple #[.slice none 0 0, .int .i64 3])) w3 from ⟨_, 3, [], rfl, .inr ⟨T, x, rfl, rfl, gP, hxE, .inl ⟨rfl, rfl, by omega⟩⟩, Elts.nil _ _, HBW3.out⟩)
      clear h gP hxE
      go_wp2_with fail
      exact bodyPost_ret (v := .tuple #[.slice none 0 0, .int .i64 3]) (by simp [results, Tryz.results43, go_sem]) rfl HR.out
    · exact absurd rfl h3
    · obtain ⟨hT, hsT, hgT, hpT⟩ := SpecX.grp_parts gP
      obtain ⟨aF, cF, rfl, _, _⟩ := ho.form
      have hF9 : F.length ≤ 1000000000 := by
        have h6 : 27 ^ T.length ≤ 27 ^ 6 := Nat.pow_le_pow_right (by omega) hsT.1
        have hgl := Grow.grow_length T T h2 T.length []
        rw [hperm.length_eq]
        omega
      have HOO := Lib.hid (OrbE.orbitOf_any T hT hsT hgT h2 _ w3 w.heap.size 0 HPT3.out _ (.slice aX (ints x).length cX) F x ho hperm HX3.out hxE hF9)
      have HV := Lib.hid (show OrbV (ofTw T) (ints x) ((nums (orb T x) (sz T)).map fun t => ints (at_ T t)) 0 from .inr ⟨T, x, rfl, rfl, gP, hxE, .inr ⟨rfl, h2, rfl⟩⟩)
      clear hT hsT hgT hpT ho hperm hasc hF9 gP hxE h1 h2
      go_wp2_with fail
      refine HOO.out.mono ?_
      rintro e w4 ⟨v4, rfl, ⟨L, hL, hLr, hLd⟩, hb4⟩
      have HR := Lib.hid (show IOrbR (ofTw T) (ints x) w (.returned (.tuple #[v4, .int .i64 0])) w4 from ⟨_, 0, _, rfl, HV.out, ⟨L, OwnE.mono hL HBW3.out.size, hLr, hLd⟩, HBW3.out.trans (hb4.mono HBW3.out.size)⟩)
      clear hL hLr hLd hb4
      go_wp2_with fail
      exact bodyPost_ret (v := .tuple #[v4, .int .i64 0]) (by simp [results, Tryz.results43, go_sem]) rfl HR.out
  · obtain rfl : r = false := by
      cases r with
      | false => rfl
      | true => exact absurd ⟨(hr.1 rfl).1, (hr.1 rfl).2 l (List.mem_singleton.2 rfl)⟩ hE
    have HR := Lib.hid (show IOrbR P l w (.returned (.tuple #[.slice none 0 0, .int .i64 1])) w2 from ⟨_, 1, [], rfl, .inl ⟨rfl, rfl, hE⟩, Elts.nil _ _, (bx1 HB2.out).2.2.1⟩)
    clear hr hE
    go_wp2_with fail
    exact bodyPost_ret (v := .tuple #[.slice none 0 0, .int .i64 1]) (by simp [results, Tryz.results43, go_sem]) rfl HR.out

/-- what the law has in memory: the reference's answer, its own copies, the program's answer -/
structure St (n5 g g' : Nat) (vW vG x0 x1 x2 y : Value) (P : Pres) (l : List Int) (res : List (List Int)) (L : List (Nat × List Int)) (W : World) : Prop where
  vw : Sl2 (fun b => b < n5) W vW res
  xs : ValP (fun b => n5 ≤ b ∧ b < g) W x0 x1 x2 P
  ys : SlI (fun b => g + 1 ≤ b ∧ b < g') W y l
  fx : NFS (fun b => n5 ≤ b ∧ b < g) W
  fy : NFS (fun b => g + 1 ≤ b ∧ b < g') W
  bx : W.heap[g]? = some (.cells #[x0, x1, x2] 30 (0, 0))
  own : OwnE g' W vG L
  le : n5 ≤ g ∧ g + 1 ≤ g' ∧ g' ≤ W.heap.size
theorem St.below {n5 g g' : Nat} {vW vG x0 x1 x2 y : Value} {P : Pres} {l : List Int} {res : List (List Int)} {L : List (Nat × List Int)} {W W' : World} (h : St n5 g g' vW vG x0 x1 x2 y P l res L W) (hb : Below W.heap.size W W') : St n5 g g' vW vG x0 x1 x2 y P l res L W' := by
  have hl := h.le
  have hs := hb.size
  exact ⟨Sl2.keep h.vw (Keep.of_below hb), h.xs.keep (Keep.of_below hb), h.ys.keep (Keep.of_below hb), h.fx.keep (Keep.of_below (S := Any) hb) (fun b hb => ⟨trivial, by omega⟩), h.fy.keep (Keep.of_below (S := Any) hb) (fun b hb => ⟨trivial, by omega⟩),
    blk hb (by omega) h.bx, h.own.keep hb, by omega⟩
/-- behind the marks over both copies -/
structure St2 (n5 g' : Nat) (vW vG : Value) (res : List (List Int)) (L : List (Nat × List Int)) (W : World) : Prop where
  vw : Sl2 (fun b => b < n5) W vW res
  own : OwnE g' W vG L
  le : n5 ≤ g'
theorem St2.below {n5 g' : Nat} {vW vG : Value} {res : List (List Int)} {L : List (Nat × List Int)} {W W' : World} (h : St2 n5 g' vW vG res L W) (hb : Below W.heap.size W W') : St2 n5 g' vW vG res L W' :=
  ⟨Sl2.keep h.vw (Keep.of_below hb), h.own.keep hb, h.le⟩
/-- behind the marks over the answer -/
structure St3 (n5 g' : Nat) (vW vG : Value) (res : List (List Int)) (L : List (Nat × List Int)) (W : World) : Prop where
  vw : Sl2 (fun b => b < n5) W vW res
  rows : Rows2 (fun b => g' ≤ b) W vG (mrk 1 L)
theorem St3.below {n5 g' : Nat} {vW vG : Value} {res : List (List Int)} {L : List (Nat × List Int)} {W W' : World} (h : St3 n5 g' vW vG res L W) (hb : Below W.heap.size W W') : St3 n5 g' vW vG res L W' :=
  ⟨Sl2.keep h.vw (Keep.of_below hb), FindD.Rows2.keep h.rows hb⟩
theorem St.mark1y {n5 g g' : Nat} {vW vG x0 x1 x2 y : Value} {P : Pres} {l : List Int} {res : List (List Int)} {L : List (Nat × List Int)} {W W1 W2 : World} (h : St n5 g g' vW vG x0 x1 x2 y P l res L W)
    (hb : Below W.heap.size W W1) (hm : Mrk (fun b => n5 ≤ b ∧ b < g) W1 W2) : SlI (fun b => g + 1 ≤ b ∧ b < g') W2 y l ∧ NFS (fun b => g + 1 ≤ b ∧ b < g') W2 ∧ St2 n5 g' vW vG res L W2 := by
  have hl := h.le
  have h1 := h.below hb
  have hl1 := h1.le
  refine ⟨h1.ys.keep (hm.keep.mono (fun b hb => by omega)), hm.nf _ h1.fy, Sl2.keep h1.vw (hm.keep.mono (fun b hb => by omega)), FindD.OwnE.keepS h1.own hm.keep (fun k hk => by omega), by omega⟩
theorem St2.mark {n5 g g' : Nat} {vW vG : Value} {res : List (List Int)} {L : List (Nat × List Int)} {W W' : World} (h : St2 n5 g' vW vG res L W) (hm : Mrk (fun b => g + 1 ≤ b ∧ b < g') W W') (hg : n5 ≤ g) : St2 n5 g' vW vG res L W' :=
  ⟨Sl2.keep h.vw (hm.keep.mono (fun b hb => by omega)), FindD.OwnE.keepS h.own hm.keep (fun k hk => by omega), h.le⟩
theorem tot_orb {P : Pres} {l : List Int} {res : List (List Int)} {k : Int} (h : OrbV P l res k) {L : List (Nat × List Int)} (hL : L.map (·.2) = res) : tot L ≤ 200 := by
  rw [tot_tot2, hL]
  rcases h with ⟨rfl, _⟩ | ⟨T, x, rfl, rfl, gT, hE, ⟨rfl, _⟩ | ⟨_, hz, rfl⟩⟩
  · simp [tot2]
  · simp [tot2]
  · rw [tot2_ats]
    have h1 := nums_length (orb T x) (sz T)
    have h2 := (SpecX.grp_parts gT).2.1.1
    have := Nat.mul_le_mul (Nat.le_trans h1 hz) h2
    omega
end Go.Proofs.YtabeedimnbkcgaaGreat.OrbF
