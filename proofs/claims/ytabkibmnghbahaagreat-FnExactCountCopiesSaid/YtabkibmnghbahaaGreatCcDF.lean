import Derived.Test.YtabkibmnghbahaaGreatCcAC
import Derived.Test.YtabkibmnghbahaaGreatChSeq
/-
  Plain: the tower of a subgroup, out of its canonical sequence. No program in sight.
-/
namespace Go.Proofs.YtabkibmnghbahaaGreat.CcD
open Go.Proofs.YtabkibmnghbahaaGreat Go.Proofs.YtabkibmnghbahaaGreat.Tow Go.Proofs.YtabkibmnghbahaaGreat.Gen Go.Proofs.YtabkibmnghbahaaGreat.GenC Go.Proofs.YtabkibmnghbahaaGreat.GenL Go.Proofs.YtabkibmnghbahaaGreat.GenM Go.Proofs.YtabkibmnghbahaaGreat.NumT Go.Proofs.YtabkibmnghbahaaGreat.GenD Go.Proofs.YtabkibmnghbahaaGreat.CcA Go.Proofs.YtabkibmnghbahaaGreat.CcB Go.Proofs.YtabkibmnghbahaaGreat.CcC
set_option linter.unusedVariables false
set_option linter.unusedSimpArgs false

/-- the exponents of an element over a sequence, and what is left -/
noncomputable def mex (T : Tw) : List (List Nat) → List Nat → List Nat × List Nat
  | [], x => ([], x)
  | u :: us, x => (fF (dep u) x :: (mex T us (mul T (vinv T (npow (mul T) (one T) u (fF (dep u) x))) x)).1, (mex T us (mul T (vinv T (npow (mul T) (one T) u (fF (dep u) x))) x)).2)
noncomputable def cnj (T : Tw) (y u : List Nat) : List Nat := mul T (vinv T u) (mul T y u)
noncomputable def subT (T : Tw) : List (List Nat) → Tw
  | [] => []
  | u :: us => ⟨oF T (dep u), (mex T us (npow (mul T) (one T) u (oF T (dep u)))).1, us.map fun y => (mex T us (cnj T y u)).1⟩ :: subT T us
def Chn (T : Tw) : List (List Nat) → Prop
  | [] => True
  | u :: us => El T u ∧ dep u < T.length ∧ fF (dep u) u = 1 ∧ (∀ v ∈ us, dep u < dep v) ∧ Im T (subT T us) us (npow (mul T) (one T) u (oF T (dep u))) ∧ (∀ y ∈ us, Im T (subT T us) us (cnj T y u)) ∧ Chn T us
theorem cnj_hom {T : Tw} (hT : Wf T) (hg : Tow.Good T) {u : List Nat} (hu : El T u) {a b : List Nat} (ha : El T a) (hb : El T b) : cnj T (mul T a b) u = mul T (cnj T a u) (cnj T b u) := by
  have G := grp hT hg
  obtain ⟨hi, h1, h2⟩ := vinv_spec hT hg hu
  unfold cnj
  rw [G.as hi (G.cl ha hu) (G.cl hi (G.cl hb hu)), G.as ha hu (G.cl hi (G.cl hb hu)), ← G.as hu hi (G.cl hb hu), h1, G.eL (G.cl hb hu), G.as ha hb hu]
theorem cnj_El {T : Tw} (hT : Wf T) (hg : Tow.Good T) {u a : List Nat} (hu : El T u) (ha : El T a) : El T (cnj T a u) := El_mul hT (vinv_spec hT hg hu).1 (El_mul hT ha hu)
theorem cnj_one {T : Tw} (hT : Wf T) (hg : Tow.Good T) {u : List Nat} (hu : El T u) : cnj T (one T) u = one T := by
  have G := grp hT hg
  unfold cnj
  rw [G.eL hu, (vinv_spec hT hg hu).2.2]
theorem mul_cnj {T : Tw} (hT : Wf T) (hg : Tow.Good T) {u a : List Nat} (hu : El T u) (ha : El T a) : mul T u (cnj T a u) = mul T a u := by
  have G := grp hT hg
  obtain ⟨hi, h1, h2⟩ := vinv_spec hT hg hu
  unfold cnj
  rw [← G.as hu hi (G.cl ha hu), h1, G.eL (G.cl ha hu)]
theorem cnj_inj {T : Tw} (hT : Wf T) (hg : Tow.Good T) {u a b : List Nat} (hu : El T u) (ha : El T a) (hb : El T b) (h : cnj T a u = cnj T b u) : a = b := by
  have G := grp hT hg
  have := mul_cnj hT hg hu ha
  rw [h, mul_cnj hT hg hu hb] at this
  exact (G.cancelR hu hb ha this).symm
theorem cnj_pow {T : Tw} (hT : Wf T) (hg : Tow.Good T) {u a : List Nat} (hu : El T u) (ha : El T a) : ∀ k, mul T (npow (mul T) (one T) u k) (it (fun z => cnj T z u) k a) = mul T a (npow (mul T) (one T) u k)
  | 0 => by
    have G := grp hT hg
    rw [npow_zero, it, G.eL ha, G.eR ha]
  | k + 1 => by
    have G := grp hT hg
    have hk := G.npow hu k
    have hit : El T (it (fun z => cnj T z u) k a) := it_inv (El T) _ (fun z hz => cnj_El hT hg hu hz) k a ha
    rw [npow_succ, it_succ', G.as hk hu (cnj_El hT hg hu hit), mul_cnj hT hg hu hit, ← G.as hk hit hu, cnj_pow hT hg hu ha k, G.as ha hk hu]
/-- the exponents of a member -/
structure Mx (T : Tw) (us : List (List Nat)) : Prop where
  wf : Wf (subT T us)
  gd : Tow.Good (subT T us)
  em : Emb T (subT T us) us
  mx : ∀ x, Im T (subT T us) us x → (mex T us x).2 = one T ∧ El (subT T us) (mex T us x).1 ∧ ev (mul T) (one T) us (mex T us x).1 = x
theorem oF_prm {T : Tw} (hp : Prm T) {d : Nat} (hd : d < T.length) : oF T d = 2 ∨ oF T d = 3 ∨ oF T d = 5 ∨ oF T d = 7 := by
  obtain ⟨L, hL⟩ : ∃ L, T[d]? = some L := ⟨_, List.getElem?_eq_getElem hd⟩
  rw [oF_at hL]
  exact hp L (List.mem_of_getElem? hL)
theorem dep_A' {T : Tw} {x : List Nat} {d : Nat} (hx : El T x) (h : d ≤ dep x) : A (El T) fF d x := A_le (dep_A hx) h
theorem im_A {T : Tw} (hT : Wf T) (hg : Tow.Good T) {us : List (List Nat)} {S : Tw} {d : Nat} (hd : d ≤ T.length) (h : ∀ v ∈ us, A (El T) fF d v) {x : List Nat} (hx : Im T S us x) : A (El T) fF d x := by
  have F := fil hT hg
  obtain ⟨z, _, rfl⟩ := hx
  have hs := F.A_sub hd
  have : ∀ (us : List (List Nat)), (∀ v ∈ us, A (El T) fF d v) → ∀ z, A (El T) fF d (ev (mul T) (one T) us z) := by
    intro us
    induction us with
    | nil => intro _ z; cases z <;> exact hs.me
    | cons v us ih => intro hv z; cases z with
      | nil => exact hs.me
      | cons a z => exact hs.cl (hs.npow (hv v List.mem_cons_self) a) (ih (fun w hw => hv w (List.mem_cons_of_mem _ hw)) z)
  exact this us h z
theorem chn_el {T : Tw} : ∀ {us : List (List Nat)}, Chn T us → ∀ u ∈ us, El T u ∧ dep u < T.length
  | [], _, u, hu => by simp at hu
  | v :: us, h, u, hu => by
    rcases List.mem_cons.1 hu with rfl | hu
    · exact ⟨h.1, h.2.1⟩
    · exact chn_el h.2.2.2.2.2.2 u hu
theorem chn_mx {T : Tw} (hT : Wf T) (hg : Tow.Good T) (hp : Prm T) : ∀ {us : List (List Nat)}, Chn T us → Mx T us
  | [], _ => ⟨trivial, trivial, emb_nil, fun x hx => by
    obtain ⟨z, hz, rfl⟩ := hx
    cases z with
    | nil => exact ⟨rfl, trivial, rfl⟩
    | cons a z => exact hz.elim⟩
  | u :: us, hch => by
    obtain ⟨hu, hd, h1, hlt, hpw, hcj, hch'⟩ := hch
    have M := chn_mx hT hg hp hch'
    have G := grp hT hg
    have F := fil hT hg
    have hS := M.wf
    have hgS := M.gd
    have GS := grp hS hgS
    have hE := M.em
    have hel := chn_el hch'
    have hAu : A (El T) fF (dep u) u := dep_A hu
    have hA1 : ∀ v ∈ us, A (El T) fF (dep u + 1) v := fun v hv => dep_A' (hel v hv).1 (hlt v hv)
    have hpw' := M.mx _ hpw
    have hcj' := fun y hy => M.mx _ (hcj y hy)
    have he : phi T us (one (subT T us)) = one T := ev_one hT hg us _
    have hf : ∀ a b, El (subT T us) a → El (subT T us) b → phi T us (mul (subT T us) a b) = mul T (phi T us a) (phi T us b) := fun a b ha hb => G.hom hS hE.el hE.rel ha hb
    -- the level
    obtain ⟨L, hL⟩ : ∃ L : Lv, L = ⟨oF T (dep u), (mex T us (npow (mul T) (one T) u (oF T (dep u)))).1, us.map fun y => (mex T us (cnj T y u)).1⟩ := ⟨_, rfl⟩
    have hLo : L.o = oF T (dep u) := by rw [hL]
    have hLw : L.w = (mex T us (npow (mul T) (one T) u (oF T (dep u)))).1 := by rw [hL]
    have hLc : L.c = us.map fun y => (mex T us (cnj T y u)).1 := by rw [hL]
    have hsub : subT T (u :: us) = L :: subT T us := by rw [hL]; rfl
    have hpo := oF_prm hp hd
    rw [← hLo] at hpo
    have hcE : ∀ y ∈ L.c, El (subT T us) y := fun y hy => by
      rw [hLc] at hy
      obtain ⟨v, hv, rfl⟩ := List.mem_map.1 hy
      exact (hcj' v hv).2.1
    have hwE : El (subT T us) L.w := by rw [hLw]; exact hpw'.2.1
    have hwf : Wf (L :: subT T us) := ⟨by omega, hwE, by rw [hLc, List.length_map]; exact hE.len, hcE, hS⟩
    have hphw : phi T us L.w = npow (mul T) (one T) u L.o := by rw [hLw, hLo]; exact hpw'.2.2
    have hphc : L.c.map (phi T us) = us.map fun y => cnj T y u := by
      rw [hLc, List.map_map]
      exact List.map_congr_left fun y hy => (hcj' y hy).2.2
    have hF : FitsV T L us u := by
      refine ⟨hphw.symm, fun k y hk => ?_⟩
      rw [hLc, List.getElem?_map, Option.map_eq_some_iff] at hk
      obtain ⟨v, hv, rfl⟩ := hk
      rw [List.getD_eq_getElem?_getD, hv, (hcj' v (List.mem_of_getElem? hv)).2.2, mul_cnj hT hg hu (hel v (List.mem_of_getElem? hv)).1]
      rfl
    have hn : ¬ Gen (mul T) (one T) us u := fun hh => by
      have h2 := im_A hT hg (by omega) hA1 ((gen_im hT hg hS hE.el hE.rel u).1 hh)
      have := h2.2 (dep u) (by omega)
      omega
    have hEm : Emb T (L :: subT T us) (u :: us) := (emb_cons hT hg hwf hgS hpo).2 ⟨hE, hu, hF, hn⟩
    -- the image
    have hci : ∀ a b, El T a → El T b → cnj T a u = cnj T b u → a = b := fun a b ha hb h => cnj_inj hT hg hu ha hb h
    have hch2 : ∀ a b, El T a → El T b → cnj T (mul T a b) u = mul T (cnj T a u) (cnj T b u) := fun a b ha hb => cnj_hom hT hg hu ha hb
    have himg : ∀ z, El (subT T us) z → phi T us (img (subT T us) L.c z) = cnj T (phi T us z) u := fun z hz => by
      rw [show img (subT T us) L.c z = ev (mul (subT T us)) (one (subT T us)) L.c z from GS.prodL_e hcE z]
      rw [show phi T us (ev (mul (subT T us)) (one (subT T us)) L.c z) = ev (mul T) (one T) (L.c.map (phi T us)) z from ev_map GS (phi T us) he hf hcE z, hphc]
      exact (ev_map G (fun y => cnj T y u) (cnj_one hT hg hu) hch2 hE.el z).symm
    have hiE : ∀ z, El (subT T us) z → El (subT T us) (img (subT T us) L.c z) := fun z hz => El_img hS hcE z
    have hit : ∀ k z, El (subT T us) z → phi T us (it (img (subT T us) L.c) k z) = it (fun y => cnj T y u) k (phi T us z) := fun k => by
      induction k with
      | zero => intro z hz; rfl
      | succ k ih => intro z hz; rw [it, it, ih _ (hiE z hz), himg z hz]
    have hgd : Tow.Good (L :: subT T us) := by
      refine ⟨hgS, ?_, ?_, fun j hj => ?_⟩
      · refine (rel_map GS (phi T us) he hf (fun a b ha hb h => hE.inj a b ha hb h) (subT T us) L.c hcE).1 ?_
        rw [hphc]
        exact (rel_map G (fun y => cnj T y u) (cnj_one hT hg hu) hch2 hci (subT T us) us hE.el).2 hE.rel
      · refine hE.inj _ _ (hiE _ hwE) hwE ?_
        have e1 : phi T us (img (subT T us) L.c L.w) = phi T us L.w := by
          rw [himg _ hwE, hphw]
          have hk := G.npow hu L.o
          refine G.cancelL hu (cnj_El hT hg hu hk) hk ?_
          rw [mul_cnj hT hg hu hk, ← npow_succ (mul T) (one T) u L.o]
          have := G.npow_add hu 1 L.o
          rw [G.npow_one hu] at this
          rw [← this, Nat.add_comm]
        exact e1
      · have hj' := El_unit hS j
        have hitE : El (subT T us) (it (img (subT T us) L.c) L.o (unit (subT T us) j)) := it_inv (El (subT T us)) _ hiE L.o _ hj'
        refine hE.inj _ _ (GS.cl hwE hitE) (GS.cl hj' hwE) ?_
        have e1 : phi T us (mul (subT T us) L.w (it (img (subT T us) L.c) L.o (unit (subT T us) j))) = phi T us (mul (subT T us) (unit (subT T us) j) L.w) := by
          rw [hf _ _ hwE hitE, hf _ _ hj' hwE, hit _ _ hj', hphw, cnj_pow hT hg hu (G.ev hE.el _) L.o]
        exact e1
    rw [← hsub] at hwf hgd hEm
    refine ⟨hwf, hgd, hEm, fun x hx => ?_⟩
    obtain ⟨z, hz, rfl⟩ := hx
    rw [hsub] at hz
    cases z with
    | nil => exact hz.elim
    | cons a z =>
      have hh : A (El T) fF (dep u + 1) (ev (mul T) (one T) us z) := im_A hT hg (by omega) hA1 ⟨z, hz.2, rfl⟩
      have hp1 := G.npow hu a
      have hfa : fF (dep u) (ev (mul T) (one T) (u :: us) (a :: z)) = a := by
        show fF (dep u) (mul T (npow (mul T) (one T) u a) (ev (mul T) (one T) us z)) = a
        have hpA := (F.A_sub (Nat.le_of_lt hd)).npow hAu a
        have hhA := (A_succ.1 hh)
        rw [F.fm hd hp1 hh.1 hpA.2 hhA.1.2, hhA.2, F.f_npow hd hAu, h1, Nat.mul_one, Nat.add_zero, Nat.mod_mod, Nat.mod_eq_of_lt (by rw [← hLo]; exact hz.1)]
      have hred : mul T (vinv T (npow (mul T) (one T) u a)) (ev (mul T) (one T) (u :: us) (a :: z)) = ev (mul T) (one T) us z := by
        show mul T (vinv T (npow (mul T) (one T) u a)) (mul T (npow (mul T) (one T) u a) (ev (mul T) (one T) us z)) = _
        obtain ⟨hi, _, h2⟩ := vinv_spec hT hg hp1
        rw [← G.as hi hp1 hh.1, h2, G.eL hh.1]
      obtain ⟨m1, m2, m3⟩ := M.mx _ ⟨z, hz.2, rfl⟩
      rw [mex, hfa, hred, hsub]
      refine ⟨m1, ⟨hz.1, m2⟩, ?_⟩
      show mul T (npow (mul T) (one T) u a) (ev (mul T) (one T) us _) = _
      rw [m3]; rfl
end Go.Proofs.YtabkibmnghbahaaGreat.CcD

/-
  Plain: a canonical sequence is a chain; the presentation of the subgroup is a group. No program in sight.
-/
namespace Go.Proofs.YtabkibmnghbahaaGreat.CcE
open Go.Proofs.YtabkibmnghbahaaGreat Go.Proofs.YtabkibmnghbahaaGreat.Tow Go.Proofs.YtabkibmnghbahaaGreat.Val Go.Proofs.YtabkibmnghbahaaGreat.Grps Go.Proofs.YtabkibmnghbahaaGreat.Gen Go.Proofs.YtabkibmnghbahaaGreat.GenC Go.Proofs.YtabkibmnghbahaaGreat.GenL Go.Proofs.YtabkibmnghbahaaGreat.GenM Go.Proofs.YtabkibmnghbahaaGreat.NumT Go.Proofs.YtabkibmnghbahaaGreat.GenD Go.Proofs.YtabkibmnghbahaaGreat.CcA Go.Proofs.YtabkibmnghbahaaGreat.CcB Go.Proofs.YtabkibmnghbahaaGreat.CcC Go.Proofs.YtabkibmnghbahaaGreat.CcD Go.Proofs.YtabkibmnghbahaaGreat.ChP
set_option linter.unusedVariables false
set_option linter.unusedSimpArgs false

theorem can_step {T : Tw} (hT : Wf T) (hg : Tow.Good T) (hp : Prm T) {im : List (List Nat)} {t t2 : Nat → Option (List Nat)} (hc : CLt T im t) (hcf : Cf (El T) (mul T) (one T) T.length fF (vinv T) t t2) :
    ∀ (k d : Nat), d + k = T.length → Chn T (usF t2 k d) ∧ ∀ x, Im T (subT T (usF t2 k d)) (usF t2 k d) x ↔ SDt T t d x
  | 0, d, hd => by
    have F := fil hT hg
    refine ⟨trivial, fun x => ⟨?_, fun h => ?_⟩⟩
    · rintro ⟨z, hz, rfl⟩
      have : ev (mul T) (one T) (usF t2 0 d) z = one T := by cases z <;> rfl
      rw [this]
      exact (hc.sub d (by omega)).me
    · have : x = one T := F.ze h.1.1 (fun j hj => h.1.2 j (by omega))
      exact ⟨[], trivial, this.symm⟩
  | k + 1, d, hd => by
    have F := fil hT hg
    have G := F.G
    obtain ⟨ih1, ih2⟩ := can_step hT hg hp hc hcf k (d + 1) (by omega)
    cases ht : t d with
    | none =>
      rw [usF_none ((hcf d).1 ht)]
      refine ⟨ih1, fun x => (ih2 x).trans ⟨fun h => (Sd_succ.1 h).1, fun h => Sd_succ.2 ⟨h, Sd_none (k := k) hd ht h⟩⟩⟩
    | some y =>
      obtain ⟨r, hr, hr1, _, hr2⟩ := (hcf d).2 y ht
      rw [usF_some hr2]
      have hdl : d < T.length := by omega
      have hS := hc.sub d (by omega)
      have hrE := hr.1.1
      have hdep : dep r = d := dep_of hr.1 (by rw [hr1]; omega) hdl
      have M := chn_mx hT hg hp ih1
      have hmem : ∀ v ∈ usF t2 k (d + 1), SDt T t (d + 1) v := fun v hv => (ih2 v).1 (im_self hT hg M.wf M.em v hv)
      have hrpA := fun a => (hS.npow hr a).1
      have hfp : ∀ a, fF d (npow (mul T) (one T) r a) = a % oF T d := fun a => by rw [F.f_npow hdl hr.1, hr1, Nat.mul_one]
      have hpw : SDt T t (d + 1) (npow (mul T) (one T) r (oF T d)) := Sd_succ.2 ⟨hS.npow hr _, by rw [hfp, Nat.mod_self]⟩
      have hinv : ∀ z, SDt T t d z → SDt T t d (vinv T z) ∧ (fF d (vinv T z) + fF d z) % oF T d = 0 := fun z hz => by
        have h1 := F.sub_inv hS hz
        refine ⟨h1, ?_⟩
        rw [← F.fm hdl h1.1.1 hz.1.1 h1.1.2 hz.1.2, F.iL hz.1.1, F.fe d hdl]
      have hcj : ∀ v ∈ usF t2 k (d + 1), SDt T t (d + 1) (cnj T v r) := fun v hv => by
        obtain ⟨hv1, hv0⟩ := Sd_succ.1 (hmem v hv)
        obtain ⟨hi, hi0⟩ := hinv r hr
        have hvr := hS.cl hv1 hr
        have hall := hS.cl hi hvr
        refine Sd_succ.2 ⟨hall, ?_⟩
        show fF d (mul T (vinv T r) (mul T v r)) = 0
        rw [F.fm hdl hi.1.1 hvr.1.1 hi.1.2 hvr.1.2, F.fm hdl hv1.1.1 hr.1.1 hv1.1.2 hr.1.2, hv0, Nat.zero_add, Nat.add_mod_mod, hi0]
      refine ⟨⟨hrE, by rw [hdep]; exact hdl, by rw [hdep]; exact hr1, fun v hv => ?_, ?_, fun v hv => (ih2 _).2 (hcj v hv), ih1⟩, fun x => ⟨?_, fun h => ?_⟩⟩
      · rw [hdep]
        have := dep_A' (M.em.el v hv) (Nat.le_refl _)
        rcases Nat.lt_or_ge d (dep v) with h | h
        · exact h
        · obtain ⟨j, hj1, hj2, hj3⟩ := usF_mem hv
          have hrow := CfP.row (Cf.cfp hcf 0) (Nat.zero_le _) hj3
          rw [dep_of hrow.1.1 (by rw [hrow.2.1]; omega) (by omega)] at h
          omega
      · rw [hdep]; exact (ih2 _).2 hpw
      · rintro ⟨z, hz, rfl⟩
        cases z with
        | nil => exact hz.elim
        | cons a z =>
          have h1 := (ih2 _).1 ⟨z, hz.2, rfl⟩
          exact hS.cl (hS.npow hr a) (Sd_succ.1 h1).1
      · have ha : fF d x < oF T d := F.lt hdl h.1.1
        have hpa := hS.npow hr (fF d x)
        obtain ⟨hi, hi0⟩ := hinv _ hpa
        rw [hfp, Nat.mod_eq_of_lt ha] at hi0
        have hh := hS.cl hi h
        have h0 : fF d (mul T (vinv T (npow (mul T) (one T) r (fF d x))) x) = 0 := by rw [F.fm hdl hi.1.1 h.1.1 hi.1.2 h.1.2, hi0]
        obtain ⟨z, hz, e⟩ := (ih2 _).2 (Sd_succ.2 ⟨hh, h0⟩)
        refine ⟨fF d x :: z, ⟨by show fF d x < oF T (dep r); rw [hdep]; exact ha, hz⟩, ?_⟩
        show mul T (npow (mul T) (one T) r (fF d x)) (ev (mul T) (one T) _ z) = x
        rw [e, ← G.as hpa.1.1 hi.1.1 h.1.1, F.iR hpa.1.1, G.eL h.1.1]
theorem can_chn {T : Tw} (hT : Wf T) (hg : Tow.Good T) (hp : Prm T) {im us : List (List Nat)} (h : CanL T im us) : Chn T us ∧ ∀ x, Im T (subT T us) us x ↔ Gen (mul T) (one T) im x := by
  obtain ⟨t, t2, hc, hcf, rfl⟩ := h
  obtain ⟨h1, h2⟩ := can_step hT hg hp hc hcf T.length 0 (by omega)
  exact ⟨h1, fun x => (h2 x).trans (hc.gen x).symm⟩

/-! its presentation -/
theorem El_tl {T : Tw} (hT : Wf T) {x : List Nat} {s : Nat} (h : El (T.drop s) x) (hs : s ≤ T.length) : TailV (ofTw T).os s (ints (pad s x)) := by
  have hl := El_length h
  rw [List.length_drop] at hl
  refine ⟨by simp [ofTw, pad, ints, hl]; omega, fun j y o hy ho => ?_⟩
  simp only [ofTw, List.getElem?_map, Option.map_eq_some_iff] at ho
  obtain ⟨L, hL, rfl⟩ := ho
  simp only [ints, List.getElem?_map, Option.map_eq_some_iff] at hy
  obtain ⟨b, hb, rfl⟩ := hy
  by_cases hj : j < s
  · rw [pad, List.getElem?_append_left (by simpa using hj), List.getElem?_replicate, if_pos hj] at hb
    injection hb with hb
    subst hb
    have h2 := (lvl' hT hL).2.2.2.2
    show (0 : Int) ≤ ((0 : Nat) : Int) ∧ ((0 : Nat) : Int) < (L.o : Int) ∧ (j < s → ((0 : Nat) : Int) = 0)
    exact ⟨by omega, by omega, fun _ => rfl⟩
  · rw [pad, List.getElem?_append_right (by simpa using (Nat.le_of_not_lt hj)), List.length_replicate] at hb
    obtain ⟨L', hL', hlt⟩ := El_lt h hb
    rw [List.getElem?_drop, Nat.add_sub_cancel' (Nat.le_of_not_lt hj), hL] at hL'
    injection hL' with hL'
    subst hL'
    show (0 : Int) ≤ (b : Int) ∧ (b : Int) < (L.o : Int) ∧ (j < s → (b : Int) = 0)
    exact ⟨by omega, by omega, fun h => absurd h hj⟩
theorem sub_prm {T : Tw} (hp : Prm T) : ∀ {us : List (List Nat)}, Chn T us → Prm (subT T us)
  | [], _ => fun L hL => by simp [subT] at hL
  | u :: us, h => fun L hL => by
    rw [subT] at hL
    rcases List.mem_cons.1 hL with rfl | hL
    · exact oF_prm hp h.2.1
    · exact sub_prm hp h.2.2.2.2.2.2 L hL
theorem prm_B {T : Tw} (hp : Prm T) : ∀ o ∈ (ofTw T).os, primeB o = true := fun o ho => by
  obtain ⟨L, hL, rfl⟩ := List.mem_map.1 ho
  have := hp L hL
  simp [primeB]
  omega
theorem valid_tw {T : Tw} (hT : Wf T) (hp : Prm T) (h6 : T.length ≤ 6) (hz : sz T ≤ 729) : Valid (ofTw T) := by
  refine ⟨by simpa [ofTw] using h6, by rw [ofTw_ps]; simp [ofTw], by rw [show (ofTw T).cs = conF 0 T from rfl, conF_length]; simp [ofTw], prm_B hp, ?_, fun i p h => ?_, fun i c h => ?_⟩
  · rw [show (ofTw T).os = T.map fun L => (L.o : Int) from rfl, prodI_sz]; omega
  · rw [show (ofTw T).ps = powF 0 T from rfl, powF_get, Option.map_eq_some_iff] at h
    obtain ⟨L, hL, rfl⟩ := h
    have hl := lvl' hT hL
    rw [Nat.zero_add]
    exact El_tl hT hl.2.2.2.1 (List.getElem?_eq_some_iff.1 hL).1
  · rw [show (ofTw T).cs = conF 0 T from rfl, conF_get, Option.map_eq_some_iff] at h
    obtain ⟨L, hL, rfl⟩ := h
    have hl := lvl' hT hL
    refine ⟨by rw [List.length_map, hl.2.1]; simp [ofTw]; omega, fun y hy => ?_⟩
    obtain ⟨y', hy', rfl⟩ := List.mem_map.1 hy
    rw [Nat.zero_add]
    exact El_tl hT (hl.2.2.1 y' hy') (List.getElem?_eq_some_iff.1 hL).1
theorem grp_sub {T : Tw} (hT : Wf T) (hg : Tow.Good T) (hp : Prm T) (h6 : T.length ≤ 6) (hz : sz T ≤ 729) {us : List (List Nat)} (h : Chn T us) (hu : us.length ≤ 6) : Grp (ofTw (subT T us)) := by
  have M := chn_mx hT hg hp h
  have hp' := sub_prm hp h
  have hl := M.em.len
  have hle := emb_le hT hg M.wf M.em
  refine ⟨_, M.wf, ⟨by omega, fun L hL => ?_⟩, rfl, valid_tw M.wf hp' (by omega) (by omega), M.gd⟩
  have := hp' L hL
  omega
end Go.Proofs.YtabkibmnghbahaaGreat.CcE

/-
  Plain: the subgroups of a group as sets of numbers; a list of sets that is closed under one more element holds them all; how many copies there are. No program in sight.
-/
namespace Go.Proofs.YtabkibmnghbahaaGreat.CcF
open Go.Proofs.YtabkibmnghbahaaGreat Go.Proofs.YtabkibmnghbahaaGreat.Tow Go.Proofs.YtabkibmnghbahaaGreat.Val Go.Proofs.YtabkibmnghbahaaGreat.Grps Go.Proofs.YtabkibmnghbahaaGreat.Gen Go.Proofs.YtabkibmnghbahaaGreat.GenC Go.Proofs.YtabkibmnghbahaaGreat.GenL Go.Proofs.YtabkibmnghbahaaGreat.GenM Go.Proofs.YtabkibmnghbahaaGreat.NumT Go.Proofs.YtabkibmnghbahaaGreat.GenD Go.Proofs.YtabkibmnghbahaaGreat.ImplP Go.Proofs.YtabkibmnghbahaaGreat.ImplQ Go.Proofs.YtabkibmnghbahaaGreat.CcA Go.Proofs.YtabkibmnghbahaaGreat.CcB Go.Proofs.YtabkibmnghbahaaGreat.CcC Go.Proofs.YtabkibmnghbahaaGreat.CcD Go.Proofs.YtabkibmnghbahaaGreat.CcE Go.Proofs.YtabkibmnghbahaaGreat.ChP
set_option linter.unusedVariables false
set_option linter.unusedSimpArgs false

structure SubM (T : Tw) (M : Nat) : Prop where
  inn : ∀ c, M.testBit c = true → c < sz T
  one : M.testBit 0 = true
  mul : ∀ a b, M.testBit a = true → M.testBit b = true → M.testBit (pr T a b) = true
def Leq (M N : Nat) : Prop := ∀ c, M.testBit c = true → N.testBit c = true
structure ExtM (T : Tw) (M x N : Nat) : Prop where
  sub : SubM T N
  le : Leq M N
  has : N.testBit x = true
  least : ∀ K, SubM T K → Leq M K → K.testBit x = true → Leq N K
theorem Leq.refl (M : Nat) : Leq M M := fun _ h => h
theorem Leq.trans {M N K : Nat} (h1 : Leq M N) (h2 : Leq N K) : Leq M K := fun c h => h2 c (h1 c h)
theorem Leq.le {M N : Nat} (h : Leq M N) : M ≤ N := by
  have e : M ||| N = N := Nat.eq_of_testBit_eq fun i => by
    rw [Nat.testBit_or]
    cases hm : M.testBit i with
    | false => simp
    | true => simp [h i hm]
  rw [← e]; exact Nat.left_le_or
theorem Leq.eq {M N : Nat} (h : Leq M N) (h' : Leq N M) : M = N := Nat.le_antisymm h.le h'.le
theorem SubM.lt {T : Tw} {M : Nat} (hz : sz T ≤ 32) (h : SubM T M) : M < 4294967296 := by
  have := Nat.lt_pow_two_of_testBit (n := 32) M fun i hi => by
    cases hm : M.testBit i with
    | false => rfl
    | true => have := h.inn i hm; omega
  exact this
theorem ExtM.one {T : Tw} {M x N N' : Nat} (h : ExtM T M x N) (h' : ExtM T M x N') : N = N' := (h.least _ h'.sub h'.le h'.has).eq (h'.least _ h.sub h.le h.has)
theorem bit1 (c : Nat) : (1 : Nat).testBit c = true ↔ c = 0 := by
  have := Nat.testBit_two_pow (n := 0) (m := c)
  rw [Nat.pow_zero] at this
  rw [this]; simp [eq_comm]
theorem pr_00 {T : Tw} (hT : Wf T) (hg : Tow.Good T) : pr T 0 0 = 0 := by
  show num T (Tow.mul T (at_ T 0) (at_ T 0)) = 0
  have G := grp hT hg
  rw [at_zero hT, G.eL (El_one hT), num_one]
theorem sub1 {T : Tw} (hT : Wf T) (hg : Tow.Good T) : SubM T 1 :=
  ⟨fun c h => by rw [(bit1 c).1 h]; exact sz_pos hT, (bit1 0).2 rfl, fun a b ha hb => by rw [(bit1 a).1 ha, (bit1 b).1 hb, pr_00 hT hg]; exact (bit1 0).2 rfl⟩
theorem all_in {T : Tw} {ms : List Nat} (h1 : 1 ∈ ms) (hs : ∀ M ∈ ms, SubM T M) (hx : ∀ M ∈ ms, ∀ x, x < sz T → M.testBit x = true ∨ ∃ N ∈ ms, ExtM T M x N) {K : Nat} (hK : SubM T K) : K ∈ ms := by
  have key : ∀ n M, K - M ≤ n → M ∈ ms → Leq M K → K ∈ ms := by
    intro n
    induction n with
    | zero => intro M hn hM hL; have := hL.le; have : M = K := by omega
              rw [← this]; exact hM
    | succ n ih =>
      intro M hn hM hL
      by_cases he : Leq K M
      · rw [he.eq hL]; exact hM
      · obtain ⟨x, hxx⟩ := Classical.not_forall.1 he
        obtain ⟨hxK, hxM⟩ := Classical.not_imp.1 hxx
        rcases hx M hM x (hK.inn x hxK) with h | ⟨N, hN, hE⟩
        · exact absurd h hxM
        · have hNK := hE.least K hK hL hxK
          have h2 := hE.le.le
          have h3 := hNK.le
          have h4 : M ≠ N := fun e => hxM (by rw [e]; exact hE.has)
          exact ih N (by omega) hN hNK
  exact key _ 1 (Nat.le_refl _) h1 (fun c hc => by rw [(bit1 c).1 hc]; exact hK.one)
/-- a set out of a test -/
def msk (p : Nat → Bool) : Nat → Nat
  | 0 => 0
  | n + 1 => msk p n ||| (if p n then 2 ^ n else 0)
theorem msk_bit (p : Nat → Bool) (c : Nat) : ∀ n, (msk p n).testBit c = (decide (c < n) && p c)
  | 0 => by simp [msk]
  | n + 1 => by
    rw [msk, Nat.testBit_or, msk_bit p c n]
    by_cases hc : c = n
    · subst hc
      cases hp : p c with
      | false => simp
      | true => simp [Nat.testBit_two_pow_self]
    · have e : (if p n = true then 2 ^ n else 0).testBit c = false := by
        split
        · rw [Nat.testBit_two_pow]; simp; omega
        · simp
      have e2 : decide (c < n + 1) = decide (c < n) := by apply decide_eq_decide.2; omega
      rw [e, e2]; simp
/-- the elements of a set -/
def mel (T : Tw) (M : Nat) : List (List Nat) := ((List.range (sz T)).filter fun c => M.testBit c).map (at_ T)
theorem mem_mel {T : Tw} {M : Nat} (x : List Nat) : x ∈ mel T M ↔ ∃ c, c < sz T ∧ M.testBit c = true ∧ at_ T c = x := by
  unfold mel
  rw [List.mem_map]
  constructor
  · rintro ⟨c, hc, rfl⟩
    obtain ⟨h1, h2⟩ := List.mem_filter.1 hc
    exact ⟨c, List.mem_range.1 h1, h2, rfl⟩
  · rintro ⟨c, h1, h2, rfl⟩
    exact ⟨c, List.mem_filter.2 ⟨List.mem_range.2 h1, h2⟩, rfl⟩
theorem mel_El {T : Tw} (hT : Wf T) {M : Nat} : ∀ x ∈ mel T M, El T x := fun x hx => by
  obtain ⟨c, _, _, rfl⟩ := (mem_mel x).1 hx
  exact at_El hT c
theorem num_pr {T : Tw} (hT : Wf T) {x y : List Nat} (hx : El T x) (hy : El T y) : num T (Tow.mul T x y) = pr T (num T x) (num T y) := by
  show _ = num T (Tow.mul T (at_ T (num T x)) (at_ T (num T y)))
  rw [at_num hT hx, at_num hT hy]
theorem gen_mel {T : Tw} (hT : Wf T) (hg : Tow.Good T) {M : Nat} (h : SubM T M) (x : List Nat) : Gen (Tow.mul T) (Tow.one T) (mel T M) x ↔ El T x ∧ M.testBit (num T x) = true := by
  have G := grp hT hg
  constructor
  · intro hx
    refine hx (fun y => El T y ∧ M.testBit (num T y) = true) ⟨El_one hT, by rw [num_one]; exact h.one⟩ fun y c hy hc => ?_
    obtain ⟨d, hd, hb, rfl⟩ := (mem_mel c).1 hc
    refine ⟨El_mul hT hy.1 (at_El hT d), ?_⟩
    rw [num_pr hT hy.1 (at_El hT d), num_at, Nat.mod_eq_of_lt hd]
    exact h.mul _ _ hy.2 hb
  · rintro ⟨hE, hb⟩
    refine Gen.of G (mel_El hT) ((mem_mel x).2 ⟨num T x, num_lt hE hT, hb, at_num hT hE⟩)
/-- the canonical sequences of a list of sets -/
def CanS (T : Tw) (ms : List Nat) (us : List (List (List Nat))) : Prop := us.length = ms.length ∧ ∀ (i M : Nat) (u : List (List Nat)), ms[i]? = some M → us[i]? = some u → CanL T (mel T M) u
def Subs (T : Tw) (ms : List Nat) : Prop := ms.Nodup ∧ ∀ K, K ∈ ms ↔ SubM T K
theorem CanS.im {T : Tw} (hT : Wf T) (hg : Tow.Good T) (hp : Prm T) {M : Nat} {u : List (List Nat)} (hM : SubM T M) (h : CanL T (mel T M) u) (c : List Nat) : Im T (subT T u) u c ↔ El T c ∧ M.testBit (num T c) = true := ((can_chn hT hg hp h).2 c).trans (gen_mel hT hg hM c)
theorem CanS.mem {T : Tw} {ms : List Nat} {us : List (List (List Nat))} (h : CanS T ms us) {u : List (List Nat)} (hu : u ∈ us) : ∃ M ∈ ms, CanL T (mel T M) u := by
  obtain ⟨i, hi⟩ := List.getElem?_of_mem hu
  have hil := (List.getElem?_eq_some_iff.1 hi).1
  obtain ⟨M, hM⟩ : ∃ M, ms[i]? = some M := ⟨_, List.getElem?_eq_getElem (by rw [← h.1]; exact hil)⟩
  exact ⟨M, List.mem_of_getElem? hM, h.2 i M u hM hi⟩
theorem CanS.mem' {T : Tw} {ms : List Nat} {us : List (List (List Nat))} (h : CanS T ms us) {M : Nat} (hM : M ∈ ms) : ∃ u ∈ us, CanL T (mel T M) u := by
  obtain ⟨i, hi⟩ := List.getElem?_of_mem hM
  have hil := (List.getElem?_eq_some_iff.1 hi).1
  obtain ⟨u, hu⟩ : ∃ u, us[i]? = some u := ⟨_, List.getElem?_eq_getElem (by rw [h.1]; exact hil)⟩
  exact ⟨u, List.mem_of_getElem? hu, h.2 i M u hi hu⟩
/-- the subgroups that are copies -/
noncomputable def cps (Q T : Tw) (us : List (List (List Nat))) : List (List (List Nat)) := by
  classical exact us.filter fun u => decide (sz (subT Q u) = sz T ∧ growV (subT Q u) T T.length [] ≠ [])
theorem count {Q T : Tw} (hQ : Wf Q) (hg : Tow.Good Q) (hpQ : Prm Q) (hT : Wf T) (hgT : Tow.Good T) (hp : Prm T) {ms : List Nat} {us us' : List (List (List Nat))} (hS : Subs Q ms) (hC : CanS Q ms us) (hP : us'.Perm us) :
    (growV Q T T.length []).length = (cps Q T us').length * (growV T T T.length []).length := by
  classical
  have hM : ∀ M ∈ ms, SubM Q M := fun M h => (hS.2 M).1 h
  have h := copies hQ hg hT hgT hp us' (subT Q) (fun u hu => ?_) ?_ (fun es hE => ?_)
  · rw [h]
    unfold cps
    congr 3
  · obtain ⟨M, hm, hc⟩ := hC.mem (hP.mem_iff.1 hu)
    have hch := (can_chn hQ hg hpQ hc).1
    have X := chn_mx hQ hg hpQ hch
    exact ⟨X.wf, X.gd, sub_prm hpQ hch, X.em⟩
  · refine (hP.pairwise_iff (fun {a b} hab hba => hab fun c => (hba c).symm)).2 ?_
    refine List.pairwise_iff_getElem.2 fun i j hi hj hij hsame => ?_
    have hi' : i < ms.length := by rw [← hC.1]; exact hi
    have hj' : j < ms.length := by rw [← hC.1]; exact hj
    have hci := hC.2 i _ _ (List.getElem?_eq_getElem hi') (List.getElem?_eq_getElem hi)
    have hcj := hC.2 j _ _ (List.getElem?_eq_getElem hj') (List.getElem?_eq_getElem hj)
    have h1 := hM _ (List.getElem_mem hi')
    have h2 := hM _ (List.getElem_mem hj')
    refine (List.pairwise_iff_getElem.1 hS.1 i j hi' hj' hij) ?_
    refine Leq.eq (fun c hc => ?_) (fun c hc => ?_)
    · have hlt := h1.inn c hc
      have e : num Q (at_ Q c) = c := by rw [num_at, Nat.mod_eq_of_lt hlt]
      have := (CanS.im hQ hg hpQ h2 hcj (at_ Q c)).1 ((hsame _).1 ((CanS.im hQ hg hpQ h1 hci _).2 ⟨at_El hQ c, by rw [e]; exact hc⟩))
      rw [e] at this
      exact this.2
    · have hlt := h2.inn c hc
      have e : num Q (at_ Q c) = c := by rw [num_at, Nat.mod_eq_of_lt hlt]
      have := (CanS.im hQ hg hpQ h1 hci (at_ Q c)).1 ((hsame _).2 ((CanS.im hQ hg hpQ h2 hcj _).2 ⟨at_El hQ c, by rw [e]; exact hc⟩))
      rw [e] at this
      exact this.2
  · let K := msk (fun c => decide (Im Q T es (at_ Q c))) (sz Q)
    have hb : ∀ c, K.testBit c = true ↔ c < sz Q ∧ Im Q T es (at_ Q c) := fun c => by
      show (msk _ _).testBit c = true ↔ _
      rw [msk_bit]; simp
    have hK : SubM Q K := ⟨fun c hc => ((hb c).1 hc).1, (hb 0).2 ⟨sz_pos hQ, by rw [at_zero hQ]; exact im_one hQ hg hT⟩, fun a b ha hb' => (hb _).2 ⟨pr_lt hQ a b, by
      rw [at_pr hQ]; exact im_mul hQ hg hT hE.el hE.rel ((hb a).1 ha).2 ((hb b).1 hb').2⟩⟩
    obtain ⟨u, hu, hc⟩ := hC.mem' ((hS.2 K).2 hK)
    refine ⟨u, hP.mem_iff.2 hu, fun c => (CanS.im hQ hg hpQ hK hc c).trans ?_⟩
    constructor
    · rintro ⟨h1, h2⟩
      have := ((hb _).1 h2).2
      rwa [at_num hQ h1] at this
    · intro hi
      have hcE : El Q c := by
        obtain ⟨z, _, rfl⟩ := hi
        exact (grp hQ hg).ev hE.el z
      exact ⟨hcE, (hb _).2 ⟨num_lt hcE hQ, by rw [at_num hQ hcE]; exact hi⟩⟩
/-- a list of sets under way -/
theorem subs_len {T : Tw} {ms : List Nat} (hz : sz T ≤ 32) (hn : ms.Nodup) (h : ∀ M ∈ ms, SubM T M) : ms.length ≤ 4294967296 := by
  have := List.Nodup.length_le_of_subset (l₂ := List.range 4294967296) hn fun M hM => List.mem_range.2 ((h M hM).lt hz)
  rwa [List.length_range] at this
end Go.Proofs.YtabkibmnghbahaaGreat.CcF
