import Derived.Test.YtabkibmnghbahaaGreatSpecN
import Derived.Test.YtabkibmnghbahaaGreatGens
import Derived.Deep.RegionLaw
import Derived.Test.YtabkibmnghbahaaGreatOwn2
namespace Go.Proofs.YtabkibmnghbahaaGreat.SpecI
open Go.RowKit Go.Proofs.YtabkibmnghbahaaGreat Go.Proofs.YtabkibmnghbahaaGreat.Tow Go.Proofs.YtabkibmnghbahaaGreat.GenC Go.Proofs.YtabkibmnghbahaaGreat.SpecA Go.Proofs.YtabkibmnghbahaaGreat.SpecB Go.Proofs.YtabkibmnghbahaaGreat.SpecD
set_option linter.unusedVariables false
set_option linter.unusedSimpArgs false


/-- the relative orders are small primes -/
def Pr (T : Tw) : Prop := ∀ L ∈ T, L.o = 2 ∨ L.o = 3 ∨ L.o = 5 ∨ L.o = 7
theorem inv_ex {a p : Nat} (hp : p = 2 ∨ p = 3 ∨ p = 5 ∨ p = 7) (ha : a < p) (h0 : a ≠ 0) : ∃ c, 1 ≤ c ∧ c < p ∧ a * c % p = 1 := by
  rcases hp with rfl | rfl | rfl | rfl
  · exact ⟨1, by omega, by omega, by obtain rfl : a = 1 := by omega
                                     rfl⟩
  · obtain rfl | rfl : a = 1 ∨ a = 2 := by omega
    · exact ⟨1, by omega, by omega, rfl⟩
    · exact ⟨2, by omega, by omega, rfl⟩
  · obtain rfl | rfl | rfl | rfl : a = 1 ∨ a = 2 ∨ a = 3 ∨ a = 4 := by omega
    · exact ⟨1, by omega, by omega, rfl⟩
    · exact ⟨3, by omega, by omega, rfl⟩
    · exact ⟨2, by omega, by omega, rfl⟩
    · exact ⟨4, by omega, by omega, rfl⟩
  · obtain rfl | rfl | rfl | rfl | rfl | rfl : a = 1 ∨ a = 2 ∨ a = 3 ∨ a = 4 ∨ a = 5 ∨ a = 6 := by omega
    · exact ⟨1, by omega, by omega, rfl⟩
    · exact ⟨4, by omega, by omega, rfl⟩
    · exact ⟨5, by omega, by omega, rfl⟩
    · exact ⟨2, by omega, by omega, rfl⟩
    · exact ⟨3, by omega, by omega, rfl⟩
    · exact ⟨6, by omega, by omega, rfl⟩

theorem mod_any (a p : Nat) (hp : 0 < p) (hp7 : p ≤ 7) (ha : a < p) (w : World) : Calls Tryz.prog 184 #[.int .i64 (a : Int), .int .i64 (p : Int)] w fun e w' => e = .returned (.int .i64 (a : Int)) ∧ w = w' := by
  have h1 : (a : Int).tmod (p : Int) = (a : Int) := by rw [Int.tmod_eq_emod_of_nonneg (by omega)]; exact Int.emod_eq_of_lt (by omega) (by omega)
  have h2 : ((p : Int) == 0) = false := by simp; omega
  have h3 : decide ((a : Int) < 0) = false := by simp
  have h4 : IntKind.i64.wrap (a : Int) = (a : Int) := IntWalk.i64_in _ (by omega)
  go_enter Tryz.func184, Tryz.ntmps184
  go_wp2_with fail
  go_ret
  exact ⟨by simp [*], rfl⟩

set_option maxHeartbeats 1000000 in
theorem inv_any (a p : Nat) (hp : p = 2 ∨ p = 3 ∨ p = 5 ∨ p = 7) (ha : a < p) (h0 : a ≠ 0) (w : World) : Calls Tryz.prog 163 #[.int .i64 (a : Int), .int .i64 (p : Int)] w fun e w' => (∃ c : Nat, e = .returned (.int .i64 (c : Int)) ∧ c < p ∧ a * c % p = 1) ∧ w = w' := by
  have HEX := Lib.hid (inv_ex hp ha h0)
  have hp7 : p ≤ 7 := by omega
  have hp0 : 0 < p := by omega
  clear hp
  go_enter Tryz.func163, Tryz.ntmps163
  go_wp2_with fail
  go_loop [5] (fun v => ∃ k : Nat, 1 ≤ k ∧ k ≤ p ∧ v = .int .i64 (k : Int) ∧ Hid (∀ c, 1 ≤ c → c < k → a * c % p ≠ 1)) (fun v => p - (intOf v).toNat)
  case atStart => exact ⟨1, by omega, by omega, rfl, Lib.hid (fun c h1 h2 => by omega)⟩
  case round =>
    obtain ⟨k, hk1, hk, rfl, hR⟩ := hrel
    by_cases hlt : k < p
    · have hd : decide ((k : Int) < (p : Int)) = true := by simp; omega
      have hz : ((p : Int) == 0) = false := by simp; omega
      have hak : a * k ≤ 49 := Nat.mul_le_mul (show a ≤ 7 by omega) (show k ≤ 7 by omega)
      obtain ⟨m, hm⟩ : ∃ m, m = a * k := ⟨_, rfl⟩
      obtain ⟨r, hr⟩ : ∃ r, r = m % p := ⟨_, rfl⟩
      have hrp : r < p := by rw [hr]; exact Nat.mod_lt _ hp0
      have hw1 : IntKind.i64.wrap ((a : Int) * (k : Int)) = (m : Int) := by rw [← Int.natCast_mul, ← hm]; exact IntWalk.i64_in _ (by omega)
      have hw2 : (m : Int).tmod (p : Int) = (r : Int) := by rw [Int.tmod_eq_emod_of_nonneg (by omega), hr]; exact (Int.natCast_emod _ _).symm
      have hw3 : IntKind.i64.wrap (r : Int) = (r : Int) := IntWalk.i64_in _ (by omega)
      have HM := Lib.hid hm
      have HRR := Lib.hid hr
      clear hm hr hak
      by_cases h1 : r = 1
      · have hb : ((r : Int) == 1) = true := by rw [h1]; rfl
        have HK := Lib.hid (show a * k % p = 1 by rw [← HM.out, ← HRR.out, h1])
        clear h1
        go_wp2_with (go_at_call 184; refine (mod_any a p hp0 hp7 ha _).mono ?_; rintro e w' ⟨rfl, rfl⟩)
        go_ret
        exact ⟨⟨k, rfl, hlt, HK.out⟩, rfl⟩
      · have hb : ((r : Int) == 1) = false := by simp; omega
        have HK := Lib.hid (show a * k % p ≠ 1 by rw [← HM.out, ← HRR.out]; exact h1)
        clear h1
        go_wp2_with (go_at_call 184; refine (mod_any a p hp0 hp7 ha _).mono ?_; rintro e w' ⟨rfl, rfl⟩)
        go_round
        case rel => exact ⟨k + 1, by omega, by omega, by go_num, Lib.hid (fun c h1 h2 => by
          rcases Nat.lt_succ_iff_lt_or_eq.1 h2 with h | h
          · exact hR.out c h1 h
          · subst h; exact HK.out)⟩
        case measure => simp [intOf]; omega
    · exfalso
      obtain ⟨c, h1, h2, h3⟩ := HEX.out
      exact hR.out c h1 (by omega) h3

set_option maxHeartbeats 1000000 in
theorem lead_any (w : World) (v : Value) (x : List Nat) (hx : SlI Any w v (ints x)) (d a : Nat) (h0 : ∀ j, j < d → x[j]? = some 0) (ha : x[d]? = some a) (hne : a ≠ 0) (hl : x.length ≤ 1000000) :
    Calls Tryz.prog 193 #[v] w fun e w' => e = .returned (.int .i64 (d : Int)) ∧ w = w' := by
  obtain ⟨aX, cX, rfl, hcx⟩ := hx.open
  have HX := Lib.hid hx
  have H0 := Lib.hid h0
  have HA := Lib.hid ha
  have hdl : d < x.length := (List.getElem?_eq_some_iff.1 ha).1
  clear hx h0 ha
  go_enter Tryz.func193, Tryz.ntmps193
  go_wp2_with fail
  go_loop [3] (fun v => ∃ k : Nat, k ≤ d ∧ v = .int .i64 (k : Int)) (fun v => d + 1 - (intOf v).toNat)
  case atStart => exact ⟨0, by omega, rfl⟩
  case round =>
    obtain ⟨k, hk, rfl⟩ := hrel
    by_cases hlt : k < d
    · obtain ⟨bX, oX, rfl, _, _, hcX⟩ := HX.out.at (H0.out k hlt)
      go_wp2_with fail
      go_round
      case rel => exact ⟨k + 1, by omega, by go_num⟩
      case measure => simp [intOf]; omega
    · obtain rfl : k = d := by omega
      obtain ⟨bX, oX, rfl, _, _, hcX⟩ := HX.out.at HA.out
      have hn : ((a : Int) != 0) = true := by simp; omega
      go_wp2_with fail
      go_ret
      exact ⟨rfl, rfl⟩
theorem depth_any (w : World) (v : Value) (x : List Nat) (hx : SlI Any w v (ints x)) (d a : Nat) (h0 : ∀ j, j < d → x[j]? = some 0) (ha : x[d]? = some a) (hne : a ≠ 0) (hl : x.length ≤ 1000000) :
    Calls Tryz.prog 183 #[v] w fun e w' => e = .returned (.int .i64 (d : Int)) ∧ w = w' := by
  have HC := Lib.hid (lead_any w v x hx d a h0 ha hne hl)
  clear hx h0 ha hne
  go_enter Tryz.func183, Tryz.ntmps183
  go_wp2_with (go_at_call 193; refine HC.out.mono ?_; rintro e w' ⟨rfl, rfl⟩)
  go_ret
  exact ⟨rfl, rfl⟩
end Go.Proofs.YtabkibmnghbahaaGreat.SpecI

namespace Go.Proofs.YtabkibmnghbahaaGreat.SpecJ
open Go.RowKit Go.Proofs.YtabkibmnghbahaaGreat Go.Proofs.YtabkibmnghbahaaGreat.Tow Go.Proofs.YtabkibmnghbahaaGreat.GenC Go.Proofs.YtabkibmnghbahaaGreat.SpecA Go.Proofs.YtabkibmnghbahaaGreat.SpecB Go.Proofs.YtabkibmnghbahaaGreat.SpecD Go.Proofs.YtabkibmnghbahaaGreat.SpecE Go.Proofs.YtabkibmnghbahaaGreat.SpecI
set_option linter.unusedVariables false
set_option linter.unusedSimpArgs false

theorem vinv_zero {L : Lv} {T : Tw} (h : Wf (L :: T)) (hg : Tow.Good (L :: T)) {x : List Nat} (hx : El T x) : vinv (L :: T) (0 :: x) = 0 :: vinv T x := by
  have ho := h.1
  have h5 := h.2.2.2.2
  have hv := vinv_spec h5 hg.1 hx
  refine (vinv_eq h hg (x := 0 :: x) (y := 0 :: vinv T x) ⟨by omega, hx⟩ ⟨by omega, hv.1⟩ ?_).symm
  rw [mul_cons, if_neg (by omega), it, hv.2.1]; rfl
theorem it_one {L : Lv} {T : Tw} (h : Wf (L :: T)) (hg : Tow.Good T) (k : Nat) : it (img T L.c) k (one T) = one T := by
  have h5 := h.2.2.2.2
  have G := grp h5 hg
  have h1 : img T L.c (one T) = one T := by
    have : ∀ (cs : List (List Nat)) n, prodL (mul T) (one T) cs (List.replicate n 0) = one T := by
      intro cs
      induction cs with
      | nil => intro n; cases n <;> rfl
      | cons c cs ih => intro n; cases n with
        | zero => rfl
        | succ n => exact ih n
    exact this L.c _
  induction k with
  | zero => rfl
  | succ k ih => rw [it, h1, ih]
theorem vinv_pos {L : Lv} {T : Tw} (h : Wf (L :: T)) (hg : Tow.Good (L :: T)) {a : Nat} (ha0 : a ≠ 0) {x : List Nat} (hx : El (L :: T) (a :: x)) :
    vinv (L :: T) (a :: x) = mul (L :: T) (mul (L :: T) (0 :: vinv T x) ((L.o - a) :: one T)) (0 :: vinv T L.w) ∧ El (L :: T) ((L.o - a) :: one T) ∧ El (L :: T) (0 :: vinv T x) ∧ El (L :: T) (0 :: vinv T L.w) := by
  have ho := h.1
  have h5 := h.2.2.2.2
  have hw := h.2.1
  have ha := hx.1
  have hxE := hx.2
  have G := grp h5 hg.1
  have GG := grp h hg
  have hv := vinv_spec h5 hg.1 hxE
  have hvw := vinv_spec h5 hg.1 hw
  have e1 : El (L :: T) ((L.o - a) :: one T) := ⟨by omega, El_one h5⟩
  have e2 : El (L :: T) (0 :: vinv T x) := ⟨by omega, hv.1⟩
  have e3 : El (L :: T) (0 :: vinv T L.w) := ⟨by omega, hvw.1⟩
  have e4 : El (L :: T) (a :: one T) := ⟨ha, El_one h5⟩
  have e5 : El (L :: T) (0 :: x) := ⟨by omega, hxE⟩
  refine ⟨(vinv_eq h hg hx (GG.cl (GG.cl e2 e1) e3) ?_).symm, e1, e2, e3⟩
  have f1 : a :: x = mul (L :: T) (a :: one T) (0 :: x) := by
    rw [mul_cons, if_neg (by omega), it, G.eL hxE]; rfl
  have f2 : mul (L :: T) (0 :: x) (0 :: vinv T x) = one (L :: T) := by
    rw [mul_cons, if_neg (by omega), it, hv.2.1]; rfl
  have f3 : mul (L :: T) (a :: one T) ((L.o - a) :: one T) = 0 :: L.w := by
    rw [mul_cons, if_pos (by omega), it_one h hg.1, G.eL G.me, G.eR hw, show a + (L.o - a) - L.o = 0 by omega]
  have f4 : mul (L :: T) (0 :: L.w) (0 :: vinv T L.w) = one (L :: T) := by
    rw [mul_cons, if_neg (by omega), it, hvw.2.1]; rfl
  rw [f1, ← GG.as (GG.cl e4 e5) (GG.cl e2 e1) e3, GG.as e4 e5 (GG.cl e2 e1), ← GG.as e5 e2 e1, f2, GG.eL e1, f3, f4]

theorem El_vinv {T : Tw} (h : Wf T) (hg : Tow.Good T) {x : List Nat} (hx : El T x) : El T (vinv T x) := (vinv_spec h hg hx).1
theorem Below.step {B : Nat} {w a b : World} (h : Below B w a) (hB : B ≤ w.heap.size) (hb : Below a.heap.size a b) : Below B w b := h.trans (hb.mono (Nat.le_trans hB h.size))
/-- the inverse in a tail -/
def FromSpec (T : Tw) (i : Nat) : Prop := ∀ (w : World) (vO vP vC vx : Value) (x : List Nat), ValP Any w vO vP vC (ofTw T) → SlI Any w vx (ints x) → x.length = T.length → El (T.drop i) (x.drop i) →
  Calls Tryz.prog 185 #[.agg #[vO, vP, vC], .int .i64 (i : Int), vx] w (NewI (ints (pad i (vinv (T.drop i) (x.drop i)))) w)

set_option maxHeartbeats 1000000 in
theorem from_end (T : Tw) (hs : Small T) : FromSpec T T.length := by
  intro w vO vP vC vx x hP hx hl hE
  have hs6 := hs.1
  have hmk := mk22 T.length hs6
  obtain ⟨aO, cO, aP, cP, aC, cC, rfl, rfl, rfl, hO1, hP1, hC1⟩ := hP.open
  have HN := Lib.hid (Own.made (B := w.heap.size) (w.alloc (.cells #[.slice aO T.length cO, .slice aP T.length cP, .slice aC T.length cC] 30)) T.length (by simp) (by unfold maxLen; omega))
  have HV := Lib.hid (show pad T.length (vinv (T.drop T.length) (x.drop T.length)) = List.replicate T.length 0 from by
    rw [List.drop_length]
    have : El [] (vinv [] (x.drop T.length)) := (vinv_spec (T := []) trivial trivial (x := x.drop T.length) (by rw [← hl, List.drop_length]; trivial)).1
    cases h : vinv [] (x.drop T.length) with
    | nil => simp [pad]
    | cons a b => rw [h] at this; exact this.elim)
  clear hP hx hE
  go_enter Tryz.func185, Tryz.ntmps185
  go_wp2_with fail
  go_ret
  have h := HN.out
  rw [ints_replicate] at h
  rw [HV.out]
  refine ⟨_, rfl, ?_, ((Below.refl _ _).alloc (Nat.le_refl _) _).alloc (by simp) _⟩
  have hz : (w.alloc (.cells #[.slice aO T.length cO, .slice aP T.length cP, .slice aC T.length cC] 30)).heap.size = w.heap.size + 1 := by simp
  rw [hz] at h
  exact h
set_option maxRecDepth 100000 in
set_option maxHeartbeats 4000000 in
theorem from_of (T : Tw) (hT : Wf T) (hs : Small T) (i : Nat) (L : Lv) (hL : T[i]? = some L) (hgi : Tow.Good (T.drop i)) (hF : FromSpec T (i + 1)) : FromSpec T i := by
  intro w vO vP vC vx x hP hx hl hE
  have hi : i < T.length := (List.getElem?_eq_some_iff.1 hL).1
  have hs6 := hs.1
  have hmk := mk22 T.length hs6
  obtain ⟨aO, cO, aP, cP, aC, cC, rfl, rfl, rfl, hO1, hP1, hC1⟩ := hP.open
  obtain ⟨aX, cX, rfl, hX1⟩ := hx.open
  rw [hl] at hX1 hx ⊢
  obtain ⟨bO, oO, rfl, _, hbO, hcO⟩ := hP.ord hL
  obtain ⟨bP, oP, uP, rfl, _, hbP, hcP, huP⟩ := hP.pow hL
  obtain ⟨a, ha⟩ : ∃ a, x[i]? = some a := ⟨_, List.getElem?_eq_getElem (by omega)⟩
  obtain ⟨bX, oX, rfl, _, hbX, hcX⟩ := hx.at ha
  have hd := drop_cons' hL
  have hWd := Wf_drop hT i
  rw [hd] at hWd hgi
  have hxd : x.drop i = a :: x.drop (i + 1) := by rw [List.drop_eq_getElem_cons (show i < x.length by omega), (List.getElem?_eq_some_iff.1 ha).2]
  rw [hd, hxd] at hE
  have ho7 : L.o ≤ 7 := hs.2 L (List.mem_of_getElem? hL)
  have hao : a < L.o := hE.1
  have hlx : (ints x).length = T.length := by rw [ints_length]; exact hl
  have hres0 : a = 0 → pad i (vinv (T.drop i) (x.drop i)) = pad (i + 1) (vinv (T.drop (i + 1)) (x.drop (i + 1))) := fun h0 => by
    rw [hd, hxd, h0, vinv_zero hWd hgi hE.2, ← pad_add]; rfl
  have hpp : ∀ y : List Nat, pad (i + 1) y = pad i (0 :: y) := fun y => by rw [← pad_add]; rfl
  have HP := Lib.hid hP
  have HX := Lib.hid hx
  have HFR := Lib.hid hF
  have HAT := Lib.hid (at_any T hT hs i (Nat.le_of_lt hi))
  have HUP := Lib.hid huP
  have HC := Lib.hid (And.intro hcO (And.intro hcP hcX))
  have HR0 := Lib.hid hres0
  have HE := Lib.hid hE
  have HW := Lib.hid (And.intro hWd hgi)
  have HD := Lib.hid hd
  have HXD := Lib.hid hxd
  have HPP := Lib.hid hpp
  have HPOS := Lib.hid (fun h0 => vinv_pos hWd hgi (a := a) h0 hE)
  have HVE := Lib.hid (vinv_spec hWd.2.2.2.2 hgi.1 hE.2).1
  have hHA := Lib.hid ha
  clear hP hx hF huP hcO hcP hcX hres0 hE hWd hgi hd hxd hpp ha hT hs hL
  obtain ⟨wb, hwb⟩ : ∃ wb, wb = w.alloc (.cells #[.slice (some ⟨bO, oO, none⟩) T.length cO, .slice (some ⟨bP, oP, none⟩) T.length cP, .slice aC T.length cC] 30) := ⟨_, rfl⟩
  go_enter Tryz.func185, Tryz.ntmps185
  go_upto_region 4 with fail
  rw [← hwb]
  have HB0 := Lib.hid (show Below (w.heap.size + 1) (w.alloc (.cells #[.slice (some ⟨bO, oO, none⟩) T.length cO, .slice (some ⟨bP, oP, none⟩) T.length cP, .slice aC T.length cC] 30)) wb by rw [hwb]; exact Below.refl _ _)
  clear hwb
  have w6 : (i : Int) < (T.length : Int) := by omega
  have w7 : (0 : Int) ≤ (i : Int) := by omega
  have w3 : IntKind.i64.wrap ((i : Int) + 1) = (i : Int) + 1 := IntWalk.i64_in _ (by omega)
  go_wp2_with fail
  refine (own_any Any _ _ _ (HX.out.keep (keep_boxed HB0.out Any)) (by omega)).mono ?_
  rintro e w1 ⟨g1, c1, rfl, ho1, hb1⟩
  rw [hlx] at ho1 ⊢
  have hwb : w.heap.size + 1 ≤ wb.heap.size := by have := HB0.out.size; simp at this; omega
  have HB1 := Lib.hid (HB0.out.trans (hb1.mono hwb))
  have hlt1 := ho1.lt
  obtain ⟨s1, f1⟩ := ho1.cell (j := i) (a := (a : Int)) (by rw [ints_get, hHA.out]; rfl)
  obtain ⟨hS, hG⟩ := ho1.set_n i 0
  have HO1 := Lib.hid hS
  have HB2 := Lib.hid (HB1.out.grown hG (by have := HB1.out.size; simp at this; omega) (by intro k hk; cases hk; omega))
  obtain ⟨e0, e1, e2⟩ := box_cells HB1.out
  have hne : ¬ w.heap.size = g1 := by omega
  have hne' : ¬ g1 = w.heap.size := by omega
  clear ho1 hb1 hS hG
  go_upto_region 6 with fail
  have hsetd : (x.set i 0).drop (i + 1) = x.drop (i + 1) := by simp [List.drop_set]
  go_wp2_with fail
  refine (HFR.out _ _ _ _ _ (x.set i 0) (HP.out.keep (keep_boxed HB2.out Any)) (HO1.out.sl.mono (fun _ _ => trivial)) (by simp [hl]) (by rw [hsetd]; exact HE.out.2)).mono ?_
  rintro e w3 ⟨v3, rfl, ho3, hb3⟩
  rw [hsetd] at ho3
  have hs1 : w.heap.size + 1 ≤ w1.heap.size := by have := HB1.out.size; simp at this; omega
  have HB3 := Lib.hid (HB2.out.trans (hb3.mono (by simp; omega)))
  have HO3 := Lib.hid (ho3.mono (B' := w.heap.size) (by simp; omega))
  have hk3 := keep_boxed HB3.out Any
  have hcX3 : w3.cell? ⟨bX, oX + i, none⟩ = some (.int .i64 (a : Int)) := by rw [hk3.cell trivial hbX]; exact HC.out.2.2
  have hs3 : w.heap.size + 1 ≤ w3.heap.size := by have := HB3.out.size; simp at this; omega
  clear ho3 hb3 e0 e1 e2 s1 f1 HB2 HO1 hsetd
  obtain ⟨e0, e1, e2⟩ := box_cells HB3.out
  by_cases h0 : a = 0
  · have hz : ((a : Int) == 0) = true := by rw [h0]; rfl
    have HR := Lib.hid (HR0.out h0)
    have HBU := Lib.hid (below_unboxed HB3.out)
    clear hk3
    go_wp2_with fail
    go_ret
    rw [HR.out]
    exact ⟨_, rfl, HO3.out, HBU.out⟩
  · have hz : ((a : Int) == 0) = false := by simp; omega
    obtain ⟨hv1, hv2, hv3, hv4⟩ := HPOS.out h0
    have hcO3 : w3.cell? ⟨bO, oO + i, none⟩ = some (.int .i64 (L.o : Int)) := by rw [hk3.cell trivial hbO]; exact HC.out.1
    have hcP3 : w3.cell? ⟨bP, oP + i, none⟩ = some uP := by rw [hk3.cell trivial hbP]; exact HC.out.2.1
    have hbO3 : bO < w3.heap.size := by omega
    have hbX3 : bX < w3.heap.size := by omega
    have hbP3 : bP < w3.heap.size := by omega
    have hww : w.heap.size < w3.heap.size := by omega
    have w1' : IntKind.i64.wrap ((L.o : Int) - (a : Int)) = ((L.o - a : Nat) : Int) := by rw [IntWalk.i64_in _ (by omega)]; omega
    obtain ⟨w4, hw4⟩ : ∃ w4, w4 = w3.alloc (.cells (madeCells #[.int .i64 0] T.length) 2) := ⟨_, rfl⟩
    have hN : Own w.heap.size w4 (.slice (some ⟨w3.heap.size, 0, none⟩) T.length T.length) (ints (List.replicate T.length 0)) := by
      rw [hw4, ← ints_replicate]; exact Own.made (B := w.heap.size) w3 T.length (by omega) (by unfold maxLen; omega)
    have HV := Lib.hid (And.intro hv1 (And.intro hv2 (And.intro hv3 hv4)))
    clear hv1 hv2 hv3 hv4
    go_upto_region 10 with fail
    rw [← hw4]
    have HB4 := Lib.hid (show Below (w.heap.size + 1) _ w4 by rw [hw4]; exact HB3.out.alloc hs3 _)
    have k4 : Keep (fun _ => True) w3 w4 := by rw [hw4]; exact (Keep.refl _ _).alloc _
    have hs4 : w3.heap.size < w4.heap.size := by rw [hw4]; simp
    have hcO4 := (k4.cell (b := bO) (o := oO + i) trivial hbO3).trans hcO3
    have hcX4 := (k4.cell (b := bX) (o := oX + i) trivial hbX3).trans hcX3
    have d0 := (k4.cell (b := w.heap.size) (o := 0) trivial hww).trans e0
    obtain ⟨s4, f4⟩ := hN.cell (j := i) (a := 0) (by rw [ints_get]; simp [hi])
    obtain ⟨hS, hG⟩ := hN.set_n i (L.o - a)
    have HS4 := Lib.hid hS
    have HG4 := Lib.hid hG
    have HKE4 := Lib.hid k4
    have hA4 : ¬ w.heap.size = w3.heap.size := by omega
    have hX4 : ¬ bX = w3.heap.size := by omega
    have hO4 : ¬ bO = w3.heap.size := by omega
    clear hw4 hN hS hG k4 hk3 e0 e1 e2 hcO3 hcX3 hcP3
    go_cut [10] (fun tv W => tv = .slice (some ⟨w3.heap.size, 0, none⟩) T.length T.length ∧ Hid (W = (w4.setCell ⟨w3.heap.size, i, none⟩ (.int .i64 ((L.o - a : Nat) : Int))).drew))
    case first =>
      go_region_law (fail)
      all_goals (go_wp2_with fail; go_meet)
      all_goals exact ⟨rfl, Lib.hid rfl⟩
    case rest =>
      obtain ⟨rfl, HW5⟩ := hcut
      have hw5 := HW5.out
      rename World => w5
      have hB5 : Below (w.heap.size + 1) (w.alloc (.cells #[.slice (some ⟨bO, oO, none⟩) T.length cO, .slice (some ⟨bP, oP, none⟩) T.length cP, .slice aC T.length cC] 30)) w5 := by
        rw [hw5]; exact (HB4.out.grown HG4.out (by have := HB4.out.size; simp at this; omega) (by intro k hk; cases hk; omega)).drew
      have hT5 : Own w.heap.size w5 (.slice (some ⟨w3.heap.size, 0, none⟩) T.length T.length) (ints (pad i ((L.o - a) :: one (T.drop (i + 1))))) := by
        have h := HS4.out.drew
        rw [show (List.replicate T.length 0).set i (L.o - a) = pad i ((L.o - a) :: one (T.drop (i + 1))) from by
          refine List.ext_getElem (by simp [pad, one]; omega) fun j h1 h2 => ?_
          simp only [pad, one, List.getElem_set, List.getElem_replicate, List.getElem_append, List.length_replicate]
          split
          · next e => subst e; simp
          · next e => split
                      · rfl
                      · rw [List.getElem_cons, dif_neg (by omega), List.getElem_replicate]] at h
        rw [hw5]; exact h
      have hO5 : Own w.heap.size w5 v3 (ints (pad (i + 1) (vinv (T.drop (i + 1)) (x.drop (i + 1))))) := by
        rw [hw5]
        refine (HO3.out.keep (S := fun k => k ≠ w3.heap.size) (((HKE4.out.mono (fun _ _ => trivial)).setCell (by simp) _).drew) (fun k hk => ?_))
        have := (World.ownsRow.lt HO3.out k hk).2
        show k ≠ _
        omega
      have hk5 := keep_boxed hB5 Any
      obtain ⟨e0, e1, e2⟩ := box_cells hB5
      have hs5 : w.heap.size + 1 ≤ w5.heap.size := by have := hB5.size; simp at this; omega
      have hcP5 := (hk5.cell (b := bP) (o := oP + i) trivial hbP).trans HC.out.2.1
      have hbP5 : bP < w5.heap.size := by omega
      have hww5 : w.heap.size < w5.heap.size := by omega
      have HP5 := Lib.hid (HP.out.keep hk5)
      have HU5 := Lib.hid (HUP.out.keep hk5)
      have HT5 := Lib.hid (hT5.sl.mono (S' := Any) (fun _ _ => trivial))
      have HV5 := Lib.hid (hO5.sl.mono (S' := Any) (fun _ _ => trivial))
      have HB5 := Lib.hid hB5
      have L1 := Lib.hid (show (pad (i + 1) (vinv (T.drop (i + 1)) (x.drop (i + 1)))).length = T.length by rw [pad_length, El_length HVE.out]; simp; omega)
      have L2 := Lib.hid (show (pad i ((L.o - a) :: one (T.drop (i + 1)))).length = T.length by rw [pad_length]; simp [one]; omega)
      have L3 := Lib.hid (show (pad (i + 1) L.w).length = T.length by rw [pad_length, El_length HW.out.1.2.1]; simp; omega)
      have F1 := Lib.hid (show El (T.drop i) ((pad (i + 1) (vinv (T.drop (i + 1)) (x.drop (i + 1)))).drop i) by rw [HPP.out, pad_drop, HD.out]; exact HV.out.2.2.1)
      have F2 := Lib.hid (show El (T.drop i) ((pad i ((L.o - a) :: one (T.drop (i + 1)))).drop i) by rw [pad_drop, HD.out]; exact HV.out.2.1)
      have F3 := Lib.hid (show El (T.drop (i + 1)) ((pad (i + 1) L.w).drop (i + 1)) by rw [pad_drop]; exact HW.out.1.2.1)
      have F4 := Lib.hid (show El (T.drop i) (mul (T.drop i) ((pad (i + 1) (vinv (T.drop (i + 1)) (x.drop (i + 1)))).drop i) ((pad i ((L.o - a) :: one (T.drop (i + 1)))).drop i)) by rw [HD.out] at *; exact El_mul HW.out.1 F1.out F2.out)
      have F5 := Lib.hid (show El (T.drop i) ((pad (i + 1) (vinv (T.drop (i + 1)) ((pad (i + 1) L.w).drop (i + 1)))).drop i) by rw [pad_drop, HPP.out, pad_drop, HD.out]; exact HV.out.2.2.2)
      clear hw5 HW5 hB5 hT5 hO5 hk5 HS4 HG4 HKE4 HB4 HO3 HB3 HB1 d0 s4 f4 hcO4 hcX4 HC
      go_wp2_with fail
      go_region_held3 (fun w' => (∀ b o, b < w5.heap.size → w'.cell? ⟨b, o, none⟩ = w5.cell? ⟨b, o, none⟩) ∧ Keep (fun _ => True) w5 w')
        (first | exact ks_mk (by repeat (first | exact (Keep.refl _ _).drew | exact Keep.refl _ _ | refine Keep.trans ?_ (Keep.of_below (by assumption)))))
        (first | (go_at_call_of 168 v3; refine (HAT.out _ _ _ _ v3 (.slice (some ⟨w3.heap.size, 0, none⟩) T.length T.length) _ _ (HP5.out.keep (by repeat (first | exact (Keep.refl _ _).drew | exact Keep.refl _ _ | exact (Keep.refl _ _).alloc _ | exact ((Keep.refl _ _).alloc _).drew | refine Keep.trans ?_ (Keep.of_below (by assumption))))) (HV5.out.keep (by repeat (first | exact (Keep.refl _ _).drew | exact Keep.refl _ _ | exact (Keep.refl _ _).alloc _ | exact ((Keep.refl _ _).alloc _).drew | refine Keep.trans ?_ (Keep.of_below (by assumption))))) (HT5.out.keep (by repeat (first | exact (Keep.refl _ _).drew | exact Keep.refl _ _ | exact (Keep.refl _ _).alloc _ | exact ((Keep.refl _ _).alloc _).drew | refine Keep.trans ?_ (Keep.of_below (by assumption))))) L1.out L2.out F1.out F2.out).mono ?_; rintro e w6 ⟨v6, rfl, ho6, hb6⟩) | (go_at_call 185; refine (HFR.out _ _ _ _ uP _ (HP5.out.keep (by repeat (first | exact (Keep.refl _ _).drew | exact Keep.refl _ _ | exact (Keep.refl _ _).alloc _ | exact ((Keep.refl _ _).alloc _).drew | refine Keep.trans ?_ (Keep.of_below (by assumption))))) (HU5.out.keep (by repeat (first | exact (Keep.refl _ _).drew | exact Keep.refl _ _ | exact (Keep.refl _ _).alloc _ | exact ((Keep.refl _ _).alloc _).drew | refine Keep.trans ?_ (Keep.of_below (by assumption))))) L3.out F3.out).mono ?_; rintro e w7 ⟨v7, rfl, ho7, hb7⟩) | (go_at_call_of 168 v7; refine (HAT.out _ _ _ _ v6 v7 _ _ (HP5.out.keep (by repeat (first | exact (Keep.refl _ _).drew | exact Keep.refl _ _ | exact (Keep.refl _ _).alloc _ | exact ((Keep.refl _ _).alloc _).drew | refine Keep.trans ?_ (Keep.of_below (by assumption))))) ((ho6.sl.mono (fun _ _ => trivial)).keep (by repeat (first | exact (Keep.refl _ _).drew | exact Keep.refl _ _ | exact (Keep.refl _ _).alloc _ | exact ((Keep.refl _ _).alloc _).drew | refine Keep.trans ?_ (Keep.of_below (by assumption))))) ((ho7.sl.mono (fun _ _ => trivial)).keep (by repeat (first | exact (Keep.refl _ _).drew | exact Keep.refl _ _ | exact (Keep.refl _ _).alloc _ | exact ((Keep.refl _ _).alloc _).drew | refine Keep.trans ?_ (Keep.of_below (by assumption))))) (by rw [pad_length, El_length F4.out]; simp; omega) (by rw [pad_length, pad_drop, El_length (El_vinv HW.out.1.2.2.2.2 HW.out.2.1 HW.out.1.2.1)]; simp; omega) (by rw [pad_drop]; exact F4.out) F5.out).mono ?_; rintro e w8 ⟨v8, rfl, ho8, hb8⟩))
      have hs7 : w.heap.size ≤ w7.heap.size := by
        have := (show Keep (fun _ => True) w5 w7 from (by repeat (first | exact (Keep.refl _ _).drew | exact Keep.refl _ _ | exact (Keep.refl _ _).alloc _ | exact ((Keep.refl _ _).alloc _).drew | refine Keep.trans ?_ (Keep.of_below (by assumption))))).size
        omega
      have HB8 := Lib.hid (below_unboxed (show Below (w.heap.size + 1) _ w8 from (by repeat (first | exact HB5.out | exact HB5.out.drew | refine Below.step ?_ (by simp) (by assumption)))))
      have HO8 := Lib.hid (ho8.mono hs7)
      have e1 : (pad (i + 1) (vinv (T.drop (i + 1)) (x.drop (i + 1)))).drop i = 0 :: vinv (T.drop (i + 1)) (x.drop (i + 1)) := by rw [HPP.out, pad_drop]
      have e4 : (pad (i + 1) (vinv (T.drop (i + 1)) L.w)).drop i = 0 :: vinv (T.drop (i + 1)) L.w := by rw [HPP.out, pad_drop]
      have HQ := Lib.hid (show mul (T.drop i) ((pad i (mul (T.drop i) ((pad (i + 1) (vinv (T.drop (i + 1)) (x.drop (i + 1)))).drop i) ((pad i ((L.o - a) :: one (T.drop (i + 1)))).drop i))).drop i) ((pad (i + 1) (vinv (T.drop (i + 1)) ((pad (i + 1) L.w).drop (i + 1)))).drop i) = vinv (T.drop i) (x.drop i) by
        rw [pad_drop (i + 1) L.w, e4, e1, pad_drop, pad_drop, HD.out, HXD.out]; exact HV.out.1.symm)
      clear ho6 ho7 ho8 hb6 hb7 hb8 e1 e4
      go_wp2_with fail
      go_ret
      refine ⟨_, rfl, ?_, HB8.out⟩
      have h := HO8.out
      rwa [HQ.out] at h

theorem from_any (T : Tw) (hT : Wf T) (hs : Small T) (hg : Tow.Good T) (m : Nat) : ∀ i, T.length - i = m → i ≤ T.length → FromSpec T i := by
  induction m with
  | zero =>
    intro i hm hi
    obtain rfl : i = T.length := by omega
    exact from_end T hs
  | succ m ih =>
    intro i hm hi
    obtain ⟨L, hL⟩ : ∃ L, T[i]? = some L := ⟨_, List.getElem?_eq_getElem (by omega)⟩
    exact from_of T hT hs i L hL (Good_drop hg i) (ih (i + 1) (by omega) (by omega))

set_option maxHeartbeats 400000 in
theorem inv_any' (T : Tw) (hT : Wf T) (hs : Small T) (hg : Tow.Good T) (w : World) (vO vP vC vx : Value) (x : List Nat) (hP : ValP Any w vO vP vC (ofTw T)) (hx : SlI Any w vx (ints x)) (hE : El T x) :
    Calls Tryz.prog 167 #[.agg #[vO, vP, vC], vx] w (NewI (ints (vinv T x)) w) := by
  have HP := Lib.hid hP
  have HX := Lib.hid hx
  have HE := Lib.hid hE
  have HF := Lib.hid (from_any T hT hs hg T.length 0 (by omega) (Nat.zero_le _))
  clear hP hx hE
  go_enter Tryz.func167, Tryz.ntmps167
  go_wp2_with fail
  refine (HF.out _ _ _ _ _ x (HP.out.keep ((Keep.refl _ _).alloc _)) (HX.out.keep ((Keep.refl _ _).alloc _)) (El_length HE.out) HE.out).mono ?_
  rintro e w2 ⟨v2, rfl, ho, hb⟩
  have HO := Lib.hid (ho.mono (B' := w.heap.size) (by simp))
  have HB2 := Lib.hid (((Below.refl w.heap.size w).alloc (Nat.le_refl _) _).trans (hb.mono (by simp)))
  clear ho hb
  go_wp2_with fail
  go_ret
  exact ⟨_, rfl, HO.out, HB2.out⟩
end Go.Proofs.YtabkibmnghbahaaGreat.SpecJ

namespace Go.Proofs.YtabkibmnghbahaaGreat.SpecK
open Go.RowKit Go.Proofs.YtabkibmnghbahaaGreat Go.Proofs.YtabkibmnghbahaaGreat.Tow Go.Proofs.YtabkibmnghbahaaGreat.GenC Go.Proofs.YtabkibmnghbahaaGreat.SpecA Go.Proofs.YtabkibmnghbahaaGreat.SpecB Go.Proofs.YtabkibmnghbahaaGreat.SpecD Go.Proofs.YtabkibmnghbahaaGreat.SpecE Go.Proofs.YtabkibmnghbahaaGreat.SpecI Go.Proofs.YtabkibmnghbahaaGreat.SpecJ
set_option linter.unusedVariables false
set_option linter.unusedSimpArgs false


set_option maxRecDepth 100000 in
set_option maxHeartbeats 2000000 in
theorem comm_any (T : Tw) (hT : Wf T) (hs : Small T) (hg : Tow.Good T) (w : World) (vO vP vC vx vy : Value) (x y : List Nat) (hP : ValP Any w vO vP vC (ofTw T)) (hx : SlI Any w vx (ints x)) (hy : SlI Any w vy (ints y)) (hxE : El T x) (hyE : El T y) :
    Calls Tryz.prog 164 #[.agg #[vO, vP, vC], vx, vy] w (NewI (ints (Gen.com (mul T) (vinv T) x y)) w) := by
  have HP := Lib.hid hP
  have HX := Lib.hid hx
  have HY := Lib.hid hy
  have HXE := Lib.hid hxE
  have HYE := Lib.hid hyE
  have HM := Lib.hid (fun W va vb a b hP ha hb hA hB => mul_any T hT hs W vO vP vC va vb a b hP ha hb hA hB)
  have HI := Lib.hid (fun W va a hP ha hA => inv_any' T hT hs hg W vO vP vC va a hP ha hA)
  have HE1 := Lib.hid (El_mul hT hyE hxE)
  have HE2 := Lib.hid (El_mul hT hxE hyE)
  have HE3 := Lib.hid (vinv_spec hT hg (El_mul hT hyE hxE)).1
  obtain ⟨wb, hwb⟩ : ∃ wb, wb = w.alloc (.cells #[vO, vP, vC] 30) := ⟨_, rfl⟩
  clear hP hx hy hxE hyE
  go_enter Tryz.func164, Tryz.ntmps164
  go_upto_region 1 with fail
  rw [← hwb]
  have HB0 := Lib.hid (show Below w.heap.size w wb by rw [hwb]; exact (Below.refl _ _).alloc (Nat.le_refl _) _)
  obtain ⟨e0, e1, e2⟩ := box_cells (w := w) (wr := wb) (by rw [hwb]; exact Below.refl _ _)
  have hsz : w.heap.size < wb.heap.size := by rw [hwb]; simp
  have HPb := Lib.hid (HP.out.keep (w' := wb) (by rw [hwb]; exact (Keep.refl _ _).alloc _))
  have HXb := Lib.hid (HX.out.keep (w' := wb) (by rw [hwb]; exact (Keep.refl _ _).alloc _))
  have HYb := Lib.hid (HY.out.keep (w' := wb) (by rw [hwb]; exact (Keep.refl _ _).alloc _))
  clear hwb HP HX HY
  go_region_held3 (fun w' => (∀ b o, b < wb.heap.size → w'.cell? ⟨b, o, none⟩ = wb.cell? ⟨b, o, none⟩) ∧ Keep (fun _ => True) wb w')
    (first | exact ks_mk (by repeat (first | exact (Keep.refl _ _).drew | exact Keep.refl _ _ | refine Keep.trans ?_ (Keep.of_below (by assumption)))))
    (first | (go_at_call_of 121 v7; refine (HM.out _ v6 v7 _ _ (HPb.out.keep (by repeat (first | exact (Keep.refl _ _).drew | exact Keep.refl _ _ | exact (Keep.refl _ _).alloc _ | exact ((Keep.refl _ _).alloc _).drew | refine Keep.trans ?_ (Keep.of_below (by assumption))))) ((ho6.sl.mono (fun _ _ => trivial)).keep (by repeat (first | exact (Keep.refl _ _).drew | exact Keep.refl _ _ | exact (Keep.refl _ _).alloc _ | exact ((Keep.refl _ _).alloc _).drew | refine Keep.trans ?_ (Keep.of_below (by assumption))))) ((ho7.sl.mono (fun _ _ => trivial)).keep (by repeat (first | exact (Keep.refl _ _).drew | exact Keep.refl _ _ | exact (Keep.refl _ _).alloc _ | exact ((Keep.refl _ _).alloc _).drew | refine Keep.trans ?_ (Keep.of_below (by assumption))))) HE3.out HE2.out).mono ?_; rintro e w8 ⟨v8, rfl, ho8, hb8⟩) | (have g6 := hb6; clear g6; go_at_call 121; refine (HM.out _ vx vy x y (HPb.out.keep (by repeat (first | exact (Keep.refl _ _).drew | exact Keep.refl _ _ | exact (Keep.refl _ _).alloc _ | exact ((Keep.refl _ _).alloc _).drew | refine Keep.trans ?_ (Keep.of_below (by assumption))))) (HXb.out.keep (by repeat (first | exact (Keep.refl _ _).drew | exact Keep.refl _ _ | exact (Keep.refl _ _).alloc _ | exact ((Keep.refl _ _).alloc _).drew | refine Keep.trans ?_ (Keep.of_below (by assumption))))) (HYb.out.keep (by repeat (first | exact (Keep.refl _ _).drew | exact Keep.refl _ _ | exact (Keep.refl _ _).alloc _ | exact ((Keep.refl _ _).alloc _).drew | refine Keep.trans ?_ (Keep.of_below (by assumption))))) HXE.out HYE.out).mono ?_; rintro e w7 ⟨v7, rfl, ho7, hb7⟩) | (go_at_call 167; refine (HI.out _ v5 _ (HPb.out.keep (by repeat (first | exact (Keep.refl _ _).drew | exact Keep.refl _ _ | exact (Keep.refl _ _).alloc _ | exact ((Keep.refl _ _).alloc _).drew | refine Keep.trans ?_ (Keep.of_below (by assumption))))) ((ho5.sl.mono (fun _ _ => trivial)).keep (by repeat (first | exact (Keep.refl _ _).drew | exact Keep.refl _ _ | exact (Keep.refl _ _).alloc _ | exact ((Keep.refl _ _).alloc _).drew | refine Keep.trans ?_ (Keep.of_below (by assumption))))) HE1.out).mono ?_; rintro e w6 ⟨v6, rfl, ho6, hb6⟩) | (go_at_call 121; refine (HM.out _ vy vx y x (HPb.out.keep (by repeat (first | exact (Keep.refl _ _).drew | exact Keep.refl _ _ | exact (Keep.refl _ _).alloc _ | exact ((Keep.refl _ _).alloc _).drew | refine Keep.trans ?_ (Keep.of_below (by assumption))))) (HYb.out.keep (by repeat (first | exact (Keep.refl _ _).drew | exact Keep.refl _ _ | exact (Keep.refl _ _).alloc _ | exact ((Keep.refl _ _).alloc _).drew | refine Keep.trans ?_ (Keep.of_below (by assumption))))) (HXb.out.keep (by repeat (first | exact (Keep.refl _ _).drew | exact Keep.refl _ _ | exact (Keep.refl _ _).alloc _ | exact ((Keep.refl _ _).alloc _).drew | refine Keep.trans ?_ (Keep.of_below (by assumption))))) HYE.out HXE.out).mono ?_; rintro e w5 ⟨v5, rfl, ho5, hb5⟩))
  have hs7 : w.heap.size ≤ w7.heap.size := by
    have := (show Keep (fun _ => True) wb w7 from (by repeat (first | exact (Keep.refl _ _).drew | exact Keep.refl _ _ | exact (Keep.refl _ _).alloc _ | exact ((Keep.refl _ _).alloc _).drew | refine Keep.trans ?_ (Keep.of_below (by assumption))))).size
    omega
  have HB5 := HB0
  have HB8 := Lib.hid (show Below w.heap.size w w8 from (by repeat (first | exact HB5.out | exact HB5.out.drew | refine Below.step ?_ (by simp) (by assumption))))
  have HO8 := Lib.hid (ho8.mono hs7)
  clear ho5 ho6 ho7 ho8 hb5 hb6 hb7 hb8
  go_wp2_with fail
  go_ret
  exact ⟨_, rfl, HO8.out, HB8.out⟩

set_option maxRecDepth 100000 in
set_option maxHeartbeats 2000000 in
/-- a power, the exponent not negative -/
theorem pow_pos_any (T : Tw) (hT : Wf T) (hs : Small T) (hg : Tow.Good T) (w : World) (vO vP vC vx : Value) (x : List Nat) (K : Nat) (hK : K ≤ 1000) (hP : ValP Any w vO vP vC (ofTw T)) (hx : SlI Any w vx (ints x)) (hE : El T x) :
    Calls Tryz.prog 120 #[.agg #[vO, vP, vC], vx, .int .i64 (K : Int)] w (NewI (ints (npow (mul T) (one T) x K)) w) := by
  have HP := Lib.hid hP
  have HX := Lib.hid hx
  have HE := Lib.hid hE
  have hd : decide ((K : Int) < 0) = false := by simp
  have HR := Lib.hid (fun W hP hx => repeat_any T hT hs 0 K (Nat.zero_le _) hg hK W vO vP vC vx x hP hx (El_length hE) hE)
  clear hP hx hE
  go_enter Tryz.func120, Tryz.ntmps120
  go_wp2_with fail
  refine (HR.out _ (HP.out.keep ((Keep.refl _ _).alloc _)) (HX.out.keep ((Keep.refl _ _).alloc _))).mono ?_
  rintro e w2 ⟨v2, rfl, ho, hb⟩
  have HO := Lib.hid (ho.mono (B' := w.heap.size) (by simp))
  have HB2 := Lib.hid (((Below.refl w.heap.size w).alloc (Nat.le_refl _) _).trans (hb.mono (by simp)))
  clear ho hb
  go_wp2_with fail
  go_ret
  exact ⟨_, rfl, HO.out, HB2.out⟩

set_option maxRecDepth 100000 in
set_option maxHeartbeats 2000000 in
/-- a power, the exponent negative -/
theorem pow_neg_any (T : Tw) (hT : Wf T) (hs : Small T) (hg : Tow.Good T) (w : World) (vO vP vC vx : Value) (x : List Nat) (K : Nat) (hK : K ≤ 1000) (hK0 : 0 < K) (hP : ValP Any w vO vP vC (ofTw T)) (hx : SlI Any w vx (ints x)) (hE : El T x) :
    Calls Tryz.prog 120 #[.agg #[vO, vP, vC], vx, .int .i64 (-(K : Int))] w (NewI (ints (npow (mul T) (one T) (vinv T x) K)) w) := by
  have HP := Lib.hid hP
  have HX := Lib.hid hx
  have HE := Lib.hid hE
  have HE1 := Lib.hid (vinv_spec hT hg hE).1
  have hd : decide (-(K : Int) < 0) = true := by simp; omega
  have hw : IntKind.i64.wrap (-(-(K : Int))) = (K : Int) := by rw [IntWalk.i64_in _ (by omega)]; omega
  have hw2 : IntKind.i64.wrap (K : Int) = (K : Int) := IntWalk.i64_in _ (by omega)
  have HI := Lib.hid (fun W va a hP ha hA => inv_any' T hT hs hg W vO vP vC va a hP ha hA)
  have HR := Lib.hid (fun W va hP hx => repeat_any T hT hs 0 K (Nat.zero_le _) hg hK W vO vP vC va (vinv T x) hP hx (El_length HE1.out) HE1.out)
  obtain ⟨wb, hwb⟩ : ∃ wb, wb = w.alloc (.cells #[vO, vP, vC] 30) := ⟨_, rfl⟩
  clear hP hx hE
  go_enter Tryz.func120, Tryz.ntmps120
  go_upto_region 2 with fail
  rw [← hwb]
  have HB5 := Lib.hid (show Below w.heap.size w wb by rw [hwb]; exact (Below.refl _ _).alloc (Nat.le_refl _) _)
  obtain ⟨e0, e1, e2⟩ := box_cells (w := w) (wr := wb) (by rw [hwb]; exact Below.refl _ _)
  have hsz : w.heap.size < wb.heap.size := by rw [hwb]; simp
  have HPb := Lib.hid (HP.out.keep (w' := wb) (by rw [hwb]; exact (Keep.refl _ _).alloc _))
  have HXb := Lib.hid (HX.out.keep (w' := wb) (by rw [hwb]; exact (Keep.refl _ _).alloc _))
  clear hwb HP HX
  go_region_held3 (fun w' => (∀ b o, b < wb.heap.size → w'.cell? ⟨b, o, none⟩ = wb.cell? ⟨b, o, none⟩) ∧ Keep (fun _ => True) wb w')
    (first | exact ks_mk (by repeat (first | exact (Keep.refl _ _).drew | exact Keep.refl _ _ | refine Keep.trans ?_ (Keep.of_below (by assumption)))))
    (first | (go_at_call 167; refine (HI.out _ vx _ (HPb.out.keep (by repeat (first | exact (Keep.refl _ _).drew | exact Keep.refl _ _ | exact (Keep.refl _ _).alloc _ | exact ((Keep.refl _ _).alloc _).drew | refine Keep.trans ?_ (Keep.of_below (by assumption))))) (HXb.out.keep (by repeat (first | exact (Keep.refl _ _).drew | exact Keep.refl _ _ | exact (Keep.refl _ _).alloc _ | exact ((Keep.refl _ _).alloc _).drew | refine Keep.trans ?_ (Keep.of_below (by assumption))))) HE.out).mono ?_; rintro e w6 ⟨v6, rfl, ho6, hb6⟩) | (go_at_call_of 166 (Value.int .i64 (K : Int)); refine (HR.out _ v6 (HPb.out.keep (by repeat (first | exact (Keep.refl _ _).drew | exact Keep.refl _ _ | exact (Keep.refl _ _).alloc _ | exact ((Keep.refl _ _).alloc _).drew | refine Keep.trans ?_ (Keep.of_below (by assumption))))) ((ho6.sl.mono (fun _ _ => trivial)).keep (by repeat (first | exact (Keep.refl _ _).drew | exact Keep.refl _ _ | exact (Keep.refl _ _).alloc _ | exact ((Keep.refl _ _).alloc _).drew | refine Keep.trans ?_ (Keep.of_below (by assumption)))))).mono ?_; rintro e w8 ⟨v8, rfl, ho8, hb8⟩))
  have hs7 : w.heap.size ≤ w6.heap.size := by
    have := (show Keep (fun _ => True) wb w6 from (by repeat (first | exact (Keep.refl _ _).drew | exact Keep.refl _ _ | exact (Keep.refl _ _).alloc _ | exact ((Keep.refl _ _).alloc _).drew | refine Keep.trans ?_ (Keep.of_below (by assumption))))).size
    omega
  have HB8 := Lib.hid (show Below w.heap.size w w8 from (by repeat (first | exact HB5.out | exact HB5.out.drew | refine Below.step ?_ (by simp) (by assumption))))
  have HO8 := Lib.hid (ho8.mono hs7)
  clear ho6 ho8 hb6 hb8
  go_wp2_with fail
  go_ret
  exact ⟨_, rfl, HO8.out, HB8.out⟩
end Go.Proofs.YtabkibmnghbahaaGreat.SpecK

namespace Go.Proofs.YtabkibmnghbahaaGreat.SpecL
open Go.RowKit Go.Proofs.YtabkibmnghbahaaGreat Go.Proofs.YtabkibmnghbahaaGreat.Tow Go.Proofs.YtabkibmnghbahaaGreat.GenC Go.Proofs.YtabkibmnghbahaaGreat.SpecA Go.Proofs.YtabkibmnghbahaaGreat.SpecB Go.Proofs.YtabkibmnghbahaaGreat.SpecD Go.Proofs.YtabkibmnghbahaaGreat.SpecE Go.Proofs.YtabkibmnghbahaaGreat.SpecI Go.Proofs.YtabkibmnghbahaaGreat.SpecJ Go.Proofs.YtabkibmnghbahaaGreat.SpecK
set_option linter.unusedVariables false
set_option linter.unusedSimpArgs false

theorem prodL_step {T : Tw} (G : IsG (El T) (mul T) (one T)) {us : List (List Nat)} {es : List Nat} {k a : Nat} {u : List Nat} (hu : us[k]? = some u) (ha : es[k]? = some a) (hus : ∀ u ∈ us, El T u) :
    prodL (mul T) (one T) (us.take (k + 1)) (es.take (k + 1)) = mul T (prodL (mul T) (one T) (us.take k) (es.take k)) (npow (mul T) (one T) u a) ∧ El T (prodL (mul T) (one T) (us.take k) (es.take k)) := by
  have hE : El T (prodL (mul T) (one T) (us.take k) (es.take k)) := prodL_inv (El T) (mul T) (fun _ _ p q => G.cl p q) _ (fun c hc => hus c (List.mem_of_mem_take hc)) _ _ G.me
  refine ⟨?_, hE⟩
  rw [prodL_take (mul T) (one T) us es k a u hu ha, G.it_mul (hus u (List.mem_of_getElem? hu)) hE]

theorem Sl2.at_row {S : Nat → Prop} {w : World} {v : Value} {rows : List (List Nat)} (h : Sl2 S w v (rows.map ints)) {k : Nat} {r : List Nat} (hr : rows[k]? = some r) :
    ∃ b o c u, v = .slice (some ⟨b, o, none⟩) rows.length c ∧ b < w.heap.size ∧ w.cell? ⟨b, o + k, none⟩ = some u ∧ SlI S w u (ints r) := by
  obtain ⟨ao, c, h1, h2, h3, h0, h4⟩ := h
  obtain ⟨b, o, e1, _, e3, u, e4, e5⟩ := h4 k (ints r) (by simp [hr])
  exact ⟨b, o, c, u, by rw [h1, e1, List.length_map], e3, e4, e5⟩
theorem Sl2.form {S : Nat → Prop} {w : World} {v : Value} {rows : List (List Nat)} (h : Sl2 S w v (rows.map ints)) : ∃ a c, v = .slice a rows.length c := by
  obtain ⟨ao, c, h1, _⟩ := h
  exact ⟨ao, c, by rw [h1, List.length_map]⟩

set_option maxRecDepth 100000 in
set_option maxHeartbeats 2000000 in
theorem product_any (T : Tw) (hT : Wf T) (hs : Small T) (hg : Tow.Good T) (w : World) (vO vP vC vu va : Value) (us : List (List Nat)) (es : List Nat) (hP : ValP Any w vO vP vC (ofTw T)) (hu : Sl2 Any w vu (us.map ints)) (ha : SlI Any w va (ints es)) (hl : us.length ≤ es.length) (hl6 : us.length ≤ 1000) (hus : ∀ u ∈ us, El T u) (has : ∀ a ∈ es, a ≤ 1000) :
    Calls Tryz.prog 159 #[.agg #[vO, vP, vC], vu, va] w (NewI (ints (prodL (mul T) (one T) us es)) w) := by
  have HP := Lib.hid hP
  have HU := Lib.hid hu
  have HA := Lib.hid ha
  have HUS := Lib.hid hus
  have HAS := Lib.hid has
  have HG := Lib.hid (grp hT hg)
  have HM := Lib.hid (fun W va vb a b hP ha hb hA hB => mul_any T hT hs W vO vP vC va vb a b hP ha hb hA hB)
  have HPW := Lib.hid (fun W va a K hK hP ha hA => pow_pos_any T hT hs hg W vO vP vC va a K hK hP ha hA)
  have HONE := Lib.hid (fun W hO => SpecN.one_any T hs.1 W vO vP vC hO)
  obtain ⟨aU, cU, rfl⟩ := Sl2.form hu
  obtain ⟨aA, cA, rfl, _⟩ := ha.open
  have hou : (ofTw T).os = ints (SpecN.ords T) := SpecN.ofTw_ords T
  have HOO := Lib.hid hou
  clear hP hu ha hus has hou
  go_enter Tryz.func159, Tryz.ntmps159
  go_wp2_with fail
  refine (HONE.out _ (by have h := (HP.out.keep (w' := w.alloc (.cells #[vO, vP, vC] 30)) ((Keep.refl _ _).alloc _)).os; rwa [HOO.out] at h)).mono ?_
  rintro e w1 ⟨g1, c1, rfl, ho1, hb1⟩
  have HB1 := Lib.hid (show Below (w.heap.size + 1) (w.alloc (.cells #[vO, vP, vC] 30)) w1 from hb1.mono (by simp))
  have HO1 := Lib.hid (ho1.mono (B' := w.heap.size) (by simp))
  clear ho1 hb1
  go_wp2_with fail
  go_loopw [7, 8] (fun ov iv wr => ∃ k : Nat, k ≤ us.length ∧ iv = .int .i64 (k : Int) ∧ Hid (Own w.heap.size wr ov (ints (prodL (mul T) (one T) (us.take k) (es.take k)))) ∧ Below (w.heap.size + 1) (w.alloc (.cells #[vO, vP, vC] 30)) wr) (fun _ iv _ => us.length - (intOf iv).toNat)
  case atStart => exact ⟨0, Nat.zero_le _, rfl, Lib.hid (by rw [List.take_zero, List.take_zero]; exact HO1.out), HB1.out⟩
  case round =>
    obtain ⟨k, hk, rfl, hO, hB⟩ := hrel
    have HB5 := Lib.hid hB
    have hk5 := keep_boxed hB Any
    obtain ⟨e0, e1, e2⟩ := box_cells hB
    have hsw : w.heap.size + 1 ≤ wr.heap.size := by have := hB.size; simp at this; omega
    clear hB
    by_cases hlt : k < us.length
    · obtain ⟨u, hu⟩ : ∃ u, us[k]? = some u := ⟨_, List.getElem?_eq_getElem hlt⟩
      obtain ⟨a, ha⟩ : ∃ a, es[k]? = some a := ⟨_, List.getElem?_eq_getElem (by omega)⟩
      obtain ⟨bU, oU, cU', vr, he, hbU, hcU, hrU⟩ := Sl2.at_row HU.out hu
      obtain ⟨rfl, rfl⟩ : aU = some ⟨bU, oU, none⟩ ∧ cU = cU' := by simpa using he
      obtain ⟨bA, oA, rfl, _, hbA, hcA⟩ := HA.out.at ha
      have hcU5 := (hk5.cell (b := bU) (o := oU + k) trivial hbU).trans hcU
      have hcA5 := (hk5.cell (b := bA) (o := oA + k) trivial hbA).trans hcA
      have hww : w.heap.size < wr.heap.size := by omega
      have hbU5 : bU < wr.heap.size := by omega
      have hbA5 : bA < wr.heap.size := by omega
      have ha6 : a ≤ 1000 := HAS.out a (List.mem_of_getElem? ha)
      have hst := prodL_step HG.out hu ha HUS.out
      have HST := Lib.hid hst
      have HUE := Lib.hid (HUS.out u (List.mem_of_getElem? hu))
      have HPE := Lib.hid (HG.out.npow HUE.out a)
      have HP5 := Lib.hid (HP.out.keep hk5)
      have HR5 := Lib.hid (SlI.keep hrU hk5)
      have HO5 := Lib.hid (hO.out.sl.mono (S' := Any) (fun _ _ => trivial))
      have hkl : (k : Int) < (us.length : Int) := by omega
      have hkl2 : (k : Int) < (es.length : Int) := by omega
      have hk0 : (0 : Int) ≤ (k : Int) := by omega
      clear hst hu ha he hrU hcU hcA hk5
      go_wp2_with fail
      go_region_held3 (fun w' => (∀ b o, b < wr.heap.size → w'.cell? ⟨b, o, none⟩ = wr.cell? ⟨b, o, none⟩) ∧ Keep (fun _ => True) wr w')
        (first | exact ks_mk (by repeat (first | exact (Keep.refl _ _).drew | exact Keep.refl _ _ | refine Keep.trans ?_ (Keep.of_below (by assumption)))))
        (first | (go_at_call 120; refine (HPW.out _ vr u a ha6 (HP5.out.keep (by repeat (first | exact (Keep.refl _ _).drew | exact Keep.refl _ _ | exact (Keep.refl _ _).alloc _ | exact ((Keep.refl _ _).alloc _).drew | refine Keep.trans ?_ (Keep.of_below (by assumption))))) (HR5.out.keep (by repeat (first | exact (Keep.refl _ _).drew | exact Keep.refl _ _ | exact (Keep.refl _ _).alloc _ | exact ((Keep.refl _ _).alloc _).drew | refine Keep.trans ?_ (Keep.of_below (by assumption))))) HUE.out).mono ?_; rintro e w6 ⟨v6, rfl, ho6, hb6⟩) | (go_at_call_of 121 v6; refine (HM.out _ _ v6 _ _ (HP5.out.keep (by repeat (first | exact (Keep.refl _ _).drew | exact Keep.refl _ _ | exact (Keep.refl _ _).alloc _ | exact ((Keep.refl _ _).alloc _).drew | refine Keep.trans ?_ (Keep.of_below (by assumption))))) (HO5.out.keep (by repeat (first | exact (Keep.refl _ _).drew | exact Keep.refl _ _ | exact (Keep.refl _ _).alloc _ | exact ((Keep.refl _ _).alloc _).drew | refine Keep.trans ?_ (Keep.of_below (by assumption))))) ((ho6.sl.mono (fun _ _ => trivial)).keep (by repeat (first | exact (Keep.refl _ _).drew | exact Keep.refl _ _ | exact (Keep.refl _ _).alloc _ | exact ((Keep.refl _ _).alloc _).drew | refine Keep.trans ?_ (Keep.of_below (by assumption))))) HST.out.2 HPE.out).mono ?_; rintro e w8 ⟨v8, rfl, ho8, hb8⟩))
      have hs7 : w.heap.size ≤ w6.heap.size := by
        have := (show Keep (fun _ => True) wr w6 from (by repeat (first | exact (Keep.refl _ _).drew | exact Keep.refl _ _ | exact (Keep.refl _ _).alloc _ | exact ((Keep.refl _ _).alloc _).drew | refine Keep.trans ?_ (Keep.of_below (by assumption))))).size
        omega
      have HB8 := Lib.hid (show Below (w.heap.size + 1) (w.alloc (.cells #[vO, vP, vC] 30)) w8 from (by repeat (first | exact HB5.out | exact HB5.out.drew | refine Below.step ?_ (by simp) (by assumption))))
      rw [← HST.out.1] at ho8
      have HO8 := Lib.hid (ho8.mono hs7)
      clear ho6 ho8 hb6 hb8
      go_wp2_with fail
      go_roundw
      case rel => exact ⟨k + 1, by omega, by go_num, HO8, HB8.out⟩
      case measure => simp [intOf]; omega
    · obtain rfl : k = us.length := by omega
      have HBU := Lib.hid (below_unboxed HB5.out)
      have HE := Lib.hid (show prodL (mul T) (one T) (us.take us.length) (es.take us.length) = prodL (mul T) (one T) us es from by
        rw [List.take_length]
        have : ∀ (us : List (List Nat)) (es : List Nat) (x : List Nat), us.length ≤ es.length → prodL (mul T) x us (es.take us.length) = prodL (mul T) x us es := by
          intro us
          induction us with
          | nil => intro es x _; cases es <;> rfl
          | cons u us ih => intro es x h; cases es with
            | nil => simp at h
            | cons a es => exact ih es _ (by simpa using h)
        exact this us es _ hl)
      clear hk5
      go_wp2_with fail
      go_ret
      have h := hO.out
      rw [HE.out] at h
      exact ⟨_, rfl, h, HBU.out⟩

set_option maxHeartbeats 400000 in
theorem apply_any (T : Tw) (hT : Wf T) (hs : Small T) (hg : Tow.Good T) (w : World) (vO vP vC vu va : Value) (us : List (List Nat)) (es : List Nat) (hP : ValP Any w vO vP vC (ofTw T)) (hu : Sl2 Any w vu (us.map ints)) (ha : SlI Any w va (ints es)) (hl : us.length ≤ es.length) (hl6 : us.length ≤ 1000) (hus : ∀ u ∈ us, El T u) (has : ∀ a ∈ es, a ≤ 1000) :
    Calls Tryz.prog 114 #[.agg #[vO, vP, vC], vu, va] w (NewI (ints (prodL (mul T) (one T) us es)) w) := by
  have HP := Lib.hid hP
  have HU := Lib.hid hu
  have HA := Lib.hid ha
  have HC := Lib.hid (fun W hP hu ha => product_any T hT hs hg W vO vP vC vu va us es hP hu ha hl hl6 hus has)
  clear hP hu ha hus has
  go_enter Tryz.func114, Tryz.ntmps114
  go_wp2_with fail
  refine (HC.out _ (HP.out.keep ((Keep.refl _ _).alloc _)) (HU.out.keep ((Keep.refl _ _).alloc _)) (HA.out.keep ((Keep.refl _ _).alloc _))).mono ?_
  rintro e w2 ⟨v2, rfl, ho, hb⟩
  have HO := Lib.hid (ho.mono (B' := w.heap.size) (by simp))
  have HB2 := Lib.hid (((Below.refl w.heap.size w).alloc (Nat.le_refl _) _).trans (hb.mono (by simp)))
  clear ho hb
  go_wp2_with fail
  go_ret
  exact ⟨_, rfl, HO.out, HB2.out⟩

set_option maxRecDepth 100000 in
set_option maxHeartbeats 1000000 in
theorem own2_any (w : World) (v : Value) (rows : List (List Nat)) (hv : Sl2 Any w v (rows.map ints)) (hl : rows.length ≤ 1000) (hr : ∀ r ∈ rows, r.length ≤ 1000) :
    Calls Tryz.prog 73 #[v] w (New2 22 2 rows w) := by
  obtain ⟨i0, hi, hz0, hz1, hz2⟩ := info_parts infoR
  obtain ⟨aU, cU, rfl⟩ := Sl2.form hv
  have HV := Lib.hid hv
  have HL := Lib.hid hl
  have HR := Lib.hid hr
  have h00 := World.ownsRow_made (base := w.heap.size) (e := 22) (size := 1) w #[] 0 (Nat.le_refl _) (Nat.zero_le _) rfl
  clear hv hr
  go_enter Tryz.func73, Tryz.ntmps73
  go_wp2_with fail
  go_loopw [3, 4] (fun ov i wr => ∃ k : Nat, k ≤ rows.length ∧ i = .int .i64 (k : Int) ∧ Hid (Own2 22 2 w.heap.size wr ov (rows.take k)) ∧ Below w.heap.size w wr) (fun _ i _ => rows.length - (intOf i).toNat)
  case atStart => exact ⟨0, Nat.zero_le _, rfl, Lib.hid ⟨[], h00, rfl, by simp⟩, (Below.refl _ _).alloc (Nat.le_refl _) _⟩
  case round =>
    obtain ⟨k, hk, rfl, ho2, hb⟩ := hrel
    have HB := Lib.hid hb
    clear hb h00
    by_cases hlt : k < rows.length
    · obtain ⟨r, hrk⟩ : ∃ r, rows[k]? = some r := ⟨_, List.getElem?_eq_getElem hlt⟩
      obtain ⟨bU, oU, cU', vr, he, hbU, hcU, hrU⟩ := Sl2.at_row HV.out hrk
      obtain ⟨rfl, rfl⟩ : aU = some ⟨bU, oU, none⟩ ∧ cU = cU' := by simpa using he
      have hcU5 := ((Keep.of_below (S := Any) HB.out).cell (b := bU) (o := oU + k) trivial hbU).trans hcU
      have HRU := Lib.hid (SlI.keep hrU (Keep.of_below HB.out))
      have hrl := HR.out r (List.mem_of_getElem? hrk)
      have HTK := Lib.hid (show rows.take (k + 1) = rows.take k ++ [r] by rw [List.take_add_one, hrk]; rfl)
      clear he hcU hrU hrk
      go_wp2_with fail
      refine (own_any Any _ _ _ HRU.out (by rw [ints_length]; omega)).mono ?_
      rintro e w1 ⟨g, c, rfl, ho, hb1⟩
      have HB1 := Lib.hid (HB.out.trans (hb1.mono HB.out.size))
      have HRR := Lib.hid (NewS.row (ho.mono (B' := w.heap.size) HB.out.size))
      obtain ⟨us, h1, h2, h4⟩ := ho2.out.of_below hb1
      have HU := Lib.hid (And.intro h2 h4)
      have htl : (rows.take k).length = k := by simp; omega
      rw [htl] at h1
      have HTL := Lib.hid htl
      clear ho hb1 h2 h4 ho2 htl
      go_wp2_with (at_builtin; (refine wpList_append_own _ rfl _ _ 23 rfl w.heap.size 22 i0 (.slice none 0 0) 1 24 Tryz.underlying23 hi hz0 hz1 hz2 rfl (by decide) _ _ _ rfl (h1.alloc _) ⟨w1.heap.size, 0, none⟩ 1 1 [.slice (some ⟨g, 0, none⟩) (ints r).length c] rfl rfl ?c1 ?c2 ?c3 ?c4 ?c5 ?_))
      case c1 =>
        intro j u hj
        match j, hj with
        | 0, hj => simp at hj; subst hj; simp [Addr.add]
      case c2 => intro u hu; simp at hu; subst hu; rfl
      case c3 => have := HL.out; unfold maxLen; omega
      case c4 => have := HL.out; omega
      case c5 => have := HB1.out.size; simp; omega
      · intro v' w2 hown hgrow _
        have HN := Lib.hid (show Own2 22 2 w.heap.size w2 v' (rows.take (k + 1)) from by
          rw [HTK.out]
          exact Own2.push (w := w1.alloc _) (us := us) (by decide) HTL.out (h1.alloc _) HU.out.1 (fun i r u hr hu => (HU.out.2 i r u hr hu).keep (S := fun _ => True) ((Keep.refl _ _).alloc _) (fun _ _ => trivial)) (HRR.out.keep (S := fun _ => True) ((Keep.refl _ _).alloc _) (fun _ _ => trivial)) hown hgrow)
        have HB2 := Lib.hid (show Below w.heap.size w w2 from (HB1.out.alloc (by have := HB1.out.size; omega) _).grown hgrow (by simp; have := HB1.out.size; omega) (fun g hg => (World.ownsRow.lt h1 g hg).1))
        have hk729 : (k : Int) ≤ 1000 := by have := HL.out; omega
        clear hown hgrow h1 HU HRR
        go_wp2_with fail
        go_roundw
        case rel => exact ⟨k + 1, by omega, by go_num, HN, HB2.out⟩
        case measure => simp [intOf]; omega
    · obtain rfl : k = rows.length := by omega
      go_wp2_with fail
      go_ret
      have h := ho2.out
      rw [List.take_length] at h
      exact ⟨_, rfl, h, HB.out⟩
end Go.Proofs.YtabkibmnghbahaaGreat.SpecL
