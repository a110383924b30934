import Derived.Test.YtabkibmnghbahaaGreatImplTU
namespace Go.Proofs.YtabkibmnghbahaaGreat.ImplX
open Go.RowKit Go.Proofs.YtabkibmnghbahaaGreat Go.Proofs.YtabkibmnghbahaaGreat.Tow Go.Proofs.YtabkibmnghbahaaGreat.NumT Go.Proofs.YtabkibmnghbahaaGreat.ImplN Go.Proofs.YtabkibmnghbahaaGreat.ImplP Go.Proofs.YtabkibmnghbahaaGreat.ImplQ Go.Proofs.YtabkibmnghbahaaGreat.ImplR Go.Proofs.YtabkibmnghbahaaGreat.ImplS Go.Proofs.YtabkibmnghbahaaGreat.ImplT Go.Proofs.YtabkibmnghbahaaGreat.ImplU Go.Proofs.YtabkibmnghbahaaGreat.ImplW Go.Proofs.YtabkibmnghbahaaGreat.Grow
set_option linter.unusedVariables false
set_option linter.unusedSimpArgs false

def Msk (Q T : Tw) (im : List Nat) (M : Nat) : Prop := M < 2 ^ 32 ∧ ∀ c, M.testBit c = true ↔ inS Q T im c

theorem iso_set {w : World} {bs bp op bg gi ci B : Nat} {T Q : Tw} {b : Bool} {ims : List Nat} {F : List (List Nat)} {vF : Value} (h : Iso w bs bp op bg gi ci B T Q b ims F vF) (i x : Nat) :
    Iso (w.setCell ⟨gi, i, none⟩ (.int .i64 (x : Int))) bs bp op bg gi ci B T Q b (ims.set i x) F vF := by
  have hk : Keep (Sx B bs gi) w (w.setCell ⟨gi, i, none⟩ (.int .i64 (x : Int))) := (Keep.refl _ _).setCell (by simp [Sx]) _
  refine ⟨h.hbs, h.hgi, h.hne, by simpa using h.hB, ?_, h.pre.keep hk, h.tab.keep hk, by simpa using h.len, ?_, ?_⟩
  · rw [heap_setCell_other _ _ _ _ h.hne]; exact h.row
  · have h1 := (World.ownsRow.stored h.ims i (.int .i64 (x : Int))).1
    rw [vals_set, ints_set] at h1
    exact h1
  · exact h.fnd.keep (S := (B ≤ ·)) ((Keep.refl _ _).setCell (by simp; exact h.hgi) _) (fun k hk => hk)
theorem iso_imcell {w : World} {bs bp op bg gi ci B : Nat} {T Q : Tw} {b : Bool} {ims : List Nat} {F : List (List Nat)} {vF : Value} (h : Iso w bs bp op bg gi ci B T Q b ims F vF) {i : Nat} (hi : i < T.length) :
    ∃ y : Nat, w.cell? ⟨gi, i, none⟩ = some (.int .i64 (y : Int)) ∧ w.frozen? ⟨gi, i, none⟩ = false := by
  have hl := h.len
  obtain ⟨y, hy⟩ : ∃ y, ims[i]? = some y := ⟨_, List.getElem?_eq_getElem (by omega)⟩
  refine ⟨y, ?_, World.ownsRow.frozenAt h.ims i⟩
  rw [World.ownsRow.cellAt h.ims i (by omega)]
  simp [vals, ints, hy]

theorem drop_set {l : List Nat} {i x : Nat} (h : i < l.length) : (l.set i x).drop i = x :: l.drop (i + 1) := by
  rw [List.drop_eq_getElem_cons (by simpa using h), List.getElem_set_self, List.drop_set_of_lt (Nat.lt_succ_self i)]
def LoopR (A bs bp op bg gi ci B : Nat) (T Q : Tw) (b : Bool) (F : List (List Nat)) (i : Nat) (im : List Nat) (x : Nat) (w wr : World) : Prop :=
  ∃ ims' vF', Iso wr bs bp op bg gi ci B T Q b ims' (F ++ growTo Q T i im x) vF' ∧ (b = true → growTo Q T i im x = []) ∧ ims'.drop (i + 1) = im ∧ (∀ y ∈ ims', y < sz Q) ∧ Chg A B bs gi w wr
theorem Chg.below {A B bs gi : Nat} {w w1 w2 : World} (h : Chg A B bs gi w w1) (hA : A ≤ w1.heap.size) (hb : Below w1.heap.size w1 w2) : Chg A B bs gi w w2 :=
  ⟨h.1.trans (hb.mono hA), h.2.trans (Keep.of_below hb)⟩
theorem LoopR.no {A bs bp op bg gi ci B : Nat} {T Q : Tw} {b : Bool} {F : List (List Nat)} {i : Nat} {im : List Nat} {x : Nat} {w wr w1 : World} (h : LoopR A bs bp op bg gi ci B T Q b F i im x w wr) (hA : A ≤ bs)
    (hn : ¬ (¬ inS Q (T.drop (i + 1)) im x ∧ Fits Q (T.getD i ⟨0, [], []⟩) im x)) (hb : Below wr.heap.size wr w1) : LoopR A bs bp op bg gi ci B T Q b F i im (x + 1) w w1 := by
  obtain ⟨ims', vF', h1, h2, h3, h4, h5⟩ := h
  refine ⟨ims', vF', ?_, ?_, h3, h4, Chg.below h5 (by have := h1.hbs; have := h1.hB; omega) hb⟩
  · rw [growTo_no hn]; exact h1.below hb
  · rw [growTo_no hn]; exact h2

set_option maxRecDepth 100000 in
set_option maxHeartbeats 8000000 in
theorem choose_any (A : Nat) (T Q : Tw) (hT : Wf T) (hs : Small T) (hQ : Wf Q) (hz : sz Q ≤ 27) (bs bp op bg gi ci B : Nat) (b : Bool) (hA : A ≤ bs ∧ A ≤ gi) : ∀ k, k ≤ T.length → ∀ (w : World) (ims : List Nat) (F : List (List Nat)) (vF : Value) (M : Nat),
    Iso w bs bp op bg gi ci B T Q b ims F vF → (∀ y ∈ ims, y < sz Q) → Msk Q (T.drop k) (ims.drop k) M → F.length + 27 ^ k ≤ 1000000000 → (b = true → F = []) →
    Calls Tryz.prog 60 #[.pointer (some ⟨bs, 0, none⟩), .int .i64 ((k : Int) - 1), .int .u64 (M : Int)] w (ChR A bs bp op bg gi ci B T Q b F (cutB b (grow Q T k (ims.drop k))) k (ims.drop k) w) := by
  intro k
  induction k with
  | zero =>
    intro _ w ims F vF M h hin hM hF hb
    have hc := choose_zero A T Q hs.1 hQ hz w bs bp op bg gi ci B b ims F vF M h hA (by omega) hin
    have e : cutB b (grow Q T 0 (ims.drop 0)) = [ims] := by cases b <;> rfl
    rw [e]
    exact hc
  | succ i ih =>
    intro hk w ims F vF M h hin hM hF hb
    obtain ⟨L, hL⟩ : ∃ L, T[i]? = some L := ⟨_, List.getElem?_eq_getElem (by omega)⟩
    have hil : i < T.length := by omega
    have hLo : L.o ≤ 1000 := by have := hs.2 L (List.mem_of_getElem? hL); omega
    have HGD := Lib.hid (show T.getD i ⟨0, [], []⟩ = L by rw [List.getD_eq_getElem?_getD, hL]; rfl)
    have HIH := Lib.hid (ih (by omega))
    obtain ⟨im, him⟩ : ∃ im, im = ims.drop (i + 1) := ⟨_, rfl⟩
    rw [← him] at hM ⊢
    have HFIT := Lib.hid (fun W ims' x (hS : IsoS W bs bp op bg gi ci T Q ims') hx hin' => fits_any T Q hT hs hQ (by omega) W bs bp op bg gi ci ims' i x L hL hS hx hin')
    have HEXT := Lib.hid (fun W (hG : TabG Any W bg Q) x hx => extend_any Q hQ hz W bg hG M x L.o ⟨hM.1, fun c hc => inS_lt hQ ((hM.2 c).1 hc)⟩ hx hLo)
    have hpos := sz_pos hQ
    obtain ⟨q0, q1, q2, q3, q4⟩ := h.cells
    obtain ⟨gt, ot, ct, hgl, hct, hct0, _⟩ := h.isoS.tab.open hpos
    have H0 : Hid (LoopR A bs bp op bg gi ci B T Q b F i im 0 w w) := Lib.hid ⟨ims, vF, by rw [growTo_zero, List.append_nil]; exact h, fun _ => growTo_zero _ _ _ _, him.symm, hin, Below.refl _ _, Keep.refl _ _⟩
    have HM := Lib.hid hM
    have HF := Lib.hid hF
    have HBF := Lib.hid hb
    have HAA := Lib.hid hA
    have HL := Lib.hid hL
    have HQ := Lib.hid hQ
    have HS := Lib.hid hs
    have hii : (((i + 1 : Nat) : Int) - 1) = (i : Int) := by omega
    rw [hii]
    clear ih h hin hM hF hb him hLo hii hA hL hQ hs hT q0 q2 q3 q4
    go_enter Tryz.func60, Tryz.ntmps60
    go_wp2_with fail
    go_loopw [31] (fun iv wr => ∃ x : Nat, x ≤ sz Q ∧ iv = .int .i64 (x : Int) ∧ Hid (LoopR A bs bp op bg gi ci B T Q b F i im x w wr)) (fun iv _ => sz Q - (intOf iv).toNat)
    case atStart => exact ⟨0, Nat.zero_le _, rfl, H0⟩
    case round =>
      obtain ⟨x, hx, rfl, hR⟩ := hrel
      clear q1 hct0
      by_cases hlt : x < sz Q
      · have hd : decide ((x : Int) < (sz Q : Int)) = true := by simp; omega
        have h1 := Mask.test_eq M x (by omega) HM.out.1
        cases hb : M.testBit x with
        | true =>
          have HBB := Lib.hid hb
          rw [hb] at h1
          clear hb
          go_wp2_with fail
          go_roundw
          case rel => exact ⟨x + 1, by omega, by go_num, Lib.hid (hR.out.no HAA.out.1 (fun hh => hh.1 ((HM.out.2 x).1 HBB.out)) (Below.refl _ _))⟩
          case measure => simp [intOf]; omega
        | false =>
          have HBB := Lib.hid hb
          rw [hb] at h1
          clear hb
          by_cases hfit : Fits Q L im x
          · have HFF := Lib.hid hfit
            clear hfit
            obtain ⟨ims', vF', hI, hnb, hdr, hin', hch⟩ := hR.out
            have HI := Lib.hid hI
            have HNB := Lib.hid hnb
            have HDR := Lib.hid hdr
            have HIN' := Lib.hid hin'
            have HCH := Lib.hid hch
            clear hI hnb hdr hin' hch
            go_wp2_with fail
            refine (HFIT.out wr ims' x HI.out.isoS hlt HIN'.out).mono ?_
            rintro e w1 ⟨r, rfl, hr, hb1⟩
            obtain rfl := hr.2 (by rw [HDR.out]; exact HFF.out)
            obtain ⟨r0, r1, r2, r3, r4⟩ := (HI.out.below hb1).cells
            obtain ⟨y0, s1, f1⟩ := iso_imcell (HI.out.below hb1) hil
            have HI1 := Lib.hid (HI.out.below hb1)
            have HCH1 := Lib.hid (Chg.below HCH.out (by have := HI.out.hbs; have := HI.out.hB; have := HAA.out; omega) hb1)
            clear hb1 hr
            go_upto_region 7 with fail
            clear r0 r1 r2 r3 r4 s1 f1
            have HI2 := Lib.hid (iso_set HI1.out i x)
            have HCH2 : Hid (Chg A B bs gi w (w1.setCell ⟨gi, i, none⟩ (.int .i64 (x : Int)))) := Lib.hid ⟨HCH1.out.1.setCell (by simp; exact HAA.out.2) _, HCH1.out.2.setCell (by simp [Sx]) _⟩
            generalize w1.setCell ⟨gi, i, none⟩ (.int .i64 (x : Int)) = w2 at HI2 HCH2 ⊢
            clear HI1 HCH1 HI HCH
            obtain ⟨r0, r1, r2, r3, r4⟩ := HI2.out.cells
            obtain ⟨_, hbp, vO, vP, vC, hp0, hp1, hp2, hV⟩ := HI2.out.isoS.pre
            obtain ⟨aO, cO, aP, cP, aC, cC, rfl, rfl, rfl, hO1, hP1, hC1⟩ := hV.open
            obtain ⟨bO, oO, rfl, _, hbO, hcO⟩ := hV.ord HL.out
            have hlen' : i < ims'.length := by have := HI2.out.len; simp at this; omega
            have HDS := Lib.hid (show (ims'.set i x).drop i = x :: im by rw [drop_set hlen', HDR.out])
            have HIN2 : Hid (∀ y ∈ ims'.set i x, y < sz Q) := Lib.hid (fun y hy => by
              rcases List.mem_or_eq_of_mem_set hy with h | h
              · exact HIN'.out y h
              · rw [h]; exact hlt)
            have HMSK : Hid (∀ O, O < 2 ^ 32 → (∀ c, O.testBit c = true ↔ ∃ j, j < L.o ∧ ∃ s, s < sz Q ∧ M.testBit s = true ∧ it (pr Q x) j s = c) → Msk Q (T.drop i) ((ims'.set i x).drop i) O) := Lib.hid (fun O h1 h2 => ⟨h1, fun c => by
              rw [h2 c, HDS.out, drop_cons' HL.out]
              constructor
              · rintro ⟨j, hj, s, _, hs, e⟩; exact ⟨j, hj, s, (HM.out.2 s).1 hs, e⟩
              · rintro ⟨j, hj, s, hs, e⟩; exact ⟨j, hj, s, inS_lt HQ.out hs, (HM.out.2 s).2 hs, e⟩⟩)
            have HBD : Hid ((F ++ growTo Q T i im x).length + 27 ^ i ≤ 1000000000) := Lib.hid (by
              have h1 := growTo_length Q T hz i (grow_length Q T hz i) im x
              have h2 : F.length + 27 * 27 ^ i ≤ 1000000000 := by have h := HF.out; rw [Nat.pow_succ, Nat.mul_comm (27 ^ i)] at h; exact h
              have h3 : (x + 1) * 27 ^ i ≤ 27 * 27 ^ i := Nat.mul_le_mul_right _ (by omega)
              rw [Nat.add_mul, Nat.one_mul] at h3
              rw [List.length_append]
              refine Nat.le_trans ?_ h2
              rw [Nat.add_assoc]
              exact Nat.add_le_add_left (Nat.le_trans (Nat.add_le_add_right h1 _) h3) _)
            have HBE : Hid (b = true → F ++ growTo Q T i im x = []) := Lib.hid (fun e => by rw [HBF.out e, HNB.out e]; rfl)
            have hs6 := HS.out.1
            have hw8 : IntKind.i64.wrap ((i : Int) - 1) = (i : Int) - 1 := IntWalk.i64_in _ (by omega)
            clear hV hp1 hp2 hO1 hP1 hC1 r2 r3 r4 h1
            go_region_law
              (first | (go_simp; go_at_call 100; refine (HEXT.out _ (HI2.out.isoS.tab.keep (by first | exact (Keep.refl _ _).drew | exact Keep.refl _ _)) x hlt).mono ?_; rintro e w4 ⟨O, rfl, hO1, hO2, rfl⟩) | (go_simp; go_at_call 60; refine (HIH.out _ (ims'.set i x) (F ++ growTo Q T i im x) vF' O (HI2.out.below (by first | exact (Below.refl _ _).drew | exact Below.refl _ _)) HIN2.out (HMSK.out O hO1 hO2) HBD.out HBE.out).mono ?_; rintro e w5 ⟨rfl, ims5, vF5, hI5, hd5, hin5, hc5⟩))
            all_goals
              have HC5 := Lib.hid (show Chg A B bs gi w w5 from ⟨HCH2.out.1.trans (by first | exact hc5.1 | exact ((Below.refl _ _).drew).trans hc5.1), HCH2.out.2.trans (by first | exact hc5.2 | exact ((Keep.refl _ _).drew).trans hc5.2)⟩)
              have HI5 := Lib.hid hI5
              have HD5 := Lib.hid (hd5.trans HDS.out)
              have HN5 := Lib.hid hin5
              rw [HDS.out] at HI5
              obtain ⟨t0, t1, t2, t3, t4⟩ := hI5.cells
              obtain ⟨a5, c5, rfl, _, _⟩ := hI5.fnd.form
              clear hI5 hd5 hin5 hc5 r0 r1 hp0 hcO t0 t1 t2
              have HOK := Lib.hid (show ¬ inS Q (T.drop (i + 1)) im x ∧ Fits Q (T.getD i ⟨0, [], []⟩) im x from ⟨fun h => by have := (HM.out.2 x).2 h; rw [HBB.out] at this; exact Bool.noConfusion this, by rw [HGD.out]; exact HFF.out⟩)
              rw [HDS.out] at t4
              generalize hN5 : (F ++ growTo Q T i im x ++ cutB b (grow Q T i (x :: im))).length = N5 at t4
              have HN5L := Lib.hid hN5
              clear hN5
              cases b with
              | false =>
                go_wp2_with fail
                go_roundw
                case rel => exact ⟨x + 1, by omega, by go_num, Lib.hid ⟨ims5, _, by rw [growTo_yes HOK.out, ← List.append_assoc]; exact HI5.out, fun h => Bool.noConfusion h, by rw [← List.drop_drop, HD5.out]; rfl, HN5.out, HC5.out⟩⟩
                case measure => simp [intOf]; omega
              | true =>
                have hF0 := HBF.out rfl
                have hG0 := HNB.out rfl
                by_cases hG : grow Q T i (x :: im) = []
                · have hlen : (F ++ growTo Q T i im x ++ cutB true (grow Q T i (x :: im))).length = 0 := by rw [hF0, hG0, hG]; rfl
                  have HGG := Lib.hid hG
                  have HG0 := Lib.hid hG0
                  obtain rfl : N5 = 0 := by rw [← HN5L.out]; exact hlen
                  clear hlen hG hF0 hG0
                  go_wp2_with fail
                  go_roundw
                  case rel => exact ⟨x + 1, by omega, by go_num, Lib.hid ⟨ims5, _, by
                    have e : F ++ growTo Q T i im (x + 1) = F ++ growTo Q T i im x ++ cutB true (grow Q T i (x :: im)) := by rw [growTo_yes HOK.out, HGG.out]; simp [cutB]
                    rw [e]
                    exact HI5.out, fun _ => by rw [growTo_yes HOK.out, HGG.out, HG0.out]; rfl, by rw [← List.drop_drop, HD5.out]; rfl, HN5.out, HC5.out⟩⟩
                  case measure => simp [intOf]; omega
                · have hpos5 : 0 < (F ++ growTo Q T i im x ++ cutB true (grow Q T i (x :: im))).length := by
                    rw [hF0, hG0]
                    cases hgr : grow Q T i (x :: im) with
                    | nil => exact absurd hgr hG
                    | cons a l => simp [cutB]
                  rw [HN5L.out] at hpos5
                  have hgt : decide ((N5 : Int) > 0) = true := by simp only [decide_eq_true_eq]; omega
                  have hgt2 : decide (0 < N5) = true := by simp only [decide_eq_true_eq]; omega
                  have HP5 := Lib.hid hpos5
                  have HGG := Lib.hid hG
                  have HG0 := Lib.hid hG0
                  clear hpos5 hG hF0 hG0
                  go_wp2_with fail
                  refine bodyPost_ret (v := .tuple #[]) (by simp [results, Tryz.results60, go_sem]) rfl ⟨rfl, ims5, .slice a5 (F ++ growTo Q T i im x ++ cutB true (grow Q T i (x :: im))).length c5, ?_, by rw [← List.drop_drop, HD5.out]; rfl, HN5.out, HC5.out⟩
                  have h := HI5.out
                  rw [HDS.out] at h
                  have e : cutB true (grow Q T (i + 1) im) = growTo Q T i im x ++ cutB true (grow Q T i (x :: im)) := by
                    obtain ⟨r, hr⟩ := growTo_pre Q T i im (show x + 1 ≤ sz Q by omega)
                    rw [← growTo_end, hr, growTo_yes HOK.out, HG0.out, List.nil_append, List.nil_append]
                    cases hgr : grow Q T i (x :: im) with
                    | nil => exact absurd hgr HGG.out
                    | cons a l => simp [cutB]
                  rw [e, ← List.append_assoc]
                  exact h
          · have HFF := Lib.hid hfit
            clear hfit
            obtain ⟨ims', vF', hI, hnb, hdr, hin', hch⟩ := hR.out
            have HI := Lib.hid hI
            have HDR := Lib.hid hdr
            have HIN' := Lib.hid hin'
            clear hI hnb hdr hin' hch
            go_wp2_with (go_at_call 99; refine (HFIT.out wr ims' x HI.out.isoS hlt HIN'.out).mono ?_; rintro e w1 ⟨r, rfl, hr, hb1⟩; obtain rfl := (Bool.eq_false_iff.2 (fun hh => HFF.out (by have := hr.1 hh; rwa [HDR.out] at this))); replace hb1 := Lib.hid hb1; clear hr)
            go_roundw
            case rel => exact ⟨x + 1, by omega, by go_num, Lib.hid (hR.out.no HAA.out.1 (fun hh => HFF.out (by have := hh.2; rwa [HGD.out] at this)) hb1.out)⟩
            case measure => simp [intOf]; omega
      · obtain rfl : x = sz Q := by omega
        have hd : decide ((sz Q : Int) < (sz Q : Int)) = false := by simp
        go_wp2_with fail
        go_end0
        obtain ⟨ims', vF', h1, h2, h3, h4, h5⟩ := hR.out
        refine ⟨rfl, ims', vF', ?_, h3, h4, h5⟩
        rw [growTo_end] at h1 h2
        cases b with
        | false => exact h1
        | true => have e := h2 rfl; rw [e] at h1 ⊢; exact h1
end Go.Proofs.YtabkibmnghbahaaGreat.ImplX
