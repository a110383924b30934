import Derived.Test.YtabkibmnghbahaaGreatCcOP
import Derived.Test.YtabkibmnghbahaaGreatIsoC
import Derived.Test.YtabkibmnghbahaaGreatLawBG
/-
  impl.CountCopies.
-/
namespace Go.Proofs.YtabkibmnghbahaaGreat.CcR
open Go.RowKit Go.Proofs.YtabkibmnghbahaaGreat Go.Proofs.YtabkibmnghbahaaGreat.Tow Go.Proofs.YtabkibmnghbahaaGreat.Grps Go.Proofs.YtabkibmnghbahaaGreat.NumT Go.Proofs.YtabkibmnghbahaaGreat.GenD Go.Proofs.YtabkibmnghbahaaGreat.GenG Go.Proofs.YtabkibmnghbahaaGreat.GenM Go.Proofs.YtabkibmnghbahaaGreat.SpecB Go.Proofs.YtabkibmnghbahaaGreat.SpecS Go.Proofs.YtabkibmnghbahaaGreat.SpecX Go.Proofs.YtabkibmnghbahaaGreat.CcA Go.Proofs.YtabkibmnghbahaaGreat.CcC Go.Proofs.YtabkibmnghbahaaGreat.CcD Go.Proofs.YtabkibmnghbahaaGreat.CcE Go.Proofs.YtabkibmnghbahaaGreat.CcF
set_option linter.unusedVariables false
set_option linter.unusedSimpArgs false

/-- how many copies, with the code -/
def CpyV (P Q : Pres) (n k : Int) : Prop :=
  (n = 0 ∧ k = 1 ∧ ¬ (Grp P ∧ Grp Q)) ∨ ∃ T U, P = ofTw T ∧ Q = ofTw U ∧ Grp P ∧ Grp Q ∧
    ((n = 0 ∧ k = 3 ∧ (27 < sz T ∨ 27 < sz U)) ∨ (k = 0 ∧ sz T ≤ 27 ∧ sz U ≤ 27 ∧ n = (((growV T U U.length []).length / (growV U U U.length []).length : Nat) : Int)))
def CpyR (P Q : Pres) (w : World) (e : Ending) (w' : World) : Prop := ∃ n k : Int, e = .returned (.tuple #[.int .i64 n, .int .i64 k]) ∧ CpyV P Q n k ∧ Below w.heap.size w w'
theorem cpy_one {P Q : Pres} {n k n' k' : Int} (h : CpyV P Q n k) (h' : CpyV P Q n' k') : n' = n ∧ k' = k := by
  rcases h with ⟨rfl, rfl, hn⟩ | ⟨T, U, rfl, rfl, hG, hG2, h⟩
  · rcases h' with ⟨rfl, rfl, _⟩ | ⟨T', U', _, _, hG, hG2, _⟩
    · exact ⟨rfl, rfl⟩
    · exact absurd ⟨hG, hG2⟩ hn
  · rcases h' with ⟨_, _, hn⟩ | ⟨T', U', hT, hU, _, _, h'⟩
    · exact absurd ⟨hG, hG2⟩ hn
    · obtain rfl := Grps.ofTw_inj hT
      obtain rfl := Grps.ofTw_inj hU
      rcases h with ⟨rfl, rfl, h1⟩ | ⟨rfl, h1, h2, rfl⟩ <;> rcases h' with ⟨rfl, rfl, h3⟩ | ⟨rfl, h3, h4, rfl⟩ <;> first | exact ⟨rfl, rfl⟩ | omega
theorem prm_of {T : Tw} (h : SpecI.Pr T) : Prm T := fun L hL => h L hL
theorem cps_yes {T U : Tw} {L : List (List (List Nat))} {j : Nat} {u : List (List Nat)} (hu : L[j]? = some u) (h : sz (subT T u) = sz U ∧ growV (subT T u) U U.length [] ≠ []) : (cps T U (L.take (j + 1))).length = (cps T U (L.take j)).length + 1 := by
  classical
  unfold cps
  rw [List.take_add_one, hu, List.filter_append, List.length_append]
  simp [h.1, h.2]
theorem cps_no {T U : Tw} {L : List (List (List Nat))} {j : Nat} {u : List (List Nat)} (hu : L[j]? = some u) (h : ¬ (sz (subT T u) = sz U ∧ growV (subT T u) U U.length [] ≠ [])) : (cps T U (L.take (j + 1))).length = (cps T U (L.take j)).length := by
  classical
  unfold cps
  rw [List.take_add_one, hu, List.filter_append, List.length_append]
  simp only [Option.toList_some, List.filter_cons, List.filter_nil]
  rw [if_neg (by simpa using h)]
  simp
theorem iso_some {U S : Tw} (gU : Grp (ofTw U)) (gS : Grp (ofTw S)) (hs : sz S = sz U) (h27 : sz U ≤ 27) {w w' : World} {e : Ending} (h : ImplY.IsoRes (ofTw U) (ofTw S) w e w') :
    ∃ a n c, e = .returned (.tuple #[.slice a n c, .int .i64 0]) ∧ n = (growV S U U.length []).length ∧ n ≤ 1000000000 ∧ Below w.heap.size w w' := by
  obtain ⟨v, k, rfl, hb, h⟩ := h
  rcases h with ⟨_, _, h⟩ | ⟨T', U', hT, hU, _, _, h⟩
  · exact absurd ⟨gU, gS⟩ h
  · obtain rfl := Grps.ofTw_inj hT
    obtain rfl := Grps.ofTw_inj hU
    rcases h with ⟨_, _, h⟩ | ⟨_, _, _, _, h⟩ | ⟨rfl, _, _, F, hperm, _, ho⟩
    · omega
    · omega
    · obtain ⟨a, c, rfl, _, _⟩ := ho.form
      obtain ⟨hT, hsT, hgT, hpT⟩ := grp_parts gU
      obtain ⟨hS, hsS, hgS, hpS⟩ := grp_parts gS
      have hl := hperm.length_eq
      have hg := Grow.grow_length S U (by omega) U.length []
      have h6 : 27 ^ U.length ≤ 27 ^ 6 := Nat.pow_le_pow_right (by omega) hsT.1
      refine ⟨a, F.length, c, rfl, ?_, by omega, hb⟩
      rw [hl, growV_count hS hgS hT]
theorem div_count {n a c : Nat} (h : n = c * a) (ha : 0 < a) : n / a = c := by rw [h, Nat.mul_div_cancel _ ha]
set_option maxRecDepth 100000 in
set_option maxHeartbeats 4000000 in
theorem impl_copies (w : World) (pO pP pC qO qP qC : Value) (P Q : Pres) (hP : ValP Any w pO pP pC P) (hQ : ValP Any w qO qP qC Q) :
    Calls Tryz.prog 8 #[.agg #[pO, pP, pC], .agg #[qO, qP, qC]] w (CpyR P Q w) := by
  have HP := Lib.hid hP
  have HQ := Lib.hid hQ
  have HG := Lib.hid (fun W a b c P h => ImplI.group_any W a b c P h)
  obtain ⟨W0, hW0⟩ : ∃ W0, W0 = (w.alloc (.cells #[pO, pP, pC] 30)).alloc (.cells #[qO, qP, qC] 30) := ⟨_, rfl⟩
  have HB0 := Lib.hid (show Below (w.heap.size + 2) ((w.alloc (.cells #[pO, pP, pC] 30)).alloc (.cells #[qO, qP, qC] 30)) W0 by rw [hW0]; exact Below.refl _ _)
  have HPP := Lib.hid (fun W (h : Below (w.heap.size + 2) ((w.alloc (.cells #[pO, pP, pC] 30)).alloc (.cells #[qO, qP, qC] 30)) W) => show PtrP Any W w.heap.size 0 P from by
    obtain ⟨⟨p0, p1, p2⟩, _, hk, _, hs⟩ := bx h
    exact ⟨trivial, by omega, _, _, _, p0, p1, p2, hP.keep hk⟩)
  have HQP := Lib.hid (fun W (h : Below (w.heap.size + 2) ((w.alloc (.cells #[pO, pP, pC] 30)).alloc (.cells #[qO, qP, qC] 30)) W) => show PtrP Any W (w.heap.size + 1) 0 Q from by
    obtain ⟨_, ⟨q0, q1, q2⟩, hk, _, hs⟩ := bx h
    exact ⟨trivial, by omega, _, _, _, q0, q1, q2, hQ.keep hk⟩)
  clear hP hQ
  go_enter Tryz.func8, Tryz.ntmps8
  go_upto_region 1 with fail
  rw [← hW0]
  clear hW0
  obtain ⟨⟨p0, p1, p2⟩, ⟨q0, q1, q2⟩, hk, hbw, hs⟩ := bx HB0.out
  go_wp2_with fail
  refine (HG.out _ _ _ _ _ (HP.out.keep hk)).mono ?_
  rintro e w1 ⟨r, rfl, hr, hb1⟩
  have HB1 := Lib.hid (HB0.out.trans (hb1.mono hs))
  clear p0 p1 p2 q0 q1 q2 hk hbw hs hb1
  obtain ⟨⟨p0, p1, p2⟩, ⟨q0, q1, q2⟩, hk, hbw, hs⟩ := bx HB1.out
  by_cases hGP : Grp P
  · obtain rfl : r = true := hr.2 hGP
    have HGP := Lib.hid hGP
    clear hr hGP
    go_wp2_with fail
    refine (HG.out _ _ _ _ _ (HQ.out.keep hk)).mono ?_
    rintro e w2 ⟨r, rfl, hr, hb2⟩
    have HB2 := Lib.hid (HB1.out.trans (hb2.mono hs))
    clear p0 p1 p2 q0 q1 q2 hk hbw hs hb2
    obtain ⟨-, -, -, hbw, hs⟩ := bx HB2.out
    by_cases hGQ : Grp Q
    · obtain rfl : r = true := hr.2 hGQ
      have HGQ := Lib.hid hGQ
      clear hr
      obtain ⟨T, hTE⟩ : ∃ T, P = ofTw T := by obtain ⟨T, _, _, h, _⟩ := HGP.out; exact ⟨T, h⟩
      obtain ⟨U, hUE⟩ : ∃ U, Q = ofTw U := by obtain ⟨T, _, _, h, _⟩ := hGQ; exact ⟨T, h⟩
      subst hTE
      subst hUE
      obtain ⟨hT, hsT, hgT, hpT⟩ := grp_parts HGP.out
      obtain ⟨hU, hsU, hgU, hpU⟩ := grp_parts hGQ
      have hz729 := (IsoA.grp_sz HGP.out).2
      have hu729 := (IsoA.grp_sz hGQ).2
      have HOP := Lib.hid (fun W h => ImplN.order_any T hT hsT.1 hz729 W w.heap.size 0 (HPP.out W h))
      have HOQ := Lib.hid (fun W h => ImplN.order_any U hU hsU.1 hu729 W (w.heap.size + 1) 0 (HQP.out W h))
      have HSZ := Lib.hid (fun W h vu us h1 h2 h3 h4 => CcH.sizeOf_any T hsT W w.heap.size 0 vu us (HPP.out W h) h1 h2 h3 h4)
      have HPRE := Lib.hid (fun W h vu us h1 h2 h3 => CcM.pres_any T hT hsT hgT W w.heap.size 0 vu us (HPP.out W h) h1 h2 h3)
      have HISO := Lib.hid (fun W h g S hS => ImplY.isomorphisms_any W (w.heap.size + 1) 0 g 0 (ofTw U) (ofTw S) (HQP.out W h) hS)
      have HTT := Lib.hid (And.intro hT (And.intro hsT (And.intro hgT hpT)))
      have HUU := Lib.hid (And.intro hU (And.intro hsU (And.intro hgU hpU)))
      clear hT hsT hgT hpT hU hsU hgU hpU hGQ
      go_wp2_with fail
      refine (HOP.out _ HB2.out).mono ?_
      rintro e w3 ⟨rfl, hb3⟩
      have HB3 := Lib.hid (HB2.out.trans (hb3.mono hs))
      clear hbw hs hb3
      obtain ⟨-, -, -, hbw, hs⟩ := bx HB3.out
      by_cases h27 : 27 < sz T
      · have hd : decide ((sz T : Int) > 27) = true := by simp; omega
        have HR := Lib.hid (show CpyR (ofTw T) (ofTw U) w (.returned (.tuple #[.int .i64 0, .int .i64 3])) w3 from ⟨0, 3, rfl, .inr ⟨T, U, rfl, rfl, HGP.out, HGQ.out, .inl ⟨rfl, rfl, .inl h27⟩⟩, hbw⟩)
        clear h27 hbw hs
        go_wp2_with fail
        exact bodyPost_ret (v := .tuple #[.int .i64 0, .int .i64 3]) (by simp [results, Tryz.results8, go_sem]) rfl HR.out
      · have hd : decide ((sz T : Int) > 27) = false := by simp; omega
        go_wp2_with fail
        refine (HOQ.out _ HB3.out).mono ?_
        rintro e w4 ⟨rfl, hb4⟩
        have HB4 := Lib.hid (HB3.out.trans (hb4.mono hs))
        clear hbw hs hb4
        obtain ⟨-, -, -, hbw, hs⟩ := bx HB4.out
        by_cases h27U : 27 < sz U
        · have hd2 : decide ((sz U : Int) > 27) = true := by simp; omega
          have HR := Lib.hid (show CpyR (ofTw T) (ofTw U) w (.returned (.tuple #[.int .i64 0, .int .i64 3])) w4 from ⟨0, 3, rfl, .inr ⟨T, U, rfl, rfl, HGP.out, HGQ.out, .inl ⟨rfl, rfl, .inr h27U⟩⟩, hbw⟩)
          clear h27 h27U hbw hs
          go_wp2_with fail
          exact bodyPost_ret (v := .tuple #[.int .i64 0, .int .i64 3]) (by simp [results, Tryz.results8, go_sem]) rfl HR.out
        · have hd2 : decide ((sz U : Int) > 27) = false := by simp; omega
          have HLA := Lib.hid (CcP.lattice_any w4 w.heap.size 0 (ofTw T) (HPP.out w4 HB4.out))
          have hs4 : w.heap.size + 2 ≤ w4.heap.size := hs
          clear hbw hs
          go_wp2_with fail
          refine HLA.out.mono ?_
          rintro e w5 ⟨v, k, rfl, hb5, hcase⟩
          obtain ⟨rfl, hz32, hlat⟩ : k = 0 ∧ sz T ≤ 32 ∧ CcP.LatM T w5 v := by
            rcases hcase with ⟨_, _, h⟩ | ⟨T', hT', _, h⟩
            · exact absurd HGP.out h
            · obtain rfl := Grps.ofTw_inj hT'
              rcases h with ⟨_, _, h⟩ | ⟨h1, h2, h3⟩
              · omega
              · exact ⟨h1, h2, h3⟩
          obtain ⟨lb, lv, L, us, ms, rfl, hlb, hcl, hsl, hSub, hCan, hperm, hLl⟩ := hlat
          have HB5 := Lib.hid (HB4.out.trans (hb5.mono hs4))
          have hs5 : w.heap.size + 2 ≤ w5.heap.size := Nat.le_trans hs4 hb5.size
          have HCNT := Lib.hid (count HTT.out.1 HTT.out.2.2.1 (prm_of HTT.out.2.2.2) HUU.out.1 HUU.out.2.2.1 (prm_of HUU.out.2.2.2) hSub hCan hperm)
          have HLL := Lib.hid hLl
          have HSL := Lib.hid hsl
          have HLU := Lib.hid (show ∀ u ∈ L, Chn T u ∧ CcH.SubU T u from fun u hu => by
            obtain ⟨M, _, hc⟩ := hCan.mem (hperm.mem_iff.1 hu)
            exact ⟨(can_chn HTT.out.1 HTT.out.2.2.1 (prm_of HTT.out.2.2.2) hc).1, CcO.can_sub HTT.out.1 HTT.out.2.2.1 (prm_of HTT.out.2.2.2) HTT.out.2.1.1 hz729 hc⟩)
          obtain ⟨aL, cL, rfl, _, _⟩ := SlG.form hsl
          rw [List.length_map] at hcl HSL
          obtain ⟨n, hn⟩ : ∃ n, L.length = n := ⟨_, rfl⟩
          have HN := Lib.hid hn
          have hn63 : (n : Int) ≤ 4294967296 := by omega
          have HN63 := Lib.hid hn63
          rw [hn] at hcl HSL
          clear hb5 hcase hsl hSub hCan hperm hLl hn hn63 HLA
          go_wp2_with fail
          go_loopw [8, 37] (fun cv jv wr => ∃ j c : Nat, j ≤ n ∧ jv = .int .i64 (j : Int) ∧ cv = .int .i64 (c : Int) ∧ c ≤ j ∧ Hid (c = (cps T U (L.take j)).length) ∧ Hid (Below w5.heap.size w5 wr)) (fun _ jv _ => n - (intOf jv).toNat)
          case atStart => exact ⟨0, 0, Nat.zero_le _, rfl, rfl, Nat.le_refl _, Lib.hid (by simp [cps]), Lib.hid (Below.refl _ _)⟩
          case round =>
            obtain ⟨j, c, hj, rfl, rfl, hcj, hC, hB⟩ := hrel
            have HBr := Lib.hid (HB5.out.trans (hB.out.mono hs5))
            have hsr : w.heap.size + 2 ≤ wr.heap.size := Nat.le_trans hs5 hB.out.size
            clear hcl hlb
            by_cases hjn : j < n
            · obtain ⟨u, hu⟩ : ∃ u, L[j]? = some u := ⟨_, List.getElem?_eq_getElem (by rw [HN.out]; exact hjn)⟩
              obtain ⟨hch, hsu⟩ := HLU.out u (List.mem_of_getElem? hu)
              obtain ⟨bL, oL, vu, rfl, _, hbL, hcL, hru⟩ := SlG.get (Sl3.keep HSL.out (Keep.of_below hB.out)) (k := j) (x := u.map ints) (by rw [List.getElem?_map, hu]; rfl)
              have HRU := Lib.hid hru
              have HUI := Lib.hid hu
              have HCH := Lib.hid hch
              have HSU := Lib.hid hsu
              obtain ⟨aX, cX, rfl, _, _⟩ := SlG.form hru
              obtain ⟨lx, hlx⟩ : ∃ lx, u.length = lx := ⟨_, rfl⟩
              rw [List.length_map, hlx] at HRU hcL
              have HC1 := Lib.hid (HSZ.out wr HBr.out (.slice aX lx cX) u HRU.out (by have := hsu.len; omega) hsu.row hsu.size)
              have hd3 : decide ((j : Int) < (n : Int)) = true := by simp; omega
              have hji : (j : Int) < (n : Int) := by omega
              have hj0 : (0 : Int) ≤ (j : Int) := by omega
              have HJN := Lib.hid hjn
              have hj63 : (j : Int) + 1 ≤ 9223372036854775807 := by have := HN63.out; omega
              have hc63 : (c : Int) + 1 ≤ 9223372036854775807 := by have := HN63.out; omega
              clear hu hch hsu hru hlx hjn
              go_wp2_with fail
              refine HC1.out.mono ?_
              rintro e w6 ⟨rfl, hb6⟩
              have HB6 := Lib.hid (HBr.out.trans (hb6.b.mono hsr))
              have HR6 := Lib.hid (Sl2.keep HRU.out (Keep.of_below hb6.b))
              have hs6 : w.heap.size + 2 ≤ w6.heap.size := Nat.le_trans hsr hb6.b.size
              have HB56 := Lib.hid (hB.out.trans (hb6.b.mono hB.out.size))
              clear hb6 HC1 hcL hbL
              go_wp2_with fail
              refine (HOQ.out _ HB6.out).mono ?_
              rintro e w7 ⟨rfl, hb7⟩
              have HB7 := Lib.hid (HB6.out.trans (hb7.mono hs6))
              have HR7 := Lib.hid (Sl2.keep HR6.out (Keep.of_below hb7))
              have hs7 : w.heap.size + 2 ≤ w7.heap.size := Nat.le_trans hs6 hb7.size
              have HB57 := Lib.hid (HB56.out.trans (hb7.mono HB56.out.size))
              clear hb7
              by_cases hq : sz (subT T u) = sz U
              · have hb : ((sz (subT T u) : Int) != (sz U : Int)) = false := by rw [hq]; simp
                have HQQ := Lib.hid hq
                have HPC := Lib.hid (HPRE.out w7 HB7.out (.slice aX lx cX) u HR7.out HSU.out.len HCH.out)
                clear hq
                go_wp2_with fail
                refine HPC.out.mono ?_
                rintro e w8 ⟨v0, v1, v2, rfl, hv8, hb8⟩
                have HB8 := Lib.hid (HB7.out.trans (hb8.mono hs7))
                have hs8 : w.heap.size + 2 ≤ w8.heap.size := Nat.le_trans hs7 hb8.size
                have HB58 := Lib.hid (HB57.out.trans (hb8.mono HB57.out.size))
                obtain ⟨aO, cO, aP, cP, aC, cC, rfl, rfl, rfl, -, -, -⟩ := hv8.open
                have HV8 := Lib.hid hv8
                clear hv8 hb8 HPC
                go_upto_region 12 with fail
                obtain ⟨w9, hw9⟩ : ∃ w9, w9 = w8.alloc (.cells #[.slice aO (subT T u).length cO, .slice aP (subT T u).length cP, .slice aC (subT T u).length cC] 30) := ⟨_, rfl⟩
                have hb9 : Below w8.heap.size w8 w9 := by rw [hw9]; exact (Below.refl _ _).alloc (Nat.le_refl _) _
                have h9 : w9.heap[w8.heap.size]? = some (.cells #[.slice aO (subT T u).length cO, .slice aP (subT T u).length cP, .slice aC (subT T u).length cC] 30) := by rw [hw9]; exact heap_alloc_new w8 _
                have HPT := Lib.hid (show PtrP Any w9 w8.heap.size 0 (ofTw (subT T u)) from ⟨trivial, (Array.getElem?_eq_some_iff.1 h9).1, _, _, _, (by rw [cell_of_row _ _ _ _ _ (0, 0) h9]; rfl), (by rw [cell_of_row _ _ _ _ _ (0, 0) h9]; rfl), (by rw [cell_of_row _ _ _ _ _ (0, 0) h9]; rfl), HV8.out.keep (Keep.of_below hb9)⟩)
                have HB9 := Lib.hid (HB8.out.trans (hb9.mono hs8))
                have HB59 := Lib.hid (HB58.out.trans (hb9.mono HB58.out.size))
                have hs9 : w.heap.size + 2 ≤ w9.heap.size := Nat.le_trans hs8 hb9.size
                try rw [← hw9]
                have HIC := Lib.hid (HISO.out w9 HB9.out w8.heap.size (subT T u) HPT.out)
                have HGS := Lib.hid (grp_sub HTT.out.1 HTT.out.2.2.1 (prm_of HTT.out.2.2.2) HTT.out.2.1.1 hz729 HCH.out HSU.out.len)
                clear hw9 hb9 h9
                go_wp2_with fail
                refine HIC.out.mono ?_
                rintro e w10 hiso
                obtain ⟨aF, nF, cF, rfl, hnF, hnF9, hb10⟩ := iso_some HGQ.out HGS.out HQQ.out (by omega) hiso
                have HB510 := Lib.hid (HB59.out.trans (hb10.mono HB59.out.size))
                have HNF := Lib.hid hnF
                clear hiso hnF hnF9 hb10 HIC
                by_cases h0 : nF = 0
                · subst h0
                  have hgt : decide (((0 : Nat) : Int) > 0) = false := by decide
                  have HCN := Lib.hid (show c = (cps T U (L.take (j + 1))).length by
                    rw [cps_no HUI.out (fun h => h.2 (List.eq_nil_of_length_eq_zero HNF.out.symm))]; exact hC.out)
                  go_wp2_with fail
                  go_roundw
                  case rel => exact ⟨j + 1, c, HJN.out, by go_num, rfl, by omega, HCN, HB510⟩
                  case measure => have := HJN.out; simp [intOf]; omega
                · have hgt : decide ((nF : Int) > 0) = true := by simp; omega
                  have hgt2 : 0 < nF := by omega
                  have HCN := Lib.hid (show c + 1 = (cps T U (L.take (j + 1))).length by
                    rw [cps_yes HUI.out ⟨HQQ.out, fun h => h0 (by rw [HNF.out, h]; rfl)⟩, ← hC.out])
                  clear h0
                  go_wp2_with fail
                  go_roundw
                  case rel => exact ⟨j + 1, c + 1, HJN.out, by go_num, by go_num, by omega, HCN, HB510⟩
                  case measure => have := HJN.out; simp [intOf]; omega
              · have hb : ((sz (subT T u) : Int) != (sz U : Int)) = true := by simp; omega
                have HCN := Lib.hid (show c = (cps T U (L.take (j + 1))).length by rw [cps_no HUI.out (fun h => hq h.1)]; exact hC.out)
                clear hq
                go_wp2_with fail
                go_roundw
                case rel => exact ⟨j + 1, c, HJN.out, by go_num, rfl, by omega, HCN, HB57⟩
                case measure => have := HJN.out; simp [intOf]; omega
            · obtain rfl : j = n := by omega
              have hd3 : decide ((j : Int) < (j : Int)) = false := by simp
              have HR := Lib.hid (show CpyR (ofTw T) (ofTw U) w (.returned (.tuple #[.int .i64 (c : Int), .int .i64 0])) wr from ⟨_, 0, rfl, .inr ⟨T, U, rfl, rfl, HGP.out, HGQ.out, .inr ⟨rfl, by omega, by omega, by
                have h := hC.out
                rw [← HN.out, List.take_length] at h
                rw [div_count HCNT.out (auts_pos HUU.out.1 HUU.out.2.2.1 (prm_of HUU.out.2.2.2)), h]⟩⟩, (bx HBr.out).2.2.2.1⟩)
              clear hB hC
              go_wp2_with fail
              exact bodyPost_ret (v := .tuple #[.int .i64 (c : Int), .int .i64 0]) (by simp [results, Tryz.results8, go_sem]) rfl HR.out
    · obtain rfl : r = false := by
        cases r with
        | false => rfl
        | true => exact absurd (hr.1 rfl) hGQ
      have HR := Lib.hid (show CpyR P Q w (.returned (.tuple #[.int .i64 0, .int .i64 1])) w2 from ⟨0, 1, rfl, .inl ⟨rfl, rfl, fun h => hGQ h.2⟩, hbw⟩)
      clear hr hGQ hbw hs
      go_wp2_with fail
      exact bodyPost_ret (v := .tuple #[.int .i64 0, .int .i64 1]) (by simp [results, Tryz.results8, go_sem]) rfl HR.out
  · obtain rfl : r = false := by
      cases r with
      | false => rfl
      | true => exact absurd (hr.1 rfl) hGP
    have HR := Lib.hid (show CpyR P Q w (.returned (.tuple #[.int .i64 0, .int .i64 1])) w1 from ⟨0, 1, rfl, .inl ⟨rfl, rfl, fun h => hGP h.1⟩, hbw⟩)
    clear hr hGP hk hbw hs
    go_wp2_with fail
    exact bodyPost_ret (v := .tuple #[.int .i64 0, .int .i64 1]) (by simp [results, Tryz.results8, go_sem]) rfl HR.out
end Go.Proofs.YtabkibmnghbahaaGreat.CcR

/-
  The law FnExactCountCopies, walked.
-/
namespace Go.Proofs.YtabkibmnghbahaaGreat.CcS
open Go.RowKit Go.Proofs.YtabkibmnghbahaaGreat Go.Proofs.YtabkibmnghbahaaGreat.Tow Go.Proofs.YtabkibmnghbahaaGreat.SpecB Go.Proofs.YtabkibmnghbahaaGreat.LawB Go.Proofs.YtabkibmnghbahaaGreat.LawC Go.Proofs.YtabkibmnghbahaaGreat.LawD Go.Proofs.YtabkibmnghbahaaGreat.LawE Go.Proofs.YtabkibmnghbahaaGreat.IsoA Go.Proofs.YtabkibmnghbahaaGreat.CcR
open Go.Proofs.YtabkibmnghbahaaGreat.GenD (growV)
set_option linter.unusedVariables false
set_option linter.unusedSimpArgs false

set_option maxRecDepth 100000 in
set_option maxHeartbeats 2000000 in
theorem spec_copies (w : World) (pO pP pC qO qP qC : Value) (P Q : Pres) (hP : ValP Any w pO pP pC P) (hQ : ValP Any w qO qP qC Q) :
    Calls Tryz.prog 6 #[.agg #[pO, pP, pC], .agg #[qO, qP, qC]] w (CpyR P Q w) := by
  have HP := Lib.hid hP
  have HQ := Lib.hid hQ
  obtain ⟨W0, hW0⟩ : ∃ W0, W0 = (w.alloc (.cells #[pO, pP, pC] 30)).alloc (.cells #[qO, qP, qC] 30) := ⟨_, rfl⟩
  have HB0 := Lib.hid (show Below (w.heap.size + 2) ((w.alloc (.cells #[pO, pP, pC] 30)).alloc (.cells #[qO, qP, qC] 30)) W0 by rw [hW0]; exact Below.refl _ _)
  clear hP hQ
  go_enter Tryz.func6, Tryz.ntmps6
  go_upto_region 1 with fail
  rw [← hW0]
  clear hW0
  obtain ⟨⟨p0, p1, p2⟩, ⟨q0, q1, q2⟩, hk, hbw, hs⟩ := bx2 HB0.out
  go_wp2_with fail
  refine (code2_any _ _ _ _ _ _ _ P Q (HP.out.keep hk) (HQ.out.keep hk)).mono ?_
  rintro e w1 ⟨k, rfl, hc, hb1⟩
  have HB1 := Lib.hid (HB0.out.trans (hb1.mono hs))
  clear p0 p1 p2 q0 q1 q2 hk hbw hs hb1
  obtain ⟨⟨p0, p1, p2⟩, ⟨q0, q1, q2⟩, hk, hbw, hs⟩ := bx2 HB1.out
  rcases hc with ⟨rfl, hG⟩ | ⟨T, U, rfl, rfl, hG, hG2, ⟨rfl, h27⟩ | ⟨rfl, h27, h28⟩⟩
  · have HR := Lib.hid (show CpyR P Q w (.returned (.tuple #[.int .i64 0, .int .i64 1])) w1 from ⟨0, 1, rfl, .inl ⟨rfl, rfl, hG⟩, hbw⟩)
    clear hG hk hbw
    go_wp2_with fail
    exact bodyPost_ret (v := .tuple #[.int .i64 0, .int .i64 1]) (by simp [results, Tryz.results6, go_sem]) rfl HR.out
  · have HR := Lib.hid (show CpyR (ofTw T) (ofTw U) w (.returned (.tuple #[.int .i64 0, .int .i64 3])) w1 from ⟨0, 3, rfl, .inr ⟨T, U, rfl, rfl, hG, hG2, .inl ⟨rfl, rfl, h27⟩⟩, hbw⟩)
    clear hG hG2 hk hbw h27
    go_wp2_with fail
    exact bodyPost_ret (v := .tuple #[.int .i64 0, .int .i64 3]) (by simp [results, Tryz.results6, go_sem]) rfl HR.out
  · obtain ⟨hT, hsT, hgT, hpT⟩ := SpecX.grp_parts hG
    obtain ⟨hU, hsU, hgU, hpU⟩ := SpecX.grp_parts hG2
    have HE1 := Lib.hid (fun W h1 h2 => SpecX.embed_any U T hU hsU hT hsT hgT hpT h27 W qO qP qC pO pP pC h1 h2)
    have HE2 := Lib.hid (fun W h1 h2 => SpecX.embed_any U U hU hsU hU hsU hgU hpU h28 W qO qP qC qO qP qC h1 h2)
    have HP1 := Lib.hid (HP.out.keep hk)
    have HQ1 := Lib.hid (HQ.out.keep hk)
    have HPOS := Lib.hid (CcC.auts_pos hU hgU (prm_of hpU))
    obtain ⟨n1, hn1⟩ : ∃ n1, (growV T U U.length []).length = n1 := ⟨_, rfl⟩
    obtain ⟨n2, hn2⟩ : ∃ n2, (growV U U U.length []).length = n2 := ⟨_, rfl⟩
    have HN1 := Lib.hid hn1
    have HN2 := Lib.hid hn2
    rw [hn2] at HPOS
    have h6 : 27 ^ U.length ≤ 27 ^ 6 := Nat.pow_le_pow_right (by omega) hsU.1
    have hb1' : n1 ≤ 1000000000 := by
      have := Grow.grow_length T U h27 U.length []
      rw [← GenG.growV_count hT hgT hU, hn1] at this
      omega
    have hb2' : n2 ≤ 1000000000 := by
      have := Grow.grow_length U U h28 U.length []
      rw [← GenG.growV_count hU hgU hU, hn2] at this
      omega
    have HLE := Lib.hid (And.intro hb1' hb2')
    have HG := Lib.hid (And.intro hG hG2)
    have HBW := Lib.hid hbw
    have HLE7 := Lib.hid (And.intro h27 h28)
    have hwl0 : w.heap.size < w1.heap.size := by omega
    have hwl1 : w.heap.size + 1 < w1.heap.size := by omega
    clear hT hsT hgT hpT hU hsU hgU hpU hn1 hn2 hb1' hb2' h6 hk hG hG2 hbw h27 h28
    have hne : ¬ (n2 : Int) = 0 := by have := HPOS.out; omega
    have hne2 : ¬ n2 = 0 := by have := HPOS.out; omega
    obtain ⟨d, hdd⟩ : ∃ d : Nat, n1 / n2 = d := ⟨_, rfl⟩
    have hdc : (n1 : Int) / (n2 : Int) = (d : Int) := by rw [← hdd]; exact (Int.natCast_ediv n1 n2).symm
    have hd9 : d ≤ 1000000000 := by rw [← hdd]; exact Nat.le_trans (Nat.div_le_self _ _) HLE.out.1
    have hw64 : wrap64 (d : Int) = (d : Int) := by unfold wrap64; omega
    have hw65 : IntKind.i64.wrap (d : Int) = (d : Int) := IntWalk.i64_in _ (by omega)
    have HDD := Lib.hid hdd
    clear hdd hd9
    go_upto_region 4 with fail
    go_region_held3 (fun w' => (∀ b o, b < w1.heap.size → w'.cell? ⟨b, o, none⟩ = w1.cell? ⟨b, o, none⟩) ∧ Keep (fun _ => True) w1 w')
      (first | exact ks_mk (by repeat (first | exact (Keep.refl _ _).drew | exact Keep.refl _ _ | refine Keep.drewN ?_ _ | refine Keep.trans ?_ (Keep.of_below (by assumption)))))
      (first | (go_at_call_of 20 pO; refine (HE1.out _ (HQ1.out.keep (by repeat (first | exact (Keep.refl _ _).drew | exact Keep.refl _ _ | exact (Keep.refl _ _).alloc _ | exact ((Keep.refl _ _).alloc _).drew | refine Keep.drewN ?_ _ | refine Keep.trans ?_ (Keep.of_below (by assumption))))) (HP1.out.keep (by repeat (first | exact (Keep.refl _ _).drew | exact Keep.refl _ _ | exact (Keep.refl _ _).alloc _ | exact ((Keep.refl _ _).alloc _).drew | refine Keep.drewN ?_ _ | refine Keep.trans ?_ (Keep.of_below (by assumption)))))).mono ?_; rintro e w2 ⟨v2, rfl, ho2, hb2⟩; obtain ⟨a2, c2, rfl, _, _⟩ := ho2.form; rw [HN1.out]) | (go_at_call 20; refine (HE2.out _ (HQ1.out.keep (by repeat (first | exact (Keep.refl _ _).drew | exact Keep.refl _ _ | exact (Keep.refl _ _).alloc _ | exact ((Keep.refl _ _).alloc _).drew | refine Keep.drewN ?_ _ | refine Keep.trans ?_ (Keep.of_below (by assumption))))) (HQ1.out.keep (by repeat (first | exact (Keep.refl _ _).drew | exact Keep.refl _ _ | exact (Keep.refl _ _).alloc _ | exact ((Keep.refl _ _).alloc _).drew | refine Keep.drewN ?_ _ | refine Keep.trans ?_ (Keep.of_below (by assumption)))))).mono ?_; rintro e w3 ⟨v3, rfl, ho3, hb3⟩; obtain ⟨a3, c3, rfl, _, _⟩ := ho3.form; rw [HN2.out]))
    rename_i hHd
    clear hHd
    have h12 : Below w1.heap.size w1 w2 := by first | exact ((Below.refl _ _).drew).trans hb2 | exact hb2
    have HB2 := Lib.hid (h12.trans (hb3.mono h12.size))
    have HR := Lib.hid (show CpyR (ofTw T) (ofTw U) w (.returned (.tuple #[.int .i64 (d : Int), .int .i64 0])) w3 from ⟨_, 0, rfl, .inr ⟨T, U, rfl, rfl, HG.out.1, HG.out.2, .inr ⟨rfl, HLE7.out.1, HLE7.out.2, by rw [HN1.out, HN2.out, HDD.out]⟩⟩, HBW.out.trans (HB2.out.mono (by omega))⟩)
    clear h12 ho2 hb2 ho3 hb3 hdc hne hne2
    go_wp2_with fail
    exact bodyPost_ret (v := .tuple #[.int .i64 (d : Int), .int .i64 0]) (by simp [results, Tryz.results6, go_sem]) rfl HR.out

set_option maxRecDepth 100000 in
set_option maxHeartbeats 4000000 in
theorem walk (pO pP pC : Value) (P : Pres) (qO qP qC : Value) (Q : Pres) (w : World) (hP : ValP Any w pO pP pC P) (hQ : ValP Any w qO qP qC Q) :
    Calls Tryz.prog 3 #[.agg #[pO, pP, pC], .agg #[qO, qP, qC]] w fun e w' => e = .returned (.bool true) ∧ Below w.heap.size w w' := by
  have HP := Lib.hid hP
  have HQ := Lib.hid hQ
  have HSZ := Lib.hid (fun W h => (szP_any W pO pP pC P h 1048576 (by omega) : Calls Tryz.prog 5 #[.agg #[pO, pP, pC], .int .i64 1048576] W (SzPR 1048576 (BP 1048576 P) W)))
  have HTO := Lib.hid (fun W h hl => toP_any W pO pP pC P h hl)
  have HTQ := Lib.hid (fun W h hl => toP_any W qO qP qC Q h hl)
  have HQ1 := Lib.hid (fun (n k n' k' : Int) (h : CpyV P Q n k) (h' : CpyV P Q n' k') => cpy_one h h')
  obtain ⟨W0, hW0⟩ : ∃ W0, W0 = (w.alloc (.cells #[pO, pP, pC] 26)).alloc (.cells #[qO, qP, qC] 26) := ⟨_, rfl⟩
  have HB0 := Lib.hid (show Below (w.heap.size + 2) ((w.alloc (.cells #[pO, pP, pC] 26)).alloc (.cells #[qO, qP, qC] 26)) W0 by rw [hW0]; exact Below.refl _ _)
  clear hP hQ
  go_enter Tryz.func3, Tryz.ntmps3
  go_upto_region 1 with fail
  rw [← hW0]
  clear hW0
  obtain ⟨⟨p0, p1, p2⟩, ⟨q0, q1, q2⟩, hk0, hbw0, hs0⟩ := bx2 HB0.out
  go_wp2_with fail
  refine (HSZ.out _ (HP.out.keep hk0)).mono ?_
  rintro e w1 ⟨⟨r, rfl, hr⟩, hb1⟩
  have HB1 := Lib.hid (HB0.out.trans (hb1.mono hs0))
  clear p0 p1 p2 q0 q1 q2 hk0 hbw0 hs0 hb1
  obtain ⟨⟨p0, p1, p2⟩, ⟨q0, q1, q2⟩, hk0, hbw0, hs0⟩ := bx2 HB1.out
  have HBW1 := Lib.hid hbw0
  rcases hr with rfl | ⟨m, rfl, hm, hBP⟩
  · go_wp2_with fail
    go_ret
    exact ⟨rfl, HBW1.out⟩
  have HBP := Lib.hid hBP
  have hm0 : decide ((m : Int) < 0) = false := by simp
  have HM := Lib.hid hm
  have HSQ := Lib.hid (szP_any w1 qO qP qC Q (HQ.out.keep hk0) m (by omega))
  clear hBP hm hk0 hbw0
  go_wp2_with fail
  refine HSQ.out.mono ?_
  rintro e w2 ⟨⟨r, rfl, hr⟩, hb2⟩
  have HB2 := Lib.hid (HB1.out.trans (hb2.mono hs0))
  clear p0 p1 p2 q0 q1 q2 hs0 hb2
  obtain ⟨⟨p0, p1, p2⟩, ⟨q0, q1, q2⟩, hk0, hbw0, hs0⟩ := bx2 HB2.out
  have HBW2 := Lib.hid hbw0
  rcases hr with rfl | ⟨m2, rfl, hm2, hBQ⟩
  · go_wp2_with fail
    go_ret
    exact ⟨rfl, HBW2.out⟩
  have HBQ := Lib.hid (BP.le HM.out hBQ)
  have hm02 : decide ((m2 : Int) < 0) = false := by simp
  have HP2 := Lib.hid (HP.out.keep hk0)
  have HQ2 := Lib.hid (HQ.out.keep hk0)
  have hl0 : w.heap.size < w2.heap.size := by omega
  have hl1 : w.heap.size + 1 < w2.heap.size := by omega
  clear hBQ hm2 hk0 hbw0 HM HSQ HSZ
  go_wp2_with fail
  go_region_held3 (fun w' => (∀ b o, b < w2.heap.size → w'.cell? ⟨b, o, none⟩ = w2.cell? ⟨b, o, none⟩) ∧ Keep (fun _ => True) w2 w')
    (first | exact ks_mk (by repeat (first | exact (Keep.refl _ _).drew | exact Keep.refl _ _ | refine Keep.drewN ?_ _ | refine Keep.trans ?_ (Keep.of_below (by assumption)))))
    (first | (go_at_call_of 7 pO; refine (HTO.out _ (HP2.out.keep (by repeat (first | exact (Keep.refl _ _).drew | exact Keep.refl _ _ | exact (Keep.refl _ _).alloc _ | exact ((Keep.refl _ _).alloc _).drew | refine Keep.drewN ?_ _ | refine Keep.trans ?_ (Keep.of_below (by assumption))))) HBP.out).mono ?_; rintro e w3 ⟨vO, vP, vC, rfl, hV3, hb3⟩) | (go_at_call_of 7 qO; refine (HTQ.out _ (HQ2.out.keep (by repeat (first | exact (Keep.refl _ _).drew | exact Keep.refl _ _ | exact (Keep.refl _ _).alloc _ | exact ((Keep.refl _ _).alloc _).drew | refine Keep.drewN ?_ _ | refine Keep.trans ?_ (Keep.of_below (by assumption))))) HBQ.out).mono ?_; rintro e w4 ⟨uO, uP, uC, rfl, hV4, hb4⟩) | (go_at_call 6; refine (spec_copies _ vO vP vC uO uP uC P Q ((hV3.mono (fun _ _ => trivial)).keep (by repeat (first | exact (Keep.refl _ _).drew | exact Keep.refl _ _ | exact (Keep.refl _ _).alloc _ | exact ((Keep.refl _ _).alloc _).drew | refine Keep.drewN ?_ _ | refine Keep.trans ?_ (Keep.of_below (by assumption))))) ((hV4.mono (fun _ _ => trivial)).keep (by repeat (first | exact (Keep.refl _ _).drew | exact Keep.refl _ _ | exact (Keep.refl _ _).alloc _ | exact ((Keep.refl _ _).alloc _).drew | refine Keep.drewN ?_ _ | refine Keep.trans ?_ (Keep.of_below (by assumption)))))).mono ?_; rintro e w5 ⟨n, k, rfl, hc, hb5⟩))
  rename_i hHd
  clear hHd
  have HB3 := Lib.hid (HB2.out.drew.trans (hb3.mono hs0))
  have HB4 := Lib.hid (HB3.out.trans (hb4.mono (bx2 HB3.out).2.2.2.2))
  have HB5 := Lib.hid (HB4.out.trans (hb5.mono (bx2 HB4.out).2.2.2.2))
  have HC := Lib.hid hc
  clear p0 p1 p2 q0 q1 q2 hs0 hV3 hb3 hV4 hb4 hc hb5 HP2 HQ2 hl0 hl1 HB0 HB1 HBW1 HB2 HBW2 hm0 hm02 HB3 HB4
  obtain ⟨⟨p0, p1, p2⟩, ⟨q0, q1, q2⟩, hk, hbw, hs⟩ := bx2 HB5.out
  go_wp2_with fail
  refine (HTO.out _ (HP.out.keep hk) HBP.out).mono ?_
  rintro e w6 ⟨xO, xP, xC, rfl, hV, hb6⟩
  obtain ⟨aO, cO, rfl, _, _⟩ := SlG.form hV.os
  obtain ⟨aP, cP, rfl, _, _⟩ := SlG.form hV.ps
  obtain ⟨aC, cC, rfl, _, _⟩ := SlG.form hV.cs
  have HB6 := Lib.hid (HB5.out.trans (hb6.mono hs))
  have HX := Lib.hid (hV.mono (fun _ _ => trivial) : ValP Any w6 (.slice aO P.os.length cO) (.slice aP P.ps.length cP) (.slice aC P.cs.length cC) P)
  clear p0 p1 p2 q0 q1 q2 hk hbw hs hb6 hV
  go_upto_region 10 with fail
  obtain ⟨g, hg⟩ : ∃ g, w6.heap.size = g := ⟨_, rfl⟩
  obtain ⟨W7, hW7⟩ : ∃ W7, W7 = w6.alloc (.cells #[.slice aO P.os.length cO, .slice aP P.ps.length cP, .slice aC P.cs.length cC] 30) := ⟨_, rfl⟩
  rw [← hW7]
  have G7 := Lib.hid (show W7.heap[g]? = some (.cells #[.slice aO P.os.length cO, .slice aP P.ps.length cP, .slice aC P.cs.length cC] 30 (0, 0)) by rw [hW7, ← hg]; exact new_blk)
  have HS7 := Lib.hid (show W7.heap.size = g + 1 by rw [hW7, ← hg]; simp)
  have HB7 := Lib.hid (show Below (w.heap.size + 2) ((w.alloc (.cells #[pO, pP, pC] 26)).alloc (.cells #[qO, qP, qC] 26)) W7 by rw [hW7]; exact HB6.out.alloc (bx2 HB6.out).2.2.2.2 _)
  have HX7 := Lib.hid (show ValP Any W7 _ _ _ P by rw [hW7]; exact HX.out.keep ((Keep.refl _ _).alloc _))
  simp only [hg]
  clear hW7 hg HX HB6 HB5
  obtain ⟨⟨p0, p1, p2⟩, ⟨q0, q1, q2⟩, hk, hbw, hs⟩ := bx2 HB7.out
  go_wp2_with fail
  refine (HTQ.out _ (HQ.out.keep hk) HBQ.out).mono ?_
  rintro e w8 ⟨yO, yP, yC, rfl, hV, hb8⟩
  obtain ⟨bO, dO, rfl, _, _⟩ := SlG.form hV.os
  obtain ⟨bP, dP, rfl, _, _⟩ := SlG.form hV.ps
  obtain ⟨bC, dC, rfl, _, _⟩ := SlG.form hV.cs
  have HB8 := Lib.hid (HB7.out.trans (hb8.mono hs))
  have G8 := Lib.hid (blk hb8 (by rw [HS7.out]; omega) G7.out)
  have HX8 := Lib.hid (HX7.out.keep (Keep.of_below hb8))
  have HY := Lib.hid (hV.mono (fun _ _ => trivial) : ValP Any w8 (.slice bO Q.os.length dO) (.slice bP Q.ps.length dP) (.slice bC Q.cs.length dC) Q)
  clear p0 p1 p2 q0 q1 q2 hk hbw hs hb8 hV
  go_upto_region 11 with fail
  obtain ⟨g', hg'⟩ : ∃ g', w8.heap.size = g' := ⟨_, rfl⟩
  obtain ⟨W9, hW9⟩ : ∃ W9, W9 = w8.alloc (.cells #[.slice bO Q.os.length dO, .slice bP Q.ps.length dP, .slice bC Q.cs.length dC] 30) := ⟨_, rfl⟩
  rw [← hW9]
  have G9 := Lib.hid (show W9.heap[g]? = some (.cells #[.slice aO P.os.length cO, .slice aP P.ps.length cP, .slice aC P.cs.length cC] 30 (0, 0)) by rw [hW9]; exact old_blk G8.out)
  have K9 := Lib.hid (show W9.heap[g']? = some (.cells #[.slice bO Q.os.length dO, .slice bP Q.ps.length dP, .slice bC Q.cs.length dC] 30 (0, 0)) by rw [hW9, ← hg']; exact new_blk)
  have HB9 := Lib.hid (show Below (w.heap.size + 2) ((w.alloc (.cells #[pO, pP, pC] 26)).alloc (.cells #[qO, qP, qC] 26)) W9 by rw [hW9]; exact HB8.out.alloc (bx2 HB8.out).2.2.2.2 _)
  have HX9 := Lib.hid (show ValP Any W9 _ _ _ P by rw [hW9]; exact HX8.out.keep ((Keep.refl _ _).alloc _))
  have HY9 := Lib.hid (show ValP Any W9 _ _ _ Q by rw [hW9]; exact HY.out.keep ((Keep.refl _ _).alloc _))
  simp only [hg']
  clear hW9 hg' HX8 HX7 HY HB8 HB7 G7 G8 HS7
  obtain ⟨⟨x0, x1, x2⟩, _⟩ := row3 G9.out
  obtain ⟨⟨y0, y1, y2⟩, _⟩ := row3 K9.out
  go_wp2_with fail
  refine (impl_copies _ _ _ _ _ _ _ P Q HX9.out HY9.out).mono ?_
  rintro e w10 ⟨n', k', rfl, hc, hb10⟩
  obtain ⟨rfl, rfl⟩ := HQ1.out _ _ _ _ HC.out hc
  have HB10 := Lib.hid (HB9.out.trans (hb10.mono (bx2 HB9.out).2.2.2.2))
  have HX10 := Lib.hid (HX9.out.keep (Keep.of_below hb10))
  have HY10 := Lib.hid (HY9.out.keep (Keep.of_below hb10))
  have hg9 := (Array.getElem?_eq_some_iff.1 G9.out).1
  have hk9 := (Array.getElem?_eq_some_iff.1 K9.out).1
  have G10 := Lib.hid (blk hb10 hg9 G9.out)
  have K10 := Lib.hid (blk hb10 hk9 K9.out)
  have hg10 : g < w10.heap.size := Nat.lt_of_lt_of_le hg9 hb10.size
  have hk10 : g' < w10.heap.size := Nat.lt_of_lt_of_le hk9 hb10.size
  clear hc hb10 x0 x1 x2 y0 y1 y2 G9 K9 HX9 HY9 HB9 HQ1 HC hg9 hk9
  obtain ⟨⟨x0, x1, x2⟩, _⟩ := row3 G10.out
  obtain ⟨⟨p0, p1, p2⟩, ⟨q0, q1, q2⟩, hk, hbw, hs⟩ := bx2 HB10.out
  have HP10 := Lib.hid (HP.out.keep hk)
  have hw0 : w.heap.size < w10.heap.size := by omega
  have hw1 : w.heap.size + 1 < w10.heap.size := by omega
  have n1 : (n' != n') = false := by simp
  have n2 : (k' != k') = false := by simp
  clear hk hbw
  go_wp2_with fail
  go_region_held3 (fun w' => (∀ b o, b < w10.heap.size → w'.cell? ⟨b, o, none⟩ = w10.cell? ⟨b, o, none⟩) ∧ Keep (fun _ => True) w10 w')
    (first | exact ks_mk (by repeat (first | exact (Keep.refl _ _).drew | exact Keep.refl _ _ | refine Keep.drewN ?_ _ | refine Keep.trans ?_ (Keep.of_below (by assumption)))))
    (first | (go_at_call 7; refine (HTO.out _ (HP10.out.keep (by repeat (first | exact (Keep.refl _ _).drew | exact Keep.refl _ _ | exact (Keep.refl _ _).alloc _ | exact ((Keep.refl _ _).alloc _).drew | refine Keep.drewN ?_ _ | refine Keep.trans ?_ (Keep.of_below (by assumption))))) HBP.out).mono ?_; rintro e w11 ⟨zO, zP, zC, rfl, hV11, hb11⟩) | (go_at_call 9; refine (eqP_any _ _ _ _ zO zP zC P P (HX10.out.keep (by repeat (first | exact (Keep.refl _ _).drew | exact Keep.refl _ _ | exact (Keep.refl _ _).alloc _ | exact ((Keep.refl _ _).alloc _).drew | refine Keep.drewN ?_ _ | refine Keep.trans ?_ (Keep.of_below (by assumption))))) ((hV11.mono (fun _ _ => trivial)).keep (by repeat (first | exact (Keep.refl _ _).drew | exact Keep.refl _ _ | exact (Keep.refl _ _).alloc _ | exact ((Keep.refl _ _).alloc _).drew | refine Keep.drewN ?_ _ | refine Keep.trans ?_ (Keep.of_below (by assumption)))))).mono ?_; rintro e w12 ⟨b, rfl, hbt, hb12⟩; obtain rfl : b = true := hbt.2 rfl))
  rename_i hHd
  have hk12 := hHd.2
  clear hHd
  have HB11 := Lib.hid (HB10.out.drew.trans (hb11.mono hs))
  have HB12 := Lib.hid (HB11.out.trans (hb12.mono (bx2 HB11.out).2.2.2.2))
  have hs12 : w10.heap.size ≤ w12.heap.size := hk12.size
  have HY12 := Lib.hid (HY10.out.keep hk12)
  have K12 := Lib.hid ((hk12.block g' trivial hk10).trans K10.out)
  clear hV11 hb11 hbt hb12 x0 x1 x2 p0 p1 p2 q0 q1 q2 hs hk12 HP10 HX10 HY10 G10 K10 HB10 HB11
  obtain ⟨⟨x0, x1, x2⟩, _⟩ := row3 K12.out
  obtain ⟨⟨p0, p1, p2⟩, ⟨q0, q1, q2⟩, hk, hbw, hs⟩ := bx2 HB12.out
  have HQ12 := Lib.hid (HQ.out.keep hk)
  have hw2 : w.heap.size < w12.heap.size := by omega
  have hw3 : w.heap.size + 1 < w12.heap.size := by omega
  have hk12 : g' < w12.heap.size := by omega
  clear hk hbw
  go_wp2_with fail
  go_region_held3 (fun w' => (∀ b o, b < w12.heap.size → w'.cell? ⟨b, o, none⟩ = w12.cell? ⟨b, o, none⟩) ∧ Keep (fun _ => True) w12 w')
    (first | exact ks_mk (by repeat (first | exact (Keep.refl _ _).drew | exact Keep.refl _ _ | refine Keep.drewN ?_ _ | refine Keep.trans ?_ (Keep.of_below (by assumption)))))
    (first | (go_at_call 7; refine (HTQ.out _ (HQ12.out.keep (by repeat (first | exact (Keep.refl _ _).drew | exact Keep.refl _ _ | exact (Keep.refl _ _).alloc _ | exact ((Keep.refl _ _).alloc _).drew | refine Keep.drewN ?_ _ | refine Keep.trans ?_ (Keep.of_below (by assumption))))) HBQ.out).mono ?_; rintro e w13 ⟨zO, zP, zC, rfl, hV13, hb13⟩) | (go_at_call 9; refine (eqP_any _ _ _ _ zO zP zC Q Q (HY12.out.keep (by repeat (first | exact (Keep.refl _ _).drew | exact Keep.refl _ _ | exact (Keep.refl _ _).alloc _ | exact ((Keep.refl _ _).alloc _).drew | refine Keep.drewN ?_ _ | refine Keep.trans ?_ (Keep.of_below (by assumption))))) ((hV13.mono (fun _ _ => trivial)).keep (by repeat (first | exact (Keep.refl _ _).drew | exact Keep.refl _ _ | exact (Keep.refl _ _).alloc _ | exact ((Keep.refl _ _).alloc _).drew | refine Keep.drewN ?_ _ | refine Keep.trans ?_ (Keep.of_below (by assumption)))))).mono ?_; rintro e w14 ⟨b, rfl, hbt, hb14⟩; obtain rfl : b = true := hbt.2 rfl))
  rename_i hHd
  clear hHd
  have HB13 := Lib.hid (HB12.out.drew.trans (hb13.mono hs))
  have HB14 := Lib.hid (HB13.out.trans (hb14.mono (bx2 HB13.out).2.2.2.2))
  have HBW14 := Lib.hid (bx2 HB14.out).2.2.2.1
  clear hV13 hb13 hbt hb14 x0 x1 x2 p0 p1 p2 q0 q1 q2
  go_wp2_with fail
  go_ret
  exact ⟨rfl, HBW14.out⟩
end Go.Proofs.YtabkibmnghbahaaGreat.CcS
