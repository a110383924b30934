import Derived.Test.YtabeedimnbkcgaaGreatBx
import Derived.Test.YtabeedimnbkcgaaGreatFindAD
/-
  spec.IsElement, impl.areElements.
-/
namespace Go.Proofs.YtabeedimnbkcgaaGreat.Elt
open Go.RowKit Go.Proofs.YtabeedimnbkcgaaGreat Go.Proofs.YtabeedimnbkcgaaGreat.Tow Go.Proofs.YtabeedimnbkcgaaGreat.Val Go.Proofs.YtabeedimnbkcgaaGreat.Grps Go.Proofs.YtabeedimnbkcgaaGreat.SpecB Go.Proofs.YtabeedimnbkcgaaGreat.LawF
set_option linter.unusedVariables false
set_option linter.unusedSimpArgs false

/-- an element of a group -/
def ElV (P : Pres) (l : List Int) : Prop := Grp P ∧ TailV P.os 0 l
/-- an answer yes or no -/
def YesR (p : Prop) (w : World) (e : Ending) (w' : World) : Prop := ∃ r : Bool, e = .returned (.bool r) ∧ (r = true ↔ p) ∧ Below w.heap.size w w'
theorem YesR.t {p : Prop} {w w' : World} (h : p) (hb : Below w.heap.size w w') : YesR p w (.returned (.bool true)) w' := ⟨true, rfl, ⟨fun _ => h, fun _ => rfl⟩, hb⟩
theorem YesR.f {p : Prop} {w w' : World} (h : ¬ p) (hb : Below w.heap.size w w') : YesR p w (.returned (.bool false)) w' := ⟨false, rfl, ⟨fun h => Bool.noConfusion h, fun h' => absurd h' h⟩, hb⟩
theorem grp_pr {P : Pres} (h : Grp P) : ∀ x ∈ P.os, primeB x = true := by
  obtain ⟨_, _, _, _, hv, _⟩ := h
  exact hv.pr

set_option maxHeartbeats 1000000 in
theorem l10Element_any (w : World) (pO pP pC vx : Value) (P : Pres) (l : List Int) (hP : ValP Any w pO pP pC P) (hx : SlI Any w vx l) (hpr : ∀ x ∈ P.os, primeB x = true) :
    Calls Tryz.prog 112 #[.agg #[pO, pP, pC], vx] w (YesR (TailV P.os 0 l) w) := by
  have HB := Lib.hid ((Below.refl w.heap.size w).alloc (Nat.le_refl _) (.cells #[pO, pP, pC] 30))
  have HC := Lib.hid (SpecV.exps_any (w.alloc (.cells #[pO, pP, pC] 30)) pO vx P.os l (-1) 0 (fun j => by omega) (hP.os.keep ((Keep.refl _ _).alloc _)) (hx.keep ((Keep.refl _ _).alloc _)) hpr)
  clear hP hx hpr
  go_enter Tryz.func112, Tryz.ntmps112
  go_wp2_with fail
  refine HC.out.mono ?_
  rintro e w1 ⟨r, rfl, hr, hn⟩
  have HR := Lib.hid (show YesR (TailV P.os 0 l) w (.returned (.bool r)) w1 from ⟨r, rfl, hr, HB.out.trans ((LawE.bel_drawn (Below.refl _ _) hn))⟩)
  clear hr hn
  go_wp2_with fail
  go_ret
  exact HR.out

set_option maxHeartbeats 1000000 in
theorem isElement_any (w : World) (pO pP pC vx : Value) (P : Pres) (l : List Int) (hP : ValP Any w pO pP pC P) (hx : SlI Any w vx l) :
    Calls Tryz.prog 78 #[.agg #[pO, pP, pC], vx] w (YesR (ElV P l) w) := by
  have HP := Lib.hid hP
  have HX := Lib.hid hx
  obtain ⟨W0, hW0⟩ : ∃ W0, W0 = w.alloc (.cells #[pO, pP, pC] 30) := ⟨_, rfl⟩
  have HB0 := Lib.hid (show Below (w.heap.size + 1) (w.alloc (.cells #[pO, pP, pC] 30)) W0 by rw [hW0]; exact Below.refl _ _)
  clear hP hx
  go_enter Tryz.func78, Tryz.ntmps78
  go_upto_region 1 with fail
  rw [← hW0]
  clear hW0
  obtain ⟨⟨e0, e1, e2⟩, hk, hbw, hs⟩ := bx1 HB0.out
  go_wp2_with fail
  refine (SpecH.group_any _ pO pP pC P (HP.out.keep hk)).mono ?_
  rintro e w1 ⟨r, rfl, hr, hb1⟩
  have HB1 := Lib.hid (HB0.out.trans (hb1.mono hs))
  clear e0 e1 e2 hk hbw hs hb1
  obtain ⟨⟨e0, e1, e2⟩, hk, hbw, hs⟩ := bx1 HB1.out
  have HBW := Lib.hid hbw
  by_cases hG : Grp P
  · obtain rfl : r = true := hr.2 hG
    have HC := Lib.hid (l10Element_any w1 pO pP pC vx P l (HP.out.keep hk) (HX.out.keep hk) (grp_pr hG))
    have HG := Lib.hid hG
    clear hr hG hk hbw
    go_wp2_with fail
    refine HC.out.mono ?_
    rintro e w2 ⟨r, rfl, hr, hb2⟩
    have HR := Lib.hid (show YesR (ElV P l) w (.returned (.bool r)) w2 from ⟨r, rfl, ⟨fun h => ⟨HG.out, hr.1 h⟩, fun h => hr.2 h.2⟩, HBW.out.trans (hb2.mono (by omega))⟩)
    clear hr hb2
    go_wp2_with fail
    go_ret
    exact HR.out
  · obtain rfl : r = false := by
      cases r with
      | false => rfl
      | true => exact absurd (hr.1 rfl) hG
    have HR := Lib.hid (show YesR (ElV P l) w (.returned (.bool false)) w1 from YesR.f (fun h => hG h.1) HBW.out)
    clear hr hG hk hbw
    go_wp2_with fail
    go_ret
    exact HR.out

set_option maxHeartbeats 1000000 in
theorem areElements_any (w : World) (b o : Nat) (P : Pres) (vl : Value) (ls : List (List Int)) (hP : PtrP Any w b o P) (hl : Sl2 Any w vl ls) :
    Calls Tryz.prog 79 #[.pointer (some ⟨b, o, none⟩), vl] w (YesR (Grp P ∧ ∀ l ∈ ls, TailV P.os 0 l) w) := by
  have HP := Lib.hid hP
  obtain ⟨_, hbl, vO, vP, vC, hp0, hp1, hp2, hV⟩ := hP
  obtain ⟨a, c, rfl, _, hcm⟩ := SlG.form hl
  unfold maxLen at hcm
  have hl63 : (ls.length : Int) ≤ 9223372036854775807 := by have := SlG.form hl; omega
  have HL := Lib.hid hl
  have HG := Lib.hid (ImplI.group_any w vO vP vC P hV)
  clear hV hl hcm
  go_enter Tryz.func79, Tryz.ntmps79
  go_wp2_with fail
  refine HG.out.mono ?_
  rintro e w1 ⟨r, rfl, hr, hb1⟩
  have HB1 := Lib.hid hb1
  clear hb1
  by_cases hGP : Grp P
  · obtain rfl : r = true := hr.2 hGP
    have HGP := Lib.hid hGP
    have HPR := Lib.hid (grp_pr hGP)
    clear hr hGP
    go_wp2_with fail
    go_loop [14] (fun iv => ∃ k : Nat, k ≤ ls.length ∧ iv = .int .i64 (k : Int) ∧ Hid (∀ l ∈ ls.take k, TailV P.os 0 l)) (fun iv => ls.length - (intOf iv).toNat)
    case atStart => exact ⟨0, Nat.zero_le _, rfl, Lib.hid (by simp)⟩
    case round =>
      obtain ⟨k, hk, rfl, hR⟩ := hrel
      by_cases hlt : k < ls.length
      · obtain ⟨l, hl⟩ : ∃ l, ls[k]? = some l := ⟨_, List.getElem?_eq_getElem hlt⟩
        obtain ⟨b2, o2, u, rfl, _, hb2, hc, hu⟩ := SlG.get HL.out hl
        have hcr := ((Keep.of_below (S := Any) HB1.out).cell (b := b2) (o := o2 + k) trivial hb2).trans hc
        have HE := Lib.hid (ImplV.isExponents_any w1 b o P u l (HP.out.keep (Keep.of_below HB1.out)) (SlI.keep hu (Keep.of_below HB1.out)) HPR.out)
        have HLM := Lib.hid (List.mem_of_getElem? hl)
        have HTK := Lib.hid (take_succ hl)
        clear hl hc hu
        go_wp2_with fail
        refine HE.out.mono ?_
        rintro e w' ⟨r, rfl, hr, rfl⟩
        by_cases ht : TailV P.os 0 l
        · obtain rfl : r = true := hr.2 ht
          have HN := Lib.hid (show ∀ l ∈ ls.take (k + 1), TailV P.os 0 l from fun x hx => by
            rw [HTK.out] at hx
            rcases List.mem_append.1 hx with h | h
            · exact hR.out x h
            · rw [List.mem_singleton.1 h]; exact ht)
          clear hr ht hR
          go_wp2_with fail
          go_round
          case rel => exact ⟨k + 1, by omega, by go_num, HN⟩
          case measure => simp [intOf]; omega
        · obtain rfl : r = false := by
            cases r with
            | false => rfl
            | true => exact absurd (hr.1 rfl) ht
          have HRR := Lib.hid (show YesR (Grp P ∧ ∀ l ∈ ls, TailV P.os 0 l) w (.returned (.bool false)) w1 from YesR.f (fun h => ht (h.2 l HLM.out)) HB1.out)
          clear hr ht hR
          go_wp2_with fail
          go_ret
          exact HRR.out
      · obtain rfl : k = ls.length := by omega
        have HRR := Lib.hid (show YesR (Grp P ∧ ∀ l ∈ ls, TailV P.os 0 l) w (.returned (.bool true)) w1 from YesR.t ⟨HGP.out, by have h := hR.out; rwa [List.take_length] at h⟩ HB1.out)
        clear hR
        go_wp2_with fail
        go_ret
        exact HRR.out
  · obtain rfl : r = false := by
      cases r with
      | false => rfl
      | true => exact absurd (hr.1 rfl) hGP
    have HR := Lib.hid (show YesR (Grp P ∧ ∀ l ∈ ls, TailV P.os 0 l) w (.returned (.bool false)) w1 from YesR.f (fun h => hGP h.1) HB1.out)
    clear hr hGP
    go_wp2_with fail
    go_ret
    exact HR.out
end Go.Proofs.YtabeedimnbkcgaaGreat.Elt

/-
  impl.normalWord, impl.evaluate, impl.applyImages.
-/
namespace Go.Proofs.YtabeedimnbkcgaaGreat.OrbA
open Go.RowKit Go.Proofs.YtabeedimnbkcgaaGreat Go.Proofs.YtabeedimnbkcgaaGreat.Tow Go.Proofs.YtabeedimnbkcgaaGreat.NumT Go.Proofs.YtabeedimnbkcgaaGreat.SpecB
set_option linter.unusedVariables false
set_option linter.unusedSimpArgs false

/-- the word of an element -/
def wrd : Nat → List Nat → List Nat
  | _, [] => []
  | s, a :: x => List.replicate a (s + 1) ++ wrd (s + 1) x
theorem wrd_snoc : ∀ (x : List Nat) (s a : Nat), wrd s (x ++ [a]) = wrd s x ++ List.replicate a (s + x.length + 1)
  | [], s, a => by simp [wrd]
  | b :: x, s, a => by
    rw [List.cons_append, wrd, wrd, wrd_snoc x (s + 1) a, List.append_assoc, List.length_cons]
    congr 3
    omega
theorem wrd_length : ∀ (x : List Nat) (s : Nat), (∀ a ∈ x, a ≤ 6) → (wrd s x).length ≤ 6 * x.length
  | [], s, _ => by simp [wrd]
  | a :: x, s, h => by
    have h1 := wrd_length x (s + 1) (fun y hy => h y (List.mem_cons_of_mem _ hy))
    have h2 := h a List.mem_cons_self
    rw [wrd, List.length_append, List.length_replicate, List.length_cons]
    omega
theorem wrd_mem : ∀ (x : List Nat) (s l : Nat), l ∈ wrd s x → s + 1 ≤ l ∧ l ≤ s + x.length
  | [], s, l, h => by simp [wrd] at h
  | a :: x, s, l, h => by
    rw [wrd, List.mem_append] at h
    rcases h with h | h
    · have := (List.mem_replicate.1 h).2
      rw [List.length_cons]; omega
    · have := wrd_mem x (s + 1) l h
      rw [List.length_cons]; omega
theorem fold_rep {α : Type} (f : α → Nat → α) (l : Nat) : ∀ (a : Nat) (u : α), List.foldl f u (List.replicate a l) = it (fun z => f z l) a u
  | 0, u => rfl
  | a + 1, u => by rw [List.replicate_succ, List.foldl_cons, fold_rep f l a, it]
/-- the word's product is the product of the powers -/
theorem fold_wrd {α : Type} (m : α → α → α) (im : List α) (d : α) : ∀ (x : List Nat) (s : Nat) (u : α), s + x.length = im.length → List.foldl (fun u l => m u (im.getD (l - 1) d)) u (wrd s x) = prodL m u (im.drop s) x
  | [], s, u, h => by
    rw [wrd, List.foldl_nil]
    cases im.drop s <;> rfl
  | a :: x, s, u, h => by
    rw [List.length_cons] at h
    have hs : s < im.length := by omega
    rw [wrd, List.foldl_append, fold_rep, List.drop_eq_getElem_cons hs, prodL, fold_wrd m im d x (s + 1) _ (by omega)]
    congr 1
    rw [Nat.add_sub_cancel, List.getD_eq_getElem?_getD, List.getElem?_eq_getElem hs]
    rfl

set_option maxRecDepth 100000 in
set_option maxHeartbeats 1000000 in
theorem word_any (w : World) (v : Value) (x : List Nat) (hv : SlI Any w v (ints x)) (hl : x.length ≤ 6) (hx : ∀ a ∈ x, a ≤ 6) :
    Calls Tryz.prog 111 #[v] w (NewI (ints (wrd 0 x)) w) := by
  obtain ⟨i0, hi, hz0, hz1, hz2⟩ := info_parts infoI
  obtain ⟨aX, cX, rfl, _⟩ := hv.open
  have HV := Lib.hid hv
  have HX := Lib.hid hx
  have hl63 : (x.length : Int) ≤ 9223372036854775807 := by omega
  clear hv hx
  go_enter Tryz.func111, Tryz.ntmps111
  go_wp2_with fail
  go_loopw [3, 8] (fun ov iv wr => ∃ i : Nat, i ≤ x.length ∧ iv = .int .i64 (i : Int) ∧ Hid (Own w.heap.size wr ov (ints (wrd 0 (x.take i)))) ∧ Hid (Below w.heap.size w wr)) (fun _ iv _ => x.length - (intOf iv).toNat)
  case atStart => exact ⟨0, Nat.zero_le _, rfl, Lib.hid (show Own _ _ _ (ints (wrd 0 (x.take 0))) from ⟨rfl, .inl ⟨rfl, rfl⟩⟩), Lib.hid (Below.refl _ _)⟩
  case round =>
    obtain ⟨i, hi', rfl, hO, hB⟩ := hrel
    rename World => wo
    by_cases hlt : i < x.length
    · obtain ⟨a, ha⟩ : ∃ a, x[i]? = some a := ⟨_, List.getElem?_eq_getElem hlt⟩
      obtain ⟨b, o, rfl, _, hb, hc⟩ := HV.out.at ha
      have hcr := ((Keep.of_below (S := Any) hB.out).cell (b := b) (o := o + i) trivial hb).trans hc
      have ha6 : a ≤ 6 := HX.out a (List.mem_of_getElem? ha)
      have HTK := Lib.hid (show wrd 0 (x.take (i + 1)) = wrd 0 (x.take i) ++ List.replicate a (i + 1) from by
        rw [take_succ ha, wrd_snoc, take_len (Nat.le_of_lt hlt), Nat.zero_add])
      have HLN := Lib.hid (show (wrd 0 (x.take i)).length ≤ 36 from by
        have := wrd_length (x.take i) 0 (fun y hy => HX.out y (List.mem_of_mem_take hy))
        rw [List.length_take] at this
        omega)
      have hi5 : i ≤ 5 := by omega
      clear ha hc
      go_wp2_with fail
      go_loopw [3, 14] (fun ov qv wi => ∃ q : Nat, q ≤ a ∧ qv = .int .i64 (q : Int) ∧ Hid (Own w.heap.size wi ov (ints (wrd 0 (x.take i) ++ List.replicate q (i + 1)))) ∧ Hid (Below w.heap.size w wi)) (fun _ qv _ => a - (intOf qv).toNat)
      case atStart => exact ⟨0, Nat.zero_le _, rfl, by rw [List.replicate_zero, List.append_nil]; exact hO, hB⟩
      case round =>
        obtain ⟨q, hq, rfl, hOi, hBi⟩ := hrel
        by_cases hqa : q < a
        · obtain ⟨m, hm⟩ : ∃ m, (wrd 0 (x.take i) ++ List.replicate q (i + 1)).length = m := ⟨_, rfl⟩
          have h1 : wr.ownsRow w.heap.size 2 1 u3 m (vals (ints (wrd 0 (x.take i) ++ List.replicate q (i + 1)))) := by
            have h := hOi.out
            unfold Own at h
            rwa [ints_length, hm] at h
          have HMM := Lib.hid hm
          have HM := Lib.hid (show m ≤ 42 from by
            have := HLN.out
            rw [← hm, List.length_append, List.length_replicate]; omega)
          have HOW := Lib.hid h1
          clear hm
          go_wp2_with (at_builtin; (refine wpList_append_own _ rfl _ _ 22 rfl w.heap.size 2 i0 (.int .i64 0) 1 8 Tryz.underlying22 hi hz0 hz1 hz2 rfl (by decide) _ _ _ rfl (h1.alloc _) ⟨wr.heap.size, 0, none⟩ 1 1 [.int .i64 ((i : Int) + 1)] rfl rfl ?c1 ?c2 ?c3 ?c4 ?c5 ?_))
          case c1 =>
            intro j u hj
            match j, hj with
            | 0, hj => simp at hj; subst hj; simp [Addr.add]
          case c2 => intro u hu; simp at hu; subst hu; rfl
          case c3 => have := HM.out; unfold maxLen; omega
          case c4 => have := HM.out; omega
          case c5 => have := hBi.out.size; simp; omega
          · intro v' w2 hown hgrow _
            have HN := Lib.hid (show Own w.heap.size w2 v' (ints (wrd 0 (x.take i) ++ List.replicate (q + 1) (i + 1))) from by
              unfold Own
              rw [List.replicate_succ', ← List.append_assoc, FindC.ints_append, List.length_append, ints_length, HMM.out]
              have h := hown
              rw [show vals (ints (wrd 0 (x.take i) ++ List.replicate q (i + 1))) ++ [.int .i64 ((i : Int) + 1)] = vals (ints (wrd 0 (x.take i) ++ List.replicate q (i + 1)) ++ ints [i + 1]) by simp [vals, ints]] at h
              exact h)
            have HB2 := Lib.hid (show Below w.heap.size w w2 from (hBi.out.alloc (by have := hBi.out.size; omega) _).grown hgrow (by simp; have := hBi.out.size; omega) (fun g hg => (World.ownsRow.lt HOW.out g hg).1))
            clear hown hgrow h1
            go_wp2_with fail
            go_roundw
            case rel => exact ⟨q + 1, by omega, by go_num, HN, HB2⟩
            case measure => simp [intOf]; omega
        · obtain rfl : q = a := by omega
          have HN := Lib.hid (show Own w.heap.size wr u3 (ints (wrd 0 (x.take (i + 1)))) from by rw [HTK.out]; exact hOi.out)
          clear hOi
          go_wp2_with fail
          go_roundw
          case rel => exact ⟨i + 1, by omega, by go_num, HN, hBi⟩
          case measure => simp [intOf]; omega
    · obtain rfl : i = x.length := by omega
      have HR := Lib.hid (show NewI (ints (wrd 0 x)) w (.returned _) wo from ⟨_, rfl, by have h := hO.out; rwa [List.take_length] at h, hB.out⟩)
      clear hO
      go_wp2_with fail
      go_ret
      exact HR.out
theorem abs_any (l : Nat) (hl : (l : Int) ≤ 9223372036854775806) (w : World) : Calls Tryz.prog 151 #[.int .i64 (l : Int)] w fun e w' => e = .returned (.int .i64 (l : Int)) ∧ w = w' := by
  have h1 : max (l : Int) (-(l : Int)) = (l : Int) := by omega
  go_enter Tryz.func151, Tryz.ntmps151
  go_wp2_with fail
  go_ret
  exact ⟨ret_i (by first | exact h1 | omega | (simp; omega)), rfl⟩

set_option maxRecDepth 100000 in
set_option maxHeartbeats 1000000 in
theorem evaluate_any (T : Tw) (hT : Wf T) (hs : Small T) (hg : Tow.Good T) (w : World) (b o : Nat) (hP : PtrP Any w b o (ofTw T)) (vw vi : Value) (ws : List Nat) (im : List (List Nat)) (hw : SlI Any w vw (ints ws)) (hi : Sl2 Any w vi (im.map ints)) (hme : ∀ c ∈ im, El T c)
    (hws : ∀ l ∈ ws, 1 ≤ l ∧ l ≤ im.length) (hl : ws.length ≤ 1000) (hil : im.length ≤ 1000) :
    Calls Tryz.prog 110 #[.pointer (some ⟨b, o, none⟩), vw, vi] w (NewS (ints (List.foldl (fun u l => mul T u (im.getD (l - 1) (Tow.one T))) (Tow.one T) ws)) w) := by
  have hs6 := hs.1
  have hmk := mk22 T.length hs6
  obtain ⟨_, hbl, vO, vP, vC, hp0, hp1, hp2, hV⟩ := id hP
  obtain ⟨aO, cO, aP, cP, aC, cC, rfl, rfl, rfl, hO1, hP1, hC1⟩ := hV.open
  obtain ⟨aW, cW, rfl, _⟩ := hw.open
  obtain ⟨aI, cI, rfl, _, _⟩ := SlG.form hi
  rw [List.length_map] at hi ⊢
  have HPT := Lib.hid (ImplY.PtrP.strong hP)
  have HW := Lib.hid hw
  have HI := Lib.hid (Sl2.mono (Sl2.bnd hi) (S' := fun k => k < w.heap.size) (fun k hk => hk.2))
  have HME := Lib.hid hme
  have HWS := Lib.hid hws
  have HTV := Lib.hid (ImplD.tv_any T hT hs 0 (Nat.zero_le _) hg)
  have HTT := Lib.hid hT
  have hl63 : (ws.length : Int) ≤ 9223372036854775807 := by omega
  have HO := Lib.hid (Own.made (B := w.heap.size) w T.length (Nat.le_refl _) (by unfold maxLen; omega))
  obtain ⟨V, hVV⟩ : ∃ V : Nat → List Nat, V = fun m => List.foldl (fun u l => mul T u (im.getD (l - 1) (Tow.one T))) (Tow.one T) (ws.take m) := ⟨_, rfl⟩
  have HGD := Lib.hid (show ∀ j, El T (im.getD j (Tow.one T)) from fun j => by
    rw [List.getD_eq_getElem?_getD]
    cases hj : im[j]? with
    | none => exact El_one hT
    | some c => exact hme c (List.mem_of_getElem? hj))
  have HVE := Lib.hid (show ∀ m, El T (V m) from fun m => by
    rw [hVV]
    have : ∀ (l : List Nat) (u : List Nat), El T u → El T (List.foldl (fun u l => mul T u (im.getD (l - 1) (Tow.one T))) u l) := by
      intro l
      induction l with
      | nil => intro u hu; exact hu
      | cons a l ih => intro u hu; rw [List.foldl_cons]; exact ih _ (El_mul hT hu (HGD.out _))
    exact this _ _ (El_one hT))
  have HV0 := Lib.hid (show List.replicate T.length (0 : Int) = ints (V 0) by rw [hVV]; simp [Tow.one, ints])
  have HVS := Lib.hid (show ∀ m l, ws[m]? = some l → V (m + 1) = mul T (V m) (im.getD (l - 1) (Tow.one T)) from fun m l h => by
    rw [hVV]
    show List.foldl _ _ (ws.take (m + 1)) = _
    rw [take_succ h, List.foldl_append]; rfl)
  have HVZ := Lib.hid (show V ws.length = List.foldl (fun u l => mul T u (im.getD (l - 1) (Tow.one T))) (Tow.one T) ws by rw [hVV]; simp)
  clear hP hw hi hme hws hV hVV hT hs hg
  go_enter Tryz.func110, Tryz.ntmps110
  go_wp2_with fail
  go_loopw [19] (fun iv wr => ∃ m : Nat, m ≤ ws.length ∧ iv = .int .i64 (m : Int) ∧ Hid (Own w.heap.size wr (.slice (some ⟨w.heap.size, 0, none⟩) T.length T.length) (ints (V m))) ∧ Hid (Below w.heap.size w wr)) (fun iv _ => ws.length - (intOf iv).toNat)
  case atStart => exact ⟨0, Nat.zero_le _, rfl, Lib.hid (by rw [← HV0.out]; exact HO.out), Lib.hid ((Below.refl _ _).alloc (Nat.le_refl _) _)⟩
  case round =>
    obtain ⟨m, hm, rfl, hO, hB⟩ := hrel
    have hk := Keep.lt hB.out
    by_cases hlt : m < ws.length
    · obtain ⟨l, hl'⟩ : ∃ l, ws[m]? = some l := ⟨_, List.getElem?_eq_getElem hlt⟩
      obtain ⟨bW, oW, rfl, _, hbW, hcW⟩ := HW.out.at hl'
      have hcr := (hk.cell (b := bW) (o := oW + m) hbW hbW).trans hcW
      obtain ⟨hl1, hl2⟩ := HWS.out l (List.mem_of_getElem? hl')
      obtain ⟨j, hj⟩ : ∃ j, j = l - 1 := ⟨_, rfl⟩
      obtain ⟨c, hc⟩ : ∃ c, im[j]? = some c := ⟨_, List.getElem?_eq_getElem (by omega)⟩
      obtain ⟨bI, oI, u, e1, hbS, hbI, hcI, hcu⟩ := SlG.get HI.out (k := j) (x := ints c) (by rw [List.getElem?_map, hc]; rfl)
      subst e1
      have hcIr := (hk.cell (b := bI) (o := oI + j) hbS hbI).trans hcI
      have HU := Lib.hid (SlI.keep hcu hk)
      have HPK := Lib.hid (HPT.out.keep hk)
      have HVN := Lib.hid (show V (m + 1) = mul T (V m) c from by
        rw [HVS.out m l hl', ← hj, List.getD_eq_getElem?_getD, hc]; rfl)
      have HCE := Lib.hid (HME.out c (List.mem_of_getElem? hc))
      have hlj : l = j + 1 := by omega
      subst hlj
      have w1 : IntKind.i64.wrap (((j + 1 : Nat) : Int) - 1) = (j : Int) := by rw [IntWalk.i64_in _ (by omega)]; omega
      have w2 : wrap64 (((j + 1 : Nat) : Int) - 1) = (j : Int) := by unfold wrap64; omega
      have w3 : (j : Int) < (im.length : Int) := by omega
      have w4 : (0 : Int) ≤ (j : Int) := by omega
      have hneg : decide (((j + 1 : Nat) : Int) < 0) = false := by simp; omega
      have HAB := Lib.hid (fun W => abs_any (j + 1) (by omega) W)
      clear hl' hcW hc hcI hcu hj hk hl1 hl2
      go_wp2_with fail
      refine (HAB.out _).mono ?_
      rintro e w' ⟨rfl, rfl⟩
      have HCT := Lib.hid (HTV.out (fun k => k < w.heap.size) wr b o w.heap.size w.heap.size T.length u [] (V m) c HPK.out HU.out (by omega) rfl (HVE.out m) HCE.out hO.out)
      go_wp2_with fail
      refine HCT.out.mono ?_
      rintro e w2 ⟨rfl, ho2, hg2⟩
      have HN := Lib.hid (show Own w.heap.size w2 (.slice (some ⟨w.heap.size, 0, none⟩) T.length T.length) (ints (V (m + 1))) from by
        have h := ho2
        rw [show ([] ++ mul (T.drop 0) (V m) c) = V (m + 1) from HVN.out.symm, El_length (HVE.out (m + 1))] at h
        exact h)
      have HNB := Lib.hid (hB.out.grown hg2 hB.out.size (fun g hg => by cases hg; exact Nat.le_refl _))
      clear ho2 hg2 hO hcr hcIr
      go_wp2_with fail
      go_roundw
      case rel => exact ⟨m + 1, by omega, by go_num, HN, HNB⟩
      case measure => simp [intOf]; omega
    · obtain rfl : m = ws.length := by omega
      have HR := Lib.hid (show NewS (ints (List.foldl (fun u l => mul T u (im.getD (l - 1) (Tow.one T))) (Tow.one T) ws)) w (.returned (.slice (some ⟨w.heap.size, 0, none⟩) T.length T.length)) wr from by
        have hl := El_length (HVE.out ws.length)
        rw [← HVZ.out]
        unfold NewS
        rw [ints_length, hl]
        exact ⟨_, _, rfl, hO.out, hB.out⟩)
      clear hO hk
      go_wp2_with fail
      go_ret
      exact HR.out
set_option maxHeartbeats 400000 in
theorem apply_any (T : Tw) (hT : Wf T) (hs : Small T) (hg : Tow.Good T) (w : World) (b o : Nat) (hP : PtrP Any w b o (ofTw T)) (vi vx : Value) (im : List (List Nat)) (x : List Nat) (hi : Sl2 Any w vi (im.map ints)) (hx : SlI Any w vx (ints x)) (hme : ∀ c ∈ im, El T c)
    (hl : x.length = im.length) (hl6 : x.length ≤ 6) (hx6 : ∀ a ∈ x, a ≤ 6) :
    Calls Tryz.prog 77 #[.pointer (some ⟨b, o, none⟩), vi, vx] w (NewS (ints (prodL (mul T) (Tow.one T) im x)) w) := by
  have HW := Lib.hid (word_any w vx x hx hl6 hx6)
  have HE := Lib.hid (fun W (hb : Below w.heap.size w W) vw hw => evaluate_any T hT hs hg W b o (hP.keep (Keep.of_below hb)) vw vi (wrd 0 x) im hw (Sl2.keep hi (Keep.of_below hb)) hme (fun l hl' => by have := wrd_mem x 0 l hl'; omega) (by have := wrd_length x 0 hx6; omega) (by omega))
  have HF := Lib.hid (show List.foldl (fun u l => mul T u (im.getD (l - 1) (Tow.one T))) (Tow.one T) (wrd 0 x) = prodL (mul T) (Tow.one T) im x from by
    rw [fold_wrd (mul T) im (Tow.one T) x 0 _ (by omega)]; rfl)
  clear hP hi hx hme
  go_enter Tryz.func77, Tryz.ntmps77
  go_wp2_with fail
  refine HW.out.mono ?_
  rintro e w1 ⟨v1, rfl, ho1, hb1⟩
  have HC := Lib.hid (HE.out w1 hb1 v1 (ho1.sl.mono (fun _ _ => trivial)))
  have HB1 := Lib.hid hb1
  clear ho1 hb1
  go_wp2_with fail
  refine HC.out.mono ?_
  rintro e w2 ⟨g2, c2, rfl, ho2, hb2⟩
  rw [HF.out] at ho2 ⊢
  have HR := Lib.hid (show NewS (ints (prodL (mul T) (Tow.one T) im x)) w (.returned (.slice (some ⟨g2, 0, none⟩) (ints (prodL (mul T) (Tow.one T) im x)).length c2)) w2 from ⟨_, _, rfl, ho2.mono HB1.out.size, HB1.out.trans (hb2.mono HB1.out.size)⟩)
  clear ho2 hb2
  go_wp2_with fail
  go_ret
  exact HR.out
end Go.Proofs.YtabeedimnbkcgaaGreat.OrbA

/-
  spec.l25Orbit.
-/
namespace Go.Proofs.YtabeedimnbkcgaaGreat.OrbB
open Go.RowKit Go.Proofs.YtabeedimnbkcgaaGreat Go.Proofs.YtabeedimnbkcgaaGreat.Tow Go.Proofs.YtabeedimnbkcgaaGreat.NumT Go.Proofs.YtabeedimnbkcgaaGreat.SpecB Go.Proofs.YtabeedimnbkcgaaGreat.SpecR Go.Proofs.YtabeedimnbkcgaaGreat.LawF
set_option linter.unusedVariables false
set_option linter.unusedSimpArgs false

/-- the image of an element under the k-th map -/
noncomputable def app (T : Tw) (G : List (List Nat)) (x : List Nat) (k : Nat) : List Nat := prodL (mul T) (Tow.one T) ((G.getD k []).map (at_ T)) x
theorem app_El {T : Tw} (hT : Wf T) (G : List (List Nat)) (x : List Nat) (k : Nat) : El T (app T G x k) :=
  prodL_inv (El T) (mul T) (fun _ _ p q => El_mul hT p q) _ (fun c hc => by obtain ⟨i, _, rfl⟩ := List.mem_map.1 hc; exact at_El hT i) _ _ (El_one hT)
/-- its number -/
noncomputable def orF (T : Tw) (G : List (List Nat)) (x : List Nat) (k : Nat) : Nat := num T (app T G x k)
def OrbR (T : Tw) (G : List (List Nat)) (x : List Nat) (w : World) (e : Ending) (w' : World) : Prop := ∃ v, e = .returned v ∧ OwnB w.heap.size w' v (mkl (orF T G x) (sz T) G.length) ∧ Below w.heap.size w w'

set_option maxRecDepth 100000 in
set_option maxHeartbeats 2000000 in
theorem orbit_any (T : Tw) (hT : Wf T) (hs : Small T) (hg : Tow.Good T) (hz : sz T ≤ 729) (B : Nat) (w : World) (vO vP vC vF vx : Value) (G : List (List Nat)) (x : List Nat) (hP : ValP Any w vO vP vC (ofTw T)) (hF : Own3 B w vF (G.map fun l => l.map (at_ T))) (hx : SlI Any w vx (ints x)) (hxE : El T x)
    (hlen : ∀ f ∈ G, f.length = T.length) (hG : G.length ≤ 1000000000) :
    Calls Tryz.prog 67 #[.agg #[vO, vP, vC], vF, vx] w (OrbR T G x w) := by
  have HP := Lib.hid hP
  have HF := Lib.hid hF
  have HX := Lib.hid hx
  have HLN := Lib.hid hlen
  have HOT := Lib.hid (SpecN.ofTw_ords T)
  have HSZ := Lib.hid (fun W hO => SpecN.order_any T (SpecN.Os.of hT hs hz) W vO vP vC hO)
  have hxl := El_length hxE
  have hx7 : ∀ a ∈ x, a ≤ 1000 := fun a ha => by
    obtain ⟨j, hj⟩ := List.getElem?_of_mem ha
    have := hs.lt (s := 0) (x := x) hxE (Nat.zero_le _) hj
    omega
  have HAP := Lib.hid (fun (W : World) (vu : Value) (f : List Nat) (hf : f.length = T.length) hp hu ha => SpecL.apply_any T hT hs hg W vO vP vC vu vx (f.map (at_ T)) x hp hu ha (by rw [List.length_map]; omega) (by rw [List.length_map]; have := hs.1; omega) (fun u hu => by obtain ⟨i, _, rfl⟩ := List.mem_map.1 hu; exact at_El hT i) hx7)
  have HNM := Lib.hid (fun W va y hO hy hE hlt => SpecN.number_any T (SpecN.Os.of hT hs hz) W vO vP vC va y hO hy hE hlt)
  have HAE := Lib.hid (fun k => app_El hT G x k)
  have HNL := Lib.hid (fun k => (num_lt (app_El hT G x k) hT : orF T G x k < sz T))
  obtain ⟨aF, cF, rfl, _, _⟩ := hF.form
  rw [List.length_map] at hF ⊢
  have HF := Lib.hid hF
  have hgl : (G.length : Int) ≤ 9223372036854775806 := by omega
  have hmkb := mkB66 (sz T) hz
  obtain ⟨W0, hW0⟩ : ∃ W0, W0 = w.alloc (.cells #[vO, vP, vC] 30) := ⟨_, rfl⟩
  have HB0 := Lib.hid (show Below (w.heap.size + 1) (w.alloc (.cells #[vO, vP, vC] 30)) W0 by rw [hW0]; exact Below.refl _ _)
  clear hP hF hx hlen hxE hT hs hg hx7
  go_enter Tryz.func67, Tryz.ntmps67
  go_upto_region 1 with fail
  rw [← hW0]
  clear hW0
  obtain ⟨⟨e0, e1, e2⟩, hk, hbw, hs⟩ := bx1 HB0.out
  have HSO := Lib.hid (HSZ.out W0 (by have h := (HP.out.keep hk).os; rwa [HOT.out] at h))
  clear hk hbw
  go_upto_region 2 with (refine HSO.out.mono ?_; rintro e w2 ⟨rfl, hb2⟩)
  have HB2 := Lib.hid (HB0.out.trans (hb2.mono hs))
  obtain ⟨gI, hgI⟩ : ∃ gI, w2.heap.size = gI := ⟨_, rfl⟩
  obtain ⟨w5, hw5⟩ : ∃ w5, w5 = w2.alloc (.cells (madeCells #[.bool false] (sz T)) 4) := ⟨_, rfl⟩
  rw [← hw5]
  have HI5 := Lib.hid (show OwnB gI w5 (.slice (some ⟨gI, 0, none⟩) (sz T) (sz T)) (mkl (orF T G x) (sz T) 0) by
    rw [mkl_zero, hw5, ← hgI]; exact OwnB.made w2 (sz T) (Nat.le_refl _) (by unfold maxLen; omega))
  have HB5 := Lib.hid (show Below (w.heap.size + 1) (w.alloc (.cells #[vO, vP, vC] 30)) w5 by rw [hw5]; exact HB2.out.alloc (by have := (bx1 HB2.out).2.2.2; exact this) _)
  have HS5 := Lib.hid (show w5.heap.size = gI + 1 ∧ w.heap.size + 1 ≤ gI by rw [hw5, ← hgI]; exact ⟨by simp, (bx1 HB2.out).2.2.2⟩)
  simp only [hgI]
  clear hw5 hgI hb2 HB2 e0 e1 e2 hs HSO HB0
  obtain ⟨-, hk5, hbw5, -⟩ := bx1 HB5.out
  have hgIw := HS5.out.2
  have HP5 := Lib.hid (show ValP (fun b => b ≠ gI) w5 vO vP vC (ofTw T) from (((HP.out.bnd).mono (S' := fun b => b < w.heap.size) (fun b hb => hb.2)).keep (hk5.mono (fun _ _ => trivial))).mono (fun b hb => by omega))
  have HX5 := Lib.hid (show SlI (fun b => b ≠ gI) w5 vx (ints x) from (((HX.out.bnd).mono (S' := fun b => b < w.heap.size) (fun b hb => hb.2)).keep (hk5.mono (fun _ _ => trivial))).mono (fun b hb => by omega))
  have HBW5 := Lib.hid hbw5
  clear hk5 hbw5
  go_wp2_with fail
  go_loopw [8] (fun iv wr => ∃ k : Nat, k ≤ G.length ∧ iv = .int .i64 (k : Int) ∧ Hid (OwnB gI wr (.slice (some ⟨gI, 0, none⟩) (sz T) (sz T)) (mkl (orF T G x) (sz T) k)) ∧ Hid (Keep (fun k => k ≠ gI) w5 wr) ∧ Hid (Below (w.heap.size + 1) (w.alloc (.cells #[vO, vP, vC] 30)) wr)) (fun iv _ => G.length - (intOf iv).toNat)
  case atStart => exact ⟨0, Nat.zero_le _, rfl, HI5, Lib.hid (Keep.refl _ _), HB5⟩
  case round =>
    obtain ⟨k, hk, rfl, hIr, hKr, hB⟩ := hrel
    by_cases hlt : k < G.length
    · obtain ⟨f, hf⟩ : ∃ f, G[k]? = some f := ⟨_, List.getElem?_eq_getElem hlt⟩
      obtain ⟨gF, cap, uf, e1, _, hgl', hcf, hof⟩ := FindC.Own3.at HF.out (i := k) (r := f.map (at_ T)) (by rw [List.getElem?_map, hf]; rfl)
      simp only [Value.slice.injEq] at e1
      obtain ⟨rfl, -, rfl⟩ := e1
      obtain ⟨⟨e0, e1, e2⟩, hkw, hbw, hsw⟩ := bx1 hB.out
      have hki : decide ((k : Int) < (G.length : Int)) = true := by simp; omega
      have hcr : wr.cell? ⟨gF, k, none⟩ = some uf := (hkw.cell (b := gF) (o := k) trivial hgl').trans hcf
      have hsr := hKr.out.size
      have hwr : w.heap.size < wr.heap.size := by omega
      have hFr : gF < wr.heap.size := by omega
      have hIrr : gI < wr.heap.size := by have := HS5.out.1; omega
      have hn1 : ¬ w.heap.size = gI := by omega
      have hn2 : ¬ gF = gI := by omega
      have HUF := Lib.hid (show Sl2 (fun b => b ≠ gI) wr uf ((f.map (at_ T)).map ints) from Sl2.mono (Sl2.keep (Sl2.mono (Sl2.bnd hof.sl) (S' := fun b => b < w.heap.size) (fun b hb => hb.2)) (hkw.mono (fun _ _ => trivial))) (fun b hb => by omega))
      have HPr := Lib.hid (HP5.out.keep hKr.out)
      have HXr := Lib.hid (SlI.keep HX5.out hKr.out)
      have HFL := Lib.hid (HLN.out f (List.mem_of_getElem? hf))
      have HAPk := Lib.hid (show app T G x k = prodL (mul T) (Tow.one T) (f.map (at_ T)) x from by unfold app; rw [List.getD_eq_getElem?_getD, hf]; rfl)
      obtain ⟨q, hq⟩ : ∃ q, q = orF T G x k := ⟨_, rfl⟩
      have hqz : q < sz T := by rw [hq]; exact HNL.out k
      have HNQ := Lib.hid (fun W va (hO : SlI Any W vO (ints (SpecN.ords T))) (hy : SlI Any W va (ints (prodL (mul T) (Tow.one T) (f.map (at_ T)) x))) => (show Calls Tryz.prog 97 #[.agg #[vO, vP, vC], va] W (SpecN.IntR q W) from by
        rw [hq]
        rw [← HAPk.out] at hy
        exact HNM.out W va _ hO hy (HAE.out k) (HNL.out k)))
      have HOSr := Lib.hid (fun W (h : Keep (fun k => k ≠ gI) wr W) => show SlI Any W vO (ints (SpecN.ords T)) from by
        have h2 := ((HPr.out.keep h).mono (S' := Any) (fun _ _ => trivial)).os
        rwa [HOT.out] at h2)
      have hq1 : (q : Int) < (sz T : Int) := by omega
      have hq0 : (0 : Int) ≤ (q : Int) := by omega
      have HIS := Lib.hid (show mkl (orF T G x) (sz T) (k + 1) = (mkl (orF T G x) (sz T) k).set q true by rw [hq]; exact mkl_succ _ _ _)
      have hk0 : (0 : Int) ≤ (k : Int) := by omega
      have hk1 : (k : Int) < (G.length : Int) := by omega
      have HKW := Lib.hid hsw
      clear hq hf hcf hof hkw hbw hsw
      go_upto_region 5 with fail
      go_region_held3 (fun w' => (∀ b o, b < wr.heap.size → ¬ b = gI → w'.cell? ⟨b, o, none⟩ = wr.cell? ⟨b, o, none⟩) ∧ Keep (fun k => k ≠ gI) wr w')
        (first | exact kI_mk (by repeat (first | exact (Keep.refl _ _).drew | exact Keep.refl _ _ | refine Keep.setCell ?_ (by simp) _ | refine Keep.trans ?_ (Keep.of_below (by assumption)))))
        (first | (go_at_call 74; refine (HAP.out _ uf f HFL.out ((HPr.out.keep (by repeat (first | exact (Keep.refl _ _).drew | exact Keep.refl _ _ | exact (Keep.refl _ _).alloc _ | exact ((Keep.refl _ _).alloc _).drew | refine Keep.drewN ?_ _ | refine Keep.trans ?_ (Keep.of_below (by assumption))))).mono (fun _ _ => trivial)) (Sl2.mono (Sl2.keep HUF.out (by repeat (first | exact (Keep.refl _ _).drew | exact Keep.refl _ _ | exact (Keep.refl _ _).alloc _ | exact ((Keep.refl _ _).alloc _).drew | refine Keep.drewN ?_ _ | refine Keep.trans ?_ (Keep.of_below (by assumption))))) (fun _ _ => trivial)) (SlI.mono (SlI.keep HXr.out (by repeat (first | exact (Keep.refl _ _).drew | exact Keep.refl _ _ | exact (Keep.refl _ _).alloc _ | exact ((Keep.refl _ _).alloc _).drew | refine Keep.drewN ?_ _ | refine Keep.trans ?_ (Keep.of_below (by assumption))))) (fun _ _ => trivial))).mono ?_; rintro e w7 ⟨v7, rfl, ho7, hb7⟩) | (go_at_call 97; refine (HNQ.out _ v7 (HOSr.out _ (by repeat (first | exact (Keep.refl _ _).drew | exact Keep.refl _ _ | exact (Keep.refl _ _).alloc _ | exact ((Keep.refl _ _).alloc _).drew | refine Keep.drewN ?_ _ | refine Keep.trans ?_ (Keep.of_below (by assumption))))) ((ho7.sl.mono (fun _ _ => trivial)).keep (by repeat (first | exact (Keep.refl _ _).drew | exact Keep.refl _ _ | exact (Keep.refl _ _).alloc _ | exact ((Keep.refl _ _).alloc _).drew | refine Keep.drewN ?_ _ | refine Keep.trans ?_ (Keep.of_below (by assumption)))))).mono ?_; rintro e w8 ⟨rfl, hb8⟩; have hI8 := hIr.out.keep (S := Any) (show Keep Any wr w8 from (by repeat (first | exact (Keep.refl _ _).drew | exact Keep.refl _ _ | exact (Keep.refl _ _).alloc _ | exact ((Keep.refl _ _).alloc _).drew | refine Keep.drewN ?_ _ | refine Keep.trans ?_ (Keep.of_below (by assumption))))) (fun _ _ => trivial); obtain ⟨s8, f8⟩ := hI8.cell (mkl_get hqz); have hs8 : wr.heap.size ≤ w8.heap.size := (show Keep Any wr w8 from (by repeat (first | exact (Keep.refl _ _).drew | exact Keep.refl _ _ | exact (Keep.refl _ _).alloc _ | exact ((Keep.refl _ _).alloc _).drew | refine Keep.drewN ?_ _ | refine Keep.trans ?_ (Keep.of_below (by assumption))))).size))
      have HNI := Lib.hid (show OwnB gI (w8.setCell ⟨gI, q, none⟩ (.bool true)) (.slice (some ⟨gI, 0, none⟩) (sz T) (sz T)) (mkl (orF T G x) (sz T) (k + 1)) by rw [HIS.out]; exact hI8.set q true)
      have HNK := Lib.hid (show Keep (fun k => k ≠ gI) w5 (w8.setCell ⟨gI, q, none⟩ (.bool true)) from (hKr.out.trans (show Keep (fun k => k ≠ gI) wr w8 from (by repeat (first | exact (Keep.refl _ _).drew | exact Keep.refl _ _ | exact (Keep.refl _ _).alloc _ | exact ((Keep.refl _ _).alloc _).drew | refine Keep.drewN ?_ _ | refine Keep.trans ?_ (Keep.of_below (by assumption)))))).setCell (by simp) _)
      have hb7' : Below wr.heap.size wr w7 := ((Below.refl _ _).drew).trans hb7
      have hb8' : Below wr.heap.size wr w8 := hb7'.trans (hb8.mono hb7'.size)
      have HNB := Lib.hid (show Below (w.heap.size + 1) (w.alloc (.cells #[vO, vP, vC] 30)) (w8.setCell ⟨gI, q, none⟩ (.bool true)) from (hB.out.trans (hb8'.mono HKW.out)).setCell (p := ⟨gI, q, none⟩) hgIw _)
      clear ho7 hb7 hb8 hI8 s8 f8 hs8 e0 e1 e2 hcr hb7' hb8'
      go_wp2_with fail
      go_roundw
      case rel => exact ⟨k + 1, by omega, by go_num, HNI, HNK, HNB⟩
      case measure => simp [intOf] <;> omega
    · obtain rfl : k = G.length := by omega
      have hki : decide ((G.length : Int) < (G.length : Int)) = false := by simp
      have HR := Lib.hid (show OrbR T G x w (.returned (.slice (some ⟨gI, 0, none⟩) (sz T) (sz T))) wr from ⟨_, rfl, ownsRow_mono hIr.out (by omega), (bx1 hB.out).2.2.1⟩)
      clear hIr hKr
      go_wp2_with fail
      go_ret
      exact HR.out
end Go.Proofs.YtabeedimnbkcgaaGreat.OrbB

/-
  spec.ElementOrbit.
-/
namespace Go.Proofs.YtabeedimnbkcgaaGreat.OrbC
open Go.RowKit Go.Proofs.YtabeedimnbkcgaaGreat Go.Proofs.YtabeedimnbkcgaaGreat.Tow Go.Proofs.YtabeedimnbkcgaaGreat.Val Go.Proofs.YtabeedimnbkcgaaGreat.NumT Go.Proofs.YtabeedimnbkcgaaGreat.SpecB Go.Proofs.YtabeedimnbkcgaaGreat.SpecR Go.Proofs.YtabeedimnbkcgaaGreat.LawF Go.Proofs.YtabeedimnbkcgaaGreat.Elt Go.Proofs.YtabeedimnbkcgaaGreat.OrbB
set_option linter.unusedVariables false
set_option linter.unusedSimpArgs false

theorem el_of {T : Tw} {l : List Int} (h : TailV (ofTw T).os 0 l) : ∃ x, l = ints x ∧ El T x := by
  have hx : ∀ (j : Nat) (x o : Int), l[j]? = some x → (ofTw T).os[j]? = some o → 0 ≤ x ∧ x < o := fun j x o h1 h2 => ⟨(h.2 j x o h1 h2).1, (h.2 j x o h1 h2).2.1⟩
  refine ⟨nats l, (ints_nats (fun y hy => ?_)).symm, El_nats rfl h.1 hx⟩
  obtain ⟨j, hj⟩ := List.getElem?_of_mem hy
  have hjl := (List.getElem?_eq_some_iff.1 hj).1
  obtain ⟨o, ho⟩ : ∃ o, (ofTw T).os[j]? = some o := ⟨_, List.getElem?_eq_getElem (by rw [← h.1]; exact hjl)⟩
  exact (hx j y o hj ho).1
open Classical in
/-- an element lies in the orbit -/
noncomputable def orb (T : Tw) (x : List Nat) (t : Nat) : Bool := decide (∃ f ∈ Grow.grow T T T.length [], num T (prodL (mul T) (Tow.one T) (f.map (at_ T)) x) = t)
open Classical in
theorem orb_mks (T : Tw) (x : List Nat) (t : Nat) : mks (orF T (Grow.grow T T T.length []) x) (Grow.grow T T T.length []).length t = orb T x t := by
  rw [Bool.eq_iff_iff, mks_iff]
  unfold orb
  rw [decide_eq_true_iff]
  constructor
  · rintro ⟨j, hj, e⟩
    refine ⟨_, List.getElem_mem hj, ?_⟩
    rw [← e]
    unfold orF app
    rw [List.getD_eq_getElem?_getD, List.getElem?_eq_getElem hj]
    rfl
  · rintro ⟨f, hf, e⟩
    obtain ⟨j, hj, rfl⟩ := List.getElem_of_mem hf
    refine ⟨j, hj, ?_⟩
    rw [← e]
    unfold orF app
    rw [List.getD_eq_getElem?_getD, List.getElem?_eq_getElem hj]
    rfl
/-- the orbit of an element, with the code -/
def OrbV (P : Pres) (l : List Int) (res : List (List Int)) (k : Int) : Prop :=
  (res = [] ∧ k = 1 ∧ ¬ ElV P l) ∨ ∃ T x, P = ofTw T ∧ l = ints x ∧ Grps.Grp P ∧ El T x ∧ ((res = [] ∧ k = 3 ∧ 27 < sz T) ∨ (k = 0 ∧ sz T ≤ 27 ∧ res = (nums (orb T x) (sz T)).map fun t => ints (at_ T t)))
def SOrbR (P : Pres) (l : List Int) (w : World) (e : Ending) (w' : World) : Prop := ∃ v k res, e = .returned (.tuple #[v, .int .i64 k]) ∧ OrbV P l res k ∧ Sl2 (fun b => w.heap.size ≤ b) w' v res ∧ Below w.heap.size w w'

set_option maxRecDepth 100000 in
set_option maxHeartbeats 4000000 in
theorem spec_orbit (w : World) (pO pP pC vx : Value) (P : Pres) (l : List Int) (hP : ValP Any w pO pP pC P) (hx : SlI Any w vx l) :
    Calls Tryz.prog 41 #[.agg #[pO, pP, pC], vx] w (SOrbR P l w) := by
  obtain ⟨i0, hi, hz0, hz1, hz2⟩ := info_parts infoR
  have HP := Lib.hid hP
  have HX := Lib.hid hx
  obtain ⟨W0, hW0⟩ : ∃ W0, W0 = w.alloc (.cells #[pO, pP, pC] 30) := ⟨_, rfl⟩
  have HB0 := Lib.hid (show Below (w.heap.size + 1) (w.alloc (.cells #[pO, pP, pC] 30)) W0 by rw [hW0]; exact Below.refl _ _)
  clear hP hx
  go_enter Tryz.func41, Tryz.ntmps41
  go_upto_region 1 with fail
  rw [← hW0]
  clear hW0
  obtain ⟨⟨e0, e1, e2⟩, hk, hbw, hs⟩ := bx1 HB0.out
  go_wp2_with fail
  refine (isElement_any _ pO pP pC vx P l (HP.out.keep hk) (HX.out.keep hk)).mono ?_
  rintro e w1 ⟨r, rfl, hr, hb1⟩
  have HB1 := Lib.hid (HB0.out.trans (hb1.mono hs))
  clear e0 e1 e2 hk hbw hs hb1
  obtain ⟨⟨e0, e1, e2⟩, hk, hbw, hs⟩ := bx1 HB1.out
  have HBW1 := Lib.hid hbw
  by_cases hE : ElV P l
  · obtain rfl : r = true := hr.2 hE
    obtain ⟨hG, hTl⟩ := hE
    obtain ⟨T, hTE⟩ : ∃ T, P = ofTw T := by obtain ⟨T, _, _, h, _⟩ := hG; exact ⟨T, h⟩
    subst hTE
    obtain ⟨x, hlx, hxE⟩ := el_of hTl
    subst hlx
    have HG := Lib.hid hG
    have HXE := Lib.hid hxE
    have HSZ := Lib.hid (SpecN.order_any T (IsoA.grp_sz hG).1 w1 pO pP pC (by have h := (HP.out.keep hk).os; rwa [SpecN.ofTw_ords] at h))
    clear hr hG hTl hxE hk hbw
    go_wp2_with fail
    refine HSZ.out.mono ?_
    rintro e w2 ⟨rfl, hb2⟩
    have HB2 := Lib.hid (HB1.out.trans (hb2.mono hs))
    clear hb2 hs e0 e1 e2
    obtain ⟨⟨e0, e1, e2⟩, hk, hbw, hs⟩ := bx1 HB2.out
    have HBW2 := Lib.hid hbw
    by_cases h27 : 27 < sz T
    · have hd : decide ((sz T : Int) > 27) = true := by simp; omega
      have HR := Lib.hid (show SOrbR (ofTw T) (ints x) w (.returned (.tuple #[.slice none 0 0, .int .i64 3])) w2 from ⟨_, 3, [], rfl, .inr ⟨T, x, rfl, rfl, HG.out, HXE.out, .inl ⟨rfl, rfl, h27⟩⟩, FindC.Sl2_nil _ _, HBW2.out⟩)
      clear hk hbw
      go_wp2_with fail
      exact bodyPost_ret (v := .tuple #[.slice none 0 0, .int .i64 3]) (by simp [results, Tryz.results41, go_sem]) rfl HR.out
    · have hd : decide ((sz T : Int) > 27) = false := by simp; omega
      have hz : sz T ≤ 27 := by omega
      obtain ⟨hT, hsT, hgT, hpT⟩ := SpecX.grp_parts HG.out
      have HEM := Lib.hid (fun W h => SpecX.embed_any T T hT hsT hT hsT hgT hpT hz (fun h => h) W pO pP pC pO pP pC h h)
      have HOB := Lib.hid (fun B W vF G h1 h2 h3 h4 h5 => orbit_any T hT hsT hgT (by omega) B W pO pP pC vF vx G x h1 h2 h3 HXE.out h4 h5)
      have HAT := Lib.hid (fun W q (hq : q ≤ 1000000) hO => SpecN.at_any T (SpecN.Os.of hT hsT (by omega)) (fun L h => by have := hsT.2 L h; omega) q hq W pO pP pC hO)
      have HP2 := Lib.hid (HP.out.keep hk)
      have HX2 := Lib.hid (HX.out.keep hk)
      have hl0 : w.heap.size < w2.heap.size := by omega
      have HME := Lib.hid (FindC.maps_eq HG.out HG.out)
      have HGL := Lib.hid (show (∀ f ∈ Grow.grow T T T.length [], f.length = T.length) ∧ (Grow.grow T T T.length []).length ≤ 1000000000 from ⟨fun f hf => by simpa using ImplY.grow_rows _ _ _ hf, by
        have h1 := Grow.grow_length T T hz T.length []
        have h6 : 27 ^ T.length ≤ 27 ^ 6 := Nat.pow_le_pow_right (by omega) hsT.1
        omega⟩)
      clear h27 hk hbw hT hsT hgT hpT
      go_wp2_with fail
      go_region_held3 (fun w' => (∀ b o, b < w2.heap.size → w'.cell? ⟨b, o, none⟩ = w2.cell? ⟨b, o, none⟩) ∧ Keep (fun _ => True) w2 w')
        (first | exact ks_mk (by repeat (first | exact (Keep.refl _ _).drew | exact Keep.refl _ _ | refine Keep.drewN ?_ _ | refine Keep.trans ?_ (Keep.of_below (by assumption)))))
        (first | (go_at_call 51; refine (HEM.out _ (HP2.out.keep (by repeat (first | exact (Keep.refl _ _).drew | exact Keep.refl _ _ | exact (Keep.refl _ _).alloc _ | exact ((Keep.refl _ _).alloc _).drew | refine Keep.drewN ?_ _ | refine Keep.trans ?_ (Keep.of_below (by assumption)))))).mono ?_; rintro e w3 ⟨v3, rfl, ho3, hb3⟩; rw [HME.out] at ho3) | (go_at_call 67; refine (HOB.out _ _ v3 _ (HP2.out.keep (by repeat (first | exact (Keep.refl _ _).drew | exact Keep.refl _ _ | exact (Keep.refl _ _).alloc _ | exact ((Keep.refl _ _).alloc _).drew | refine Keep.drewN ?_ _ | refine Keep.trans ?_ (Keep.of_below (by assumption))))) (ho3.keep (S := fun _ => True) (by repeat (first | exact (Keep.refl _ _).drew | exact Keep.refl _ _ | exact (Keep.refl _ _).alloc _ | exact ((Keep.refl _ _).alloc _).drew | refine Keep.drewN ?_ _ | refine Keep.trans ?_ (Keep.of_below (by assumption)))) (fun _ _ _ => trivial)) (HX2.out.keep (by repeat (first | exact (Keep.refl _ _).drew | exact Keep.refl _ _ | exact (Keep.refl _ _).alloc _ | exact ((Keep.refl _ _).alloc _).drew | refine Keep.drewN ?_ _ | refine Keep.trans ?_ (Keep.of_below (by assumption))))) HGL.out.1 HGL.out.2).mono ?_; rintro e w4 ⟨v4, rfl, ho4, hb4⟩))
      rename_i hHd
      clear hHd
      have hb3' : Below w2.heap.size w2 w3 := ((Below.refl _ _).drew).trans hb3
      have hb4' : Below w2.heap.size w2 w4 := hb3'.trans (hb4.mono hb3'.size)
      have HB4 := Lib.hid (HB2.out.trans (hb4'.mono hs))
      have HO4 := Lib.hid ho4
      have hzp : 0 < sz T := sz_pos (SpecX.grp_parts HG.out).1
      obtain ⟨g, cap, hv4, hgB, hgl⟩ := World.ownsRow.form ho4 (by rw [mkl_length]; exact hzp)
      rw [mkl_length] at hv4
      subst hv4
      have hg3 : w2.heap.size ≤ g := Nat.le_trans hb3'.size hgB
      clear ho3 hb3 ho4 hb4 hb3' hb4' e0 e1 e2 hs hl0 HEM HOB HP2 HX2 HGL HME hgB
      obtain ⟨n, hn⟩ : ∃ n, (Grow.grow T T T.length []).length = n := ⟨_, rfl⟩
      have HMK := Lib.hid (fun t => orb_mks T x t)
      rw [hn] at HO4 HMK
      have HNN := Lib.hid hn
      have HBW4 := Lib.hid (bx1 HB4.out).2.2.1
      have HS4 := Lib.hid (bx1 HB4.out).2.2.2
      have h00 := Lib.hid (World.ownsRow_made (base := w4.heap.size) (e := 22) (size := 1) w4 #[] 0 (Nat.le_refl _) (Nat.zero_le _) rfl)
      have HOS := Lib.hid (fun W (h : Below w4.heap.size w4 W) => show SlI Any W pO (ints (SpecN.ords T)) from by
        have h2 := ((HP.out.keep ((bx1 HB4.out).2.1.trans (Keep.of_below h)))).os
        rwa [SpecN.ofTw_ords] at h2)
      clear hn
      go_wp2_with fail
      go_loopw [7, 8] (fun ov iv wr => ∃ t : Nat, t ≤ sz T ∧ iv = .int .i64 (t : Int) ∧ Hid (Own2 22 2 w4.heap.size wr ov ((nums (orb T x) t).map (at_ T))) ∧ Hid (Below w4.heap.size w4 wr)) (fun _ iv _ => sz T - (intOf iv).toNat)
      case atStart => exact ⟨0, Nat.zero_le _, rfl, Lib.hid ⟨[], h00.out, rfl, by simp [nums]⟩, Lib.hid ((Below.refl _ _).alloc (Nat.le_refl _) _)⟩
      case round =>
        obtain ⟨t, ht, rfl, ho2, hB⟩ := hrel
        have HBX := Lib.hid (HB4.out.trans (hB.out.mono HS4.out))
        obtain ⟨⟨e0, e1, e2⟩, -, -, hs⟩ := bx1 HBX.out
        by_cases hlt : t < sz T
        · have hIq := HO4.out.keep (S := Any) (Keep.of_below hB.out) (fun _ _ => trivial)
          obtain ⟨s8, f8⟩ := hIq.cell (mkl_get hlt)
          rw [HMK.out] at s8
          have ht1 : (t : Int) < (sz T : Int) := by omega
          have ht0 : (0 : Int) ≤ (t : Int) := by omega
          have hdt : decide ((t : Int) < (sz T : Int)) = true := by simp; omega
          have hns := nums_succ (orb T x) t
          have hnl := nums_length (orb T x) t
          obtain ⟨nl, hnl2⟩ : ∃ nl, ((nums (orb T x) t).map (at_ T)).length = nl := ⟨_, rfl⟩
          have hnl7 : nl ≤ 27 := by rw [← hnl2, List.length_map]; omega
          cases hbt : orb T x t with
          | false =>
            rw [hbt] at s8 hns
            simp only [Bool.false_eq_true, if_false, List.append_nil] at hns
            have HNS := Lib.hid hns
            clear hIq hbt hns hnl hnl2
            go_wp2_with fail
            go_roundw
            case rel => exact ⟨t + 1, by omega, by go_num, Lib.hid (by rw [HNS.out]; exact ho2.out), hB⟩
            case measure => simp [intOf] <;> omega
          | true =>
            rw [hbt] at s8 hns
            simp only [if_true] at hns
            have HNS := Lib.hid (show (nums (orb T x) (t + 1)).map (at_ T) = (nums (orb T x) t).map (at_ T) ++ [at_ T t] by rw [hns, List.map_append]; rfl)
            have HNL2 := Lib.hid hnl2
            clear hIq hbt hns hnl hnl2
            go_wp2_with fail
            refine (HAT.out _ t (by omega) (HOS.out _ hB.out)).mono ?_
            rintro e w5 ⟨g5, c5, rfl, ho, hb5⟩
            have HB5 := Lib.hid (hB.out.trans (hb5.mono hB.out.size))
            have HRR := Lib.hid (NewS.row (ho.mono (B' := w4.heap.size) hB.out.size))
            obtain ⟨us2, h1, h2, h4⟩ := ho2.out.of_below hb5
            have HUU := Lib.hid (And.intro h2 h4)
            rw [HNL2.out] at h1
            clear ho hb5 h2 h4 ho2
            go_wp2_with (at_builtin; (refine wpList_append_own _ rfl _ _ 23 rfl w4.heap.size 22 i0 (.slice none 0 0) 1 24 Tryz.underlying23 hi hz0 hz1 hz2 rfl (by decide) _ _ _ rfl (h1.alloc _) ⟨w5.heap.size, 0, none⟩ 1 1 [.slice (some ⟨g5, 0, none⟩) (ints (at_ T t)).length c5] rfl rfl ?c1 ?c2 ?c3 ?c4 ?c5 ?_))
            case c1 =>
              intro j u hj
              match j, hj with
              | 0, hj => simp at hj; subst hj; simp [Addr.add]
            case c2 => intro u hu; simp at hu; subst hu; rfl
            case c3 => unfold maxLen; omega
            case c4 => omega
            case c5 => have := HB5.out.size; simp; omega
            · intro v' w6 hown hgrow _
              have HN := Lib.hid (show Own2 22 2 w4.heap.size w6 v' ((nums (orb T x) (t + 1)).map (at_ T)) from by
                rw [HNS.out]
                exact Own2.push (w := w5.alloc _) (us := us2) (by decide) HNL2.out (h1.alloc _) HUU.out.1 (fun i r u hr hu => (HUU.out.2 i r u hr hu).keep (S := fun _ => True) ((Keep.refl _ _).alloc _) (fun _ _ => trivial)) (HRR.out.keep (S := fun _ => True) ((Keep.refl _ _).alloc _) (fun _ _ => trivial)) hown hgrow)
              have HB6 := Lib.hid (show Below w4.heap.size w4 w6 from (HB5.out.alloc (by have := HB5.out.size; omega) _).grown hgrow (by simp; have := HB5.out.size; omega) (fun g hg => (World.ownsRow.lt h1 g hg).1))
              clear hown hgrow h1 HUU HRR
              go_wp2_with fail
              go_roundw
              case rel => exact ⟨t + 1, by omega, by go_num, HN, HB6⟩
              case measure => simp [intOf] <;> omega
        · obtain rfl : t = sz T := by omega
          have hdt : decide ((sz T : Int) < (sz T : Int)) = false := by simp
          have HR := Lib.hid (show SOrbR (ofTw T) (ints x) w (.returned (.tuple #[u7, .int .i64 0])) wr from by
            refine ⟨_, 0, _, rfl, .inr ⟨T, x, rfl, rfl, HG.out, HXE.out, .inr ⟨rfl, hz, rfl⟩⟩, ?_, HBW4.out.trans (hB.out.mono HBW4.out.size)⟩
            have h := Sl2.mono (ho2.out.sl) (S' := fun b => w.heap.size ≤ b) (fun b hb => Nat.le_trans HBW4.out.size hb)
            rw [List.map_map] at h
            exact h)
          clear ho2
          go_wp2_with fail
          exact bodyPost_ret (v := .tuple #[u7, .int .i64 0]) (by simp [results, Tryz.results41, go_sem]) rfl HR.out
  · obtain rfl : r = false := by
      cases r with
      | false => rfl
      | true => exact absurd (hr.1 rfl) hE
    have HR := Lib.hid (show SOrbR P l w (.returned (.tuple #[.slice none 0 0, .int .i64 1])) w1 from ⟨_, 1, [], rfl, .inl ⟨rfl, rfl, hE⟩, FindC.Sl2_nil _ _, HBW1.out⟩)
    clear hr hE hk hbw
    go_wp2_with fail
    exact bodyPost_ret (v := .tuple #[.slice none 0 0, .int .i64 1]) (by simp [results, Tryz.results41, go_sem]) rfl HR.out
end Go.Proofs.YtabeedimnbkcgaaGreat.OrbC
