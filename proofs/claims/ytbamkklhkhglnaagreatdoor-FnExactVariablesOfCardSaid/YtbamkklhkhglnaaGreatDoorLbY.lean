import Derived.Test.YtbamkklhkhglnaaGreatDoorLbX
import Derived.Test.YtbamkklhkhglnaaGreatDoorTrA
import Derived.Test.YtbamkklhkhglnaaGreatDoorTwE
import Derived.Test.YtbamkklhkhglnaaGreatDoorTwD
import Derived.Test.YtbamkklhkhglnaaGreatDoorTrB
import Derived.Test.YtbamkklhkhglnaaGreatDoorTsB
import Derived.Test.YtbamkklhkhglnaaGreatDoorTsC
import Derived.Test.YtbamkklhkhglnaaGreatDoorTsD
import Derived.Test.YtbamkklhkhglnaaGreatDoorTsE
/-
  spec.l30Table: the table's rows, in memory.
-/
namespace Go.Proofs.YtbamkklhkhglnaaGreatDoor.LbT
open Go.RowKit Go.Lib Go.Proofs.YtbamkklhkhglnaaGreatDoor Go.Proofs.YtbamkklhkhglnaaGreatDoor.Tow Go.Proofs.YtbamkklhkhglnaaGreatDoor.LbC Go.Proofs.YtbamkklhkhglnaaGreatDoor.LbP
set_option linter.unusedVariables false
set_option linter.unusedSimpArgs false

def sel (r : Row) : List Value := [.int .i64 r.o, .string (ba r.nm), .string (ba r.tx)]
def tcs : List Value := tab.flatMap sel
def TbR (w : World) (e : Ending) (w' : World) : Prop := e = .returned (.slice (some ⟨w.heap.size, 0, none⟩) 82 82) ∧ w' = w.alloc (.cells tcs.toArray 124)
set_option maxRecDepth 100000 in
set_option maxHeartbeats 4000000 in
theorem table_any (w : World) : Calls Tryz.prog 84 #[] w (TbR w) := by
  go_enter Tryz.func84, Tryz.ntmps84
  go_wp2
  unfold Oper.wp
  refine Eq.mpr (congrArg (Oper.upon _ _ _ _ _) (show _ = Result.ok (Next.value (.slice (some ⟨w.heap.size, 0, none⟩) 82 82)) (w.alloc (.cells tcs.toArray 124)) from by kernel_rfl)) ?_
  go_wp2
  go_ret
  exact ⟨rfl, rfl⟩
end Go.Proofs.YtbamkklhkhglnaaGreatDoor.LbT

/-
  spec.PlaceOfName: is there a library group with a name?
-/
namespace Go.Proofs.YtbamkklhkhglnaaGreatDoor.LbG
open Go.RowKit Go.Lib Go.Proofs.YtbamkklhkhglnaaGreatDoor Go.Proofs.YtbamkklhkhglnaaGreatDoor.Tow Go.Proofs.YtbamkklhkhglnaaGreatDoor.LbC Go.Proofs.YtbamkklhkhglnaaGreatDoor.LbP Go.Proofs.YtbamkklhkhglnaaGreatDoor.LbF Go.Proofs.YtbamkklhkhglnaaGreatDoor.LbT
set_option linter.unusedVariables false
set_option linter.unusedSimpArgs false

theorem tcs_get {k : Nat} {r : Row} (h : tab[k]? = some r) : ∀ j < 3, tcs[k * 3 + j]? = (sel r)[j]? := by
  unfold tcs
  generalize tab = l at h
  induction l generalizing k with
  | nil => simp at h
  | cons a l ih =>
    intro j hj
    rw [List.flatMap_cons]
    have hs : (sel a).length = 3 := rfl
    cases k with
    | zero =>
      obtain rfl : a = r := by simpa using h
      rw [List.getElem?_append_left (by omega)]
      simp
    | succ k =>
      rw [List.getElem?_append_right (by omega), ← ih (by simpa using h) j hj, hs]
      congr 1
      omega
/-- a place by its name -/
def PlR (t : List UInt8) (w : World) (e : Ending) (w' : World) : Prop := ∃ n k : Int, e = .returned (.tuple #[.int .i64 n, .int .i64 k, .int .i64 (if (rowN t).isSome then 0 else 4)]) ∧ Below w.heap.size w w'
set_option maxRecDepth 100000 in
set_option maxHeartbeats 4000000 in
theorem pl_any (s : ByteArray) (w : World) :
    Calls Tryz.prog 61 #[.string s] w (PlR s.data.toList w) := by
  obtain ⟨g, hg⟩ : ∃ g, w.heap.size = g := ⟨_, rfl⟩
  obtain ⟨w1, hw1⟩ : ∃ w1, w1 = w.alloc (.cells tcs.toArray 124) := ⟨_, rfl⟩
  have HT := Lib.hid (show Calls Tryz.prog 84 #[] w fun e w' => e = .returned (.slice (some ⟨g, 0, none⟩) 82 82) ∧ w' = w1 from by rw [hw1, ← hg]; exact table_any w)
  have HB1 := Lib.hid (show Below w.heap.size w w1 by rw [hw1]; exact (Below.refl _ _).alloc (Nat.le_refl _) _)
  have hgl : g < w1.heap.size := by rw [hw1, ← hg]; simp
  have HCL := Lib.hid (fun (W : World) (hb : Below w1.heap.size w1 W) (k : Nat) (r : Row) (hr : tab[k]? = some r) => show g < W.heap.size ∧ W.cell? ⟨g, k * 3, none⟩ = some (.int .i64 r.o) ∧ W.cell? ⟨g, k * 3 + 1, none⟩ = some (.string (ba r.nm)) from by
    have hx : ∀ j u, j < 3 → (sel r)[j]? = some u → W.cell? ⟨g, k * 3 + j, none⟩ = some u := fun j u hj hu => by
      rw [hb.cell (p := ⟨g, k * 3 + j, none⟩) hgl]
      have h1 := tcs_get hr j hj
      rw [hu] at h1
      have h2 : w1.heap[g]? = some (.cells tcs.toArray 124 (0, 0)) := by rw [hw1, ← hg]; exact World.alloc_heap_new w _
      simp only [World.cell?, h2]
      simpa using h1
    exact ⟨Nat.lt_of_lt_of_le hgl hb.size, hx 0 _ (by omega) rfl, hx 1 _ (by omega) rfl⟩)
  clear hw1 hg
  go_enter Tryz.func61, Tryz.ntmps61
  go_wp2_with (go_at_call 84; refine HT.out.mono ?_; rintro e w2 ⟨rfl, rfl⟩)
  obtain ⟨N, hN⟩ : ∃ N, (82 : Nat) = N := ⟨_, rfl⟩
  have HN := Lib.hid (show tab.length = N from by rw [tab_len]; exact hN)
  have hNI : (82 : Int) = (N : Int) := by rw [← hN]; rfl
  rw [hN]
  have hN82 : (N : Int) ≤ 100 := by omega
  clear hN hNI
  rename World => w1
  go_loopw [6, 7] (fun jv iv wr => ∃ (k : Nat) (m : Int), k ≤ N ∧ jv = .int .i64 m ∧ iv = .int .i64 (k : Int) ∧ Hid (∀ j q, j < k → tab[j]? = some q → ¬ q.nm = s.data.toList) ∧ Hid (Below w1.heap.size w1 wr)) (fun _ iv _ => N - (intOf iv).toNat)
  case atStart => exact ⟨0, 0, Nat.zero_le _, rfl, rfl, Lib.hid (fun j q hj => absurd hj (by omega)), Lib.hid (Below.refl _ _)⟩
  case round =>
    obtain ⟨k, m, hk, rfl, rfl, HD, hB⟩ := hrel
    by_cases hlt : k < N
    · have hki : (k : Int) < (N : Int) := by omega
      obtain ⟨r, hr⟩ : ∃ r, tab[k]? = some r := ⟨_, List.getElem?_eq_getElem (by rw [HN.out]; exact hlt)⟩
      obtain ⟨hgw, q0, q1⟩ := HCL.out wr hB.out k r hr
      go_upto_region 6 with fail
      go_cut [30] (fun v W => (∃ b, v = .bool b) ∧ Hid (Below wr.heap.size wr W))
      case first =>
        by_cases hk0 : k = 0
        · subst hk0
          go_quiet (fail)
          go_wp2_with fail
          go_meet
          exact ⟨⟨_, rfl⟩, Lib.hid (below_drewN (Below.refl _ _) _)⟩
        · obtain ⟨j, hj⟩ : ∃ j, j + 1 = k := ⟨k - 1, by omega⟩
          obtain ⟨r', hr'⟩ : ∃ r', tab[j]? = some r' := ⟨_, List.getElem?_eq_getElem (by rw [HN.out]; omega)⟩
          obtain ⟨-, p0, -⟩ := HCL.out wr hB.out j r' hr'
          have hpos : 0 < k := by omega
          have hposI : (0 : Int) < (k : Int) := by omega
          have hsub : IntKind.i64.wrap ((k : Int) - 1) = (j : Int) := by rw [IntWalk.i64_in _ (by omega)]; omega
          have hjN : (j : Int) < (N : Int) := by omega
          have hjNn : j < N := by omega
          clear hj hk0
          go_quiet (fail)
          go_wp2_with fail
          go_meet
          exact ⟨⟨_, rfl⟩, Lib.hid (below_drewN (Below.refl _ _) _)⟩
      case rest =>
        obtain ⟨⟨b, rfl⟩, HB2⟩ := hcut
        rename World => w2
        have HB12 := Lib.hid (hB.out.trans (HB2.out.mono hB.out.size))
        obtain ⟨hgw, q0, q1⟩ := HCL.out w2 HB12.out k r hr
        by_cases he : r.nm = s.data.toList
        · have heb : ((ba r.nm).toList == s.toList) = true := by rw [toList_data, toList_data]; exact beq_iff_eq.2 he
          have HRW := Lib.hid (rowN_at HD.out hr he)
          clear he hr
          cases b <;>
            (go_wp2_with fail
             refine bodyPost_ret (v := .tuple #[.int .i64 _, .int .i64 _, .int .i64 0]) (by simp [results, Tryz.results61, go_sem]; exact ⟨rfl, rfl⟩) rfl ?_
             exact ⟨_, _, by rw [HRW.out]; rfl, HB1.out.trans (HB12.out.mono HB1.out.size)⟩)
        · have heb : ((ba r.nm).toList == s.toList) = false := by rw [toList_data, toList_data]; exact beq_eq_false_iff_ne.2 he
          have HD2 := Lib.hid (show ∀ j q, j < k + 1 → tab[j]? = some q → ¬ q.nm = s.data.toList from fun j q hj hq => by
            by_cases hjk : j = k
            · rw [hjk, hr] at hq
              obtain rfl := Option.some.inj hq
              exact he
            · exact HD.out j q (by omega) hq)
          have hk64 : (k : Int) + 1 ≤ 9223372036854775807 := by omega
          clear he hr
          cases b
          · go_wp2_with fail
            go_roundw
            case rel => exact ⟨k + 1, _, by omega, rfl, by go_num, HD2, HB12⟩
            case measure => simp [intOf]; omega
          · go_wp2_with fail
            go_roundw
            case rel => exact ⟨k + 1, _, by omega, rfl, by go_num, HD2, HB12⟩
            case measure => simp [intOf]; omega
    · obtain rfl : N = k := by omega
      have HNO := Lib.hid (rowN_none (t := s.data.toList) (by rw [HN.out]; exact HD.out))
      have hki : ¬ (N : Int) < (N : Int) := by omega
      go_wp2_with fail
      refine bodyPost_ret (v := .tuple #[.int .i64 0, .int .i64 0, .int .i64 4]) (by simp [results, Tryz.results61, go_sem]) rfl ?_
      exact ⟨0, 0, by rw [HNO.out]; rfl, HB1.out.trans (hB.out.mono HB1.out.size)⟩
end Go.Proofs.YtbamkklhkhglnaaGreatDoor.LbG

/-
  For spec.ParsePresentation: plain facts on readS and stepS.
-/
namespace Go.Proofs.YtbamkklhkhglnaaGreatDoor.TsF
open Go.RowKit Go.Lib Go.Proofs.YtbamkklhkhglnaaGreatDoor Go.Proofs.YtbamkklhkhglnaaGreatDoor.Tow Go.Proofs.YtbamkklhkhglnaaGreatDoor.TxA Go.Proofs.YtbamkklhkhglnaaGreatDoor.TxB Go.Proofs.YtbamkklhkhglnaaGreatDoor.TxC Go.Proofs.YtbamkklhkhglnaaGreatDoor.TmA Go.Proofs.YtbamkklhkhglnaaGreatDoor.TwC Go.Proofs.YtbamkklhkhglnaaGreatDoor.TrA

theorem readS_none {t : List UInt8} (h : readS t = none) : ¬ ∃ p, Vl p ∧ txt p = t := fun ⟨p, hp, e⟩ => by
  have := readS_txt hp.ok.gd
  rw [e, h] at this
  exact absurd this (by simp)
theorem readS_some {t : List UInt8} {q : RP} (h : readS t = some q) (hn : ¬ (Vl q ∧ txt q = t)) : ¬ ∃ p, Vl p ∧ txt p = t := fun ⟨p, hp, e⟩ => by
  have h2 := readS_txt hp.ok.gd
  rw [e, h] at h2
  obtain rfl := Option.some.inj h2
  exact hn ⟨hp, e⟩
theorem exps_len {n : Nat} {t : List UInt8} {v : List Nat} (h : expsI n t = some v) : v.length = n := by
  unfold expsI at h
  split at h
  · obtain rfl := Option.some.inj h
    simp [zer]
  · split at h
    · exact absurd h (by simp)
    · obtain rfl := Option.some.inj h
      simp
theorem app_os (p : RP) (r : Rl) : (p.app r).os = p.os := by
  unfold RP.app
  split <;> rfl
theorem stepS_sh {n : Nat} {p q : RP} {t : List UInt8} (h : Sh n p) (hs : stepS n p t = some q) : Sh n q ∧ q.os = p.os := by
  unfold stepS at hs
  split at hs
  · rename_i x y b e
    split at hs
    · exact absurd hs (by simp)
    · rename_i v hv
      have hl := exps_len hv
      split at hs
      · rename_i hx
        have h1 := isL_sub hx
        split at hs
        · obtain rfl := Option.some.inj hs
          exact ⟨h.app ⟨h1.2, hl, fun i hi => by simp at hi⟩, app_os _ _⟩
        · split at hs
          · rename_i hy
            have h2 := isL_sub hy
            obtain rfl := Option.some.inj hs
            exact ⟨h.app ⟨h1.2, hl, fun i hi => by
              have e2 : y.toNat - 97 = i := Option.some.inj hi
              show i < x.toNat - 97
              omega⟩, app_os _ _⟩
          · exact absurd hs (by simp)
      · exact absurd hs (by simp)
  · exact absurd hs (by simp)
theorem fold_sh {n : Nat} : ∀ (l : List (List UInt8)) {p q : RP}, Sh n p → l.foldlM (stepS n) p = some q → Sh n q ∧ q.os = p.os
  | [], p, q, h, e => by
    obtain rfl := Option.some.inj e
    exact ⟨h, rfl⟩
  | t :: l, p, q, h, e => by
    rw [List.foldlM_cons] at e
    cases hs : stepS n p t with
    | none => rw [hs] at e; exact absurd e (by simp)
    | some p1 =>
      rw [hs] at e
      obtain ⟨h1, h2⟩ := stepS_sh h hs
      obtain ⟨h3, h4⟩ := fold_sh l h1 e
      exact ⟨h3, h4.trans h2⟩
theorem ordS_ok {t : List UInt8} {os : List Int} (h : ordS t = some os) : Prs os ∧ os.length ≤ 6 := by
  unfold ordS at h
  split at h
  · obtain rfl := Option.some.inj h
    exact ⟨fun o ho => by simp at ho, by simp⟩
  · split at h
    · rename_i h2
      obtain rfl := Option.some.inj h
      exact ⟨fun o ho => by
        obtain ⟨w, hw, rfl⟩ := List.mem_map.1 ho
        exact h2.1 w hw, by simpa using h2.2.1⟩
    · exact absurd h (by simp)
end Go.Proofs.YtbamkklhkhglnaaGreatDoor.TsF

/-
  spec.l07Text: the walk.
-/
namespace Go.Proofs.YtbamkklhkhglnaaGreatDoor.TwF
open Go.RowKit Go.Lib Go.Proofs.YtbamkklhkhglnaaGreatDoor Go.Proofs.YtbamkklhkhglnaaGreatDoor.Tow Go.Proofs.YtbamkklhkhglnaaGreatDoor.CyA Go.Proofs.YtbamkklhkhglnaaGreatDoor.TxA Go.Proofs.YtbamkklhkhglnaaGreatDoor.TxB Go.Proofs.YtbamkklhkhglnaaGreatDoor.TxC Go.Proofs.YtbamkklhkhglnaaGreatDoor.TmA Go.Proofs.YtbamkklhkhglnaaGreatDoor.TiA Go.Proofs.YtbamkklhkhglnaaGreatDoor.TwA Go.Proofs.YtbamkklhkhglnaaGreatDoor.TwB Go.Proofs.YtbamkklhkhglnaaGreatDoor.TwC Go.Proofs.YtbamkklhkhglnaaGreatDoor.TwD Go.Proofs.YtbamkklhkhglnaaGreatDoor.TwE Go.Proofs.YtbamkklhkhglnaaGreatDoor.Val
set_option linter.unusedVariables false
set_option linter.unusedSimpArgs false

theorem ints_inj {a b : List Nat} (h : ints a = ints b) : a = b := by
  have h2 := congrArg (List.map Int.toNat) h
  unfold ints at h2
  rw [List.map_map, List.map_map] at h2
  have h3 : (Int.toNat ∘ Int.ofNat) = id := by funext x; simp
  rwa [h3, List.map_id, List.map_id] at h2
theorem ints_dec (a b : List Nat) : decide (ints a = ints b) = decide (a = b) := by
  by_cases h : a = b
  · rw [h]; simp
  · rw [decide_eq_false (fun e => h (ints_inj e)), decide_eq_false h]
set_option maxRecDepth 100000 in
set_option maxHeartbeats 2000000 in
theorem stxt_any (n : Nat) (p : RP) (h : TxOk n p) (vO vP vC : Value) (w : World) (hV : ValP (fun _ => True) w vO vP vC p.val) :
    Calls Tryz.prog 109 #[.agg #[vO, vP, vC]] w (TxR (txt p) w) := by
  obtain ⟨aO, cO, rfl⟩ := slv hV.os h.gd.sh.os
  obtain ⟨aP, cP, rfl⟩ := slv hV.ps (n := n) (by simp [RP.val, h.gd.sh.pl])
  obtain ⟨aC, cC, rfl⟩ := slv hV.cs (n := n) (by simp [RP.val, h.gd.sh.cl])
  have H := Lib.hid h
  have hn6 : n ≤ 6 := h.gd.n6
  have HV := Lib.hid hV
  clear h hV
  go_enter Tryz.func109, Tryz.ntmps109
  go_upto_region 1 with fail
  obtain ⟨w1, hw1⟩ : ∃ w1, w1 = w.alloc (.cells #[.slice aO n cO, .slice aP n cP, .slice aC n cC] 91) := ⟨_, rfl⟩
  rw [← hw1]
  have HB1 := Lib.hid (show Below w.heap.size w w1 by rw [hw1]; exact (Below.refl _ _).alloc (Nat.le_refl _) _)
  have HBX := Lib.hid (fun (W : World) (hb : Below w1.heap.size w1 W) => show (W.cell? ⟨w.heap.size, 0, none⟩ = some (.slice aO n cO) ∧ W.cell? ⟨w.heap.size, 1, none⟩ = some (.slice aP n cP) ∧ W.cell? ⟨w.heap.size, 2, none⟩ = some (.slice aC n cC)) ∧ w.heap.size < W.heap.size from by
    have hl : w.heap.size < w1.heap.size := by rw [hw1]; simp
    have hr : w1.heap[w.heap.size]? = some (.cells #[.slice aO n cO, .slice aP n cP, .slice aC n cC] 91 (0, 0)) := by rw [hw1]; exact heap_alloc_new _ _
    exact ⟨row3' ((hb.block _ hl).trans hr), Nat.lt_of_lt_of_le hl hb.size⟩)
  have HV1 := Lib.hid (HV.out.keep (Keep.of_below HB1.out))
  clear hw1
  obtain ⟨⟨e0, e1, e2⟩, hgl⟩ := HBX.out w1 (Below.refl _ _)
  by_cases hn0 : n = 0
  · have hz : ((n : Int) == 0) = true := by rw [hn0]; rfl
    have HF := Lib.hid (show TxR (txt p) w (.returned (.string ⟨#[49]⟩)) w1 from ⟨_, rfl, by
      have ho := H.out.gd.sh.os
      rw [hn0] at ho
      unfold txt rels
      rw [ho]
      unfold ordT
      rw [if_pos (List.eq_nil_of_length_eq_zero ho)]
      rfl, HB1.out⟩)
    clear hn0
    go_wp2_with fail
    go_ret
    exact HF.out
  have hz : ((n : Int) == 0) = false := beq_eq_false_iff_ne.2 (by omega)
  have HN0 := Lib.hid hn0
  clear hn0
  go_wp2_with fail
  go_loopw [4, 5] (fun ov iv wr => ∃ (i : Nat) (s : ByteArray), i ≤ n ∧ s.size ≤ 2 * i ∧ iv = .int .i64 (i : Int) ∧ ov = .string s ∧ Hid (s.data.toList = jt p.os i) ∧ Hid (Below w1.heap.size w1 wr)) (fun _ iv _ => n - (intOf iv).toNat)
  case atStart => exact ⟨0, _, Nat.zero_le _, Nat.le_refl _, rfl, rfl, Lib.hid rfl, Lib.hid (Below.refl _ _)⟩
  case round =>
    clear e0 e1 e2 hgl
    obtain ⟨i, s, hi, hs, rfl, rfl, hS, hB⟩ := hrel
    by_cases hlt : i < n
    · have hki : (i : Int) < (n : Int) := by omega
      have hki0 : (0 : Int) ≤ (i : Int) := by omega
      obtain ⟨x, hx⟩ : ∃ x, p.os[i]? = some x := ⟨_, List.getElem?_eq_getElem (by rw [H.out.gd.sh.os]; exact hlt)⟩
      have HX := Lib.hid hx
      have HPX := Lib.hid (H.out.gd.pr x (List.mem_of_getElem? hx))
      obtain ⟨b', o', u, rfl, _, hbu, hcu, rfl⟩ := slg_get (HV1.out.os.keep (Keep.of_below hB.out)) hx
      obtain ⟨⟨e0, e1, e2⟩, hgl⟩ := HBX.out wr hB.out
      clear hx
      have q1 : (9223372036854775807 < s.size + 1) = False := eq_false (by omega)
      go_upto_if 20 with (fail)
      go_cut [4] (fun v W => ∃ s' : ByteArray, v = .string s' ∧ s'.size ≤ 2 * i + 1 ∧ Hid (s'.data.toList = jt p.os i ++ (if i = 0 then [] else [32])) ∧ W = wr)
      case first =>
        by_cases hi0 : i = 0
        · have hi0n : ¬ 0 < i := by omega
          have HR := Lib.hid (show s.data.toList = jt p.os i ++ (if i = 0 then [] else [32]) from by rw [if_pos hi0, List.append_nil]; exact hS.out)
          clear hi0
          go_wp2_with fail
          go_meet
          exact ⟨s, rfl, by omega, HR, rfl⟩
        · have hi0n : 0 < i := by omega
          have HR := Lib.hid (show (s ++ ⟨#[32]⟩ : ByteArray).data.toList = jt p.os i ++ (if i = 0 then [] else [32]) from by rw [if_neg hi0, ← hS.out]; simp [ByteArray.data_append])
          clear hi0
          go_wp2_with fail
          go_meet
          exact ⟨_, rfl, by rw [ByteArray.size_append]; show _ + 1 ≤ _; omega, HR, rfl⟩
      case rest =>
        obtain ⟨s', rfl, hs', hS', rfl⟩ := hcut
        rename World => wr
        have q2 : (9223372036854775807 < s'.size + 1) = False := eq_false (by omega)
        have HDC := Lib.hid (dec_prime HPX.out wr)
        clear hS hs q1
        go_wp2_with (first | (go_at_call 139; refine HDC.out.mono ?_; rintro e w2 ⟨s1, rfl, hs1, hz1, hb1⟩) | fail)
        have HS1 := Lib.hid (show (s' ++ s1).data.toList = jt p.os (i + 1) from by rw [jt_succ HX.out, ← hS'.out, ← hs1]; simp [ByteArray.data_append])
        have HSZ := Lib.hid (show (s' ++ s1).size ≤ 2 * (i + 1) from by rw [ByteArray.size_append, hz1]; omega)
        have HB2 := Lib.hid (hB.out.trans (hb1.mono hB.out.size))
        clear hs1 hz1 hb1 hB hS' hs' q2
        go_roundw
        case rel => exact ⟨i + 1, _, by omega, HSZ.out, by go_num, rfl, HS1, HB2⟩
        case measure => simp [intOf]; omega
    · obtain rfl : n = i := by omega
      have hs12 : s.size ≤ 12 + 0 * 1002 := by omega
      have HS0 := Lib.hid (show s.data.toList = tx p (powR p 0) from by
        rw [hS.out, jt_all H.out.gd.sh.os HN0.out]
        unfold tx joinTail
        show _ = _ ++ []
        rw [List.append_nil])
      have HB0 := hB
      clear hS hB hs hlt hi
      rename World => w8
      go_wp2_with fail
      go_loopw [4, 6] (fun ov iv wr => ∃ (k : Nat) (s : ByteArray), k ≤ n ∧ s.size ≤ 12 + k * 1002 ∧ iv = .int .i64 (k : Int) ∧ ov = .string s ∧ Hid (s.data.toList = tx p (powR p k)) ∧ Hid (Below w1.heap.size w1 wr)) (fun _ iv _ => n - (intOf iv).toNat)
      case atStart => exact ⟨0, _, Nat.zero_le _, hs12, rfl, rfl, HS0, HB0⟩
      case round =>
        clear HS0 HB0 hs12
        obtain ⟨k, s, hk, hs, rfl, rfl, hS, hB⟩ := hrel
        by_cases hlt : k < n
        · have hki : (k : Int) < (n : Int) := by omega
          have hki0 : (0 : Int) ≤ (k : Int) := by omega
          have hk6 : k ≤ 6 := by omega
          have hsb : s.size ≤ 60000 := by omega
          obtain ⟨v, hv⟩ : ∃ v, p.ps[k]? = some v := ⟨_, List.getElem?_eq_getElem (by rw [H.out.gd.sh.pl]; exact hlt)⟩
          have hvl := H.out.gd.sh.pr v (List.mem_of_getElem? hv)
          have hvb := H.out.pb v (List.mem_of_getElem? hv)
          obtain ⟨b', o', u, rfl, _, hbu, hcu, hsu⟩ := slg_get (HV1.out.ps.keep (Keep.of_below hB.out)) (show p.val.ps[k]? = some (ints v) by simp [RP.val, hv])
          obtain ⟨au, cu, rfl⟩ := slv (n := n) hsu (by rw [ints_length]; exact hvl)
          obtain ⟨⟨e0, e1, e2⟩, hgl⟩ := HBX.out wr hB.out
          obtain ⟨x, hx⟩ : ∃ x, p.os[k]? = some x := ⟨_, List.getElem?_eq_getElem (by rw [H.out.gd.sh.os]; exact hlt)⟩
          have HPX := Lib.hid (H.out.gd.pr x (List.mem_of_getElem? hx))
          obtain ⟨bq, oq, uq, rfl, _, hbq, hcq, rfl⟩ := slg_get (HV1.out.os.keep (Keep.of_below hB.out)) hx
          have HSU := Lib.hid hsu
          have HZ := Lib.hid (zero_any (.slice au n cu) (ints v) wr hsu)
          have HPS := Lib.hid (powR_succ p k)
          have HD := Lib.hid (show p.ps.getD k [] = v from getD_of hv)
          have HBY := Lib.hid (show byT p.os ⟨k, none, v⟩ = dT x from by show dT (p.os.getD k 0) = _; rw [getD_of hx])
          have HVV := Lib.hid (And.intro hvl hvb)
          have HSL := Lib.hid (tx_len H.out (powR p (k + 1)) (powR_mem H.out.gd.sh.os (by omega)))
          have HPL := Lib.hid (powR_len p (k + 1))
          clear hv hvl hvb hsu hx
          go_upto_block 3 with (fail)
          go_cut [4] (fun v W => ∃ s : ByteArray, v = .string s ∧ Hid (s.data.toList = tx p (powR p (k + 1))) ∧ Hid (Below w1.heap.size w1 W))
          case rest =>
            obtain ⟨s', rfl, hS', hB'⟩ := hcut
            have hsz : s'.size ≤ 12 + (k + 1) * 1002 := by
              have h1 := HSL.out
              rw [← hS'.out] at h1
              have h2 : s'.data.toList.length = s'.size := by simp
              have h3 := Nat.mul_le_mul_right 1002 HPL.out
              omega
            clear HSU HZ HPS HD HBY HVV HSL HPL hS hs hsb hB
            go_wp2_with fail
            go_roundw
            case rel => exact ⟨k + 1, s', by omega, hsz, by go_num, rfl, hS', hB'⟩
            case measure => simp [intOf]; omega
          case first =>
            by_cases hz : v = zer n
            · have HN := Lib.hid (show powR p (k + 1) = powR p k from by
                rw [HPS.out]; unfold pwF
                rw [HD.out, H.out.gd.sh.os, if_pos hz]; simp)
              have HZT := Lib.hid ((zero_zer v).2 (by rw [HVV.out.1]; exact hz))
              clear hz
              go_wp2_with (first | (go_at_call 141; refine HZ.out.mono ?_; rintro e w5 ⟨r, rfl, hr, rfl⟩; obtain rfl : r = true := hr.2 HZT.out; clear hr) | fail)
              go_meet
              exact ⟨s, rfl, Lib.hid (by rw [HN.out]; exact hS.out), hB⟩
            · have HZF := Lib.hid (fun h => hz (((zero_zer v).1 h).trans (by rw [HVV.out.1])))
              have HN := Lib.hid (show powR p (k + 1) = powR p k ++ [⟨k, none, v⟩] from by
                rw [HPS.out]; unfold pwF
                rw [HD.out, H.out.gd.sh.os, if_neg hz]; rfl)
              have HNW := Lib.hid (fun W (hk : Keep (fun _ => True) wr W) => snw_any au n cu v HVV.out.1 (by omega) HVV.out.2 W (HSU.out.keep hk))
              have HLE := Lib.hid (fun W => let_one k (by omega) W)
              have HDC := Lib.hid (fun W => dec_prime HPX.out W)
              have HWL := Lib.hid (show ∀ s : ByteArray, s.data.toList = wtx v → s.size ≤ 1000 from fun s hs => by
                have h1 := wtx_len v HVV.out.2
                rw [HVV.out.1] at h1
                have h2 := congrArg List.length hs
                have h3 : s.data.toList.length = s.size := by simp
                omega)
              have HNP := Lib.hid (show (nwF 0 v).length ≤ 100000 ∧ (∀ x ∈ nwF 0 v, 1 ≤ x ∧ x ≤ 100) from ⟨by
                have := nwF_len v 0 100 HVV.out.2
                rw [HVV.out.1] at this
                omega, fun x hx => by
                obtain ⟨i, hi, rfl⟩ := nwF_mem v 0 x hx
                rw [HVV.out.1] at hi
                omega⟩)
              have c0 : (9223372036854775807 < s.size + 2) = False := eq_false (by omega)
              have c1 : (9223372036854775807 < s.size + 2 + 1) = False := eq_false (by omega)
              have c2 : (9223372036854775807 < s.size + 2 + 1 + 1) = False := eq_false (by omega)
              have c3 : (9223372036854775807 < s.size + 2 + 1 + 1 + 1) = False := eq_false (by omega)
              have c4 : (9223372036854775807 < s.size + 2 + 1 + 1 + 1 + 1) = False := eq_false (by omega)
              clear hz HPS HD
              go_upto_region 15 with (first | (go_at_call 141; refine HZ.out.mono ?_; rintro e w5 ⟨r, rfl, hr, rfl⟩; obtain rfl : r = false := (by cases r; exact rfl; exact absurd (hr.1 rfl) HZF.out); clear hr) | fail)
              clear HZ HZF
              go_region_held3 (fun w' => (∀ b o, b < wr.heap.size → w'.cell? ⟨b, o, none⟩ = wr.cell? ⟨b, o, none⟩) ∧ Keep (fun _ => True) wr w')
                (first | exact ks_mk (by repeat (first | exact (Keep.refl _ _).drew | exact Keep.refl _ _ | refine Keep.drewN ?_ _ | refine Keep.trans ?_ (Keep.of_below (by assumption)))))
                (first | (go_at_call 142; refine (HLE.out _).mono ?_; rintro e wa ⟨sa, rfl, hsa, hza, hba⟩) | (go_at_call 139; refine (HDC.out _).mono ?_; rintro e wb ⟨sx, rfl, hsx, hzx, hbx⟩) | (go_at_call 144; refine (HNW.out _ (by repeat (first | exact (Keep.refl _ _).drew | exact Keep.refl _ _ | refine Keep.drewN ?_ _ | refine Keep.trans ?_ (Keep.of_below (by assumption))))).mono ?_; rintro e w6 ⟨u6, rfl, ho6, hb6⟩; obtain ⟨a6, c6, rfl, _, _, _⟩ := owns_form ho6) | (go_at_call 143; refine (stext_any a6 _ c6 (nwF 0 v) rfl HNP.out.1 HNP.out.2 _ ((Own.sl ho6).mono fun _ _ => trivial)).mono ?_; rintro e w7 ⟨s7, rfl, hs7, hb7⟩; rw [wtI_nw] at hs7; have hs7s := HWL.out s7 hs7; have hs7c : (9223372036854775807 < s.size + 2 + 1 + 1 + 1 + 1 + s7.size) = False := eq_false (by omega)))
              have h7 : Below wr.heap.size wr w7 := (by repeat (first | exact Below.refl _ _ | exact (Below.refl _ _).drew | refine stepB ?_ (Nat.le_refl _) (by assumption)))
              have HS2 := Lib.hid (show (((((((s ++ ⟨#[59, 32]⟩) ++ sa) ++ ⟨#[94]⟩) ++ sx) ++ ⟨#[61]⟩) ++ s7) : ByteArray).data.toList = tx p (powR p (k + 1)) from by
                rw [HN.out]
                exact rel_bytes2 s sa sx s7 p (powR p k) ⟨k, none, v⟩ hS.out hsa (hsx.trans HBY.out.symm) hs7)
              have HB2 := Lib.hid (hB.out.trans (h7.mono hB.out.size))
              clear h7 hsa hsx hs7
              go_wp2_with fail
              go_meet
              exact ⟨_, rfl, HS2, HB2⟩
        · obtain rfl : n = k := by omega
          have HS8 := Lib.hid (show s.data.toList = tx p (powR p n ++ conR p 0) from by
            rw [show conR p 0 = [] from rfl, List.append_nil]; exact hS.out)
          have HB8 := Lib.hid hB.out
          clear hS hB hlt hk hs
          rename World => w9
          go_wp2_with fail
          go_loopw [4, 7] (fun ov iv wr => ∃ (i : Nat) (s : ByteArray), i ≤ n ∧ iv = .int .i64 (i : Int) ∧ ov = .string s ∧ Hid (s.data.toList = tx p (powR p n ++ conR p i)) ∧ Hid (Below w1.heap.size w1 wr)) (fun _ iv _ => n - (intOf iv).toNat)
          case atStart => exact ⟨0, _, Nat.zero_le _, rfl, rfl, HS8, HB8⟩
          case round =>
            clear HS8 HB8
            obtain ⟨i, s, hi, rfl, rfl, hS, hB⟩ := hrel
            by_cases hlt : i < n
            · have hki : (i : Int) < (n : Int) := by omega
              have hki0 : (0 : Int) ≤ (i : Int) := by omega
              have hi6 : i ≤ 6 := by omega
              obtain ⟨L, hL⟩ : ∃ L, p.cs[i]? = some L := ⟨_, List.getElem?_eq_getElem (by rw [H.out.gd.sh.cl]; exact hlt)⟩
              obtain ⟨hLl, hLr⟩ := H.out.gd.sh.cr i L hL
              have hLb := H.out.cb L (List.mem_of_getElem? hL)
              obtain ⟨ln, hln⟩ : ∃ ln, n - (i + 1) = ln := ⟨_, rfl⟩
              rw [hln] at hLl
              have HLN := Lib.hid hln
              have hln6 : ln ≤ 6 := by omega
              obtain ⟨bC, oC, u, rfl, _, hbu1, hcu1, hsu⟩ := slg_get HV1.out.cs (show p.val.cs[i]? = some (L.map ints) by simp [RP.val, hL])
              obtain ⟨aL, cL, rfl⟩ := slv (n := ln) hsu (by rw [List.length_map]; exact hLl)
              have HSL := Lib.hid hsu
              have HCU := Lib.hid (fun (W : World) (hb : Below w1.heap.size w1 W) => show W.cell? ⟨bC, oC + i, none⟩ = some (.slice aL ln cL) ∧ bC < W.heap.size from ⟨((Keep.of_below (S := fun _ => True) hb).cell trivial hbu1).trans hcu1, Nat.lt_of_lt_of_le hbu1 hb.size⟩)
              have HD := Lib.hid (show p.cs.getD i [] = L from getD_of hL)
              have HLF := Lib.hid (And.intro hLl (And.intro hLr hLb))
              have HS9 := Lib.hid (show s.data.toList = tx p (powR p n ++ conR p i ++ conI p i 0) from by
                rw [show conI p i 0 = [] from rfl, List.append_nil]; exact hS.out)
              have HB9 := Lib.hid hB.out
              have hw1 : IntKind.i64.wrap ((i : Int) + 1) = (i : Int) + 1 := IntWalk.i64_in _ (by omega)
              have hin : i + 1 + ln = n := by omega
              clear hL hLl hLr hLb hln hsu hS hB hbu1 hcu1
              go_wp2_with fail
              go_loopw [4, 8] (fun ov jv wr => ∃ (k : Nat) (s : ByteArray), k ≤ ln ∧ jv = .int .i64 ((i : Int) + 1 + (k : Int)) ∧ ov = .string s ∧ Hid (s.data.toList = tx p (powR p n ++ conR p i ++ conI p i k)) ∧ Hid (Below w1.heap.size w1 wr)) (fun _ jv _ => n - (intOf jv).toNat)
              case atStart => exact ⟨0, _, Nat.zero_le _, by simp, rfl, HS9, HB9⟩
              case round =>
                clear HS9 HB9
                obtain ⟨k, s, hk, rfl, rfl, hS, hB⟩ := hrel
                have hw2 : IntKind.i64.wrap ((i : Int) + 1 + (k : Int)) = (i : Int) + 1 + (k : Int) := IntWalk.i64_in _ (by omega)
                have hw5 : IntKind.i64.wrap ((i : Int) + 1 + (k : Int) + 1) = (i : Int) + 1 + (k : Int) + 1 := IntWalk.i64_in _ (by omega)
                by_cases hlt2 : k < ln
                · have hki2 : (k : Int) < (ln : Int) := by omega
                  have hki20 : (0 : Int) ≤ (k : Int) := by omega
                  obtain ⟨j, hj⟩ : ∃ j, i + 1 + k = j := ⟨_, rfl⟩
                  have hji : (i : Int) + 1 + (k : Int) = (j : Int) := by omega
                  have HJ := Lib.hid hj
                  have hjn : j < n := by omega
                  have hjn' : (j : Int) < (n : Int) := by omega
                  have hji' : i < j := by omega
                  rw [hji] at hw2 hw5 ⊢
                  have HJI := Lib.hid hji
                  have hw3 : IntKind.i64.wrap ((j : Int) - (i : Int)) = (j : Int) - (i : Int) := IntWalk.i64_in _ (by omega)
                  have hw4 : IntKind.i64.wrap ((j : Int) - (i : Int) - 1) = (k : Int) := by rw [IntWalk.i64_in _ (by omega)]; omega
                  have hw6 : IntKind.i64.wrap (j : Int) = (j : Int) := IntWalk.i64_in _ (by omega)
                  have hw7 : IntKind.i64.wrap (i : Int) = (i : Int) := IntWalk.i64_in _ (by omega)
                  obtain ⟨v, hv⟩ : ∃ v, L[k]? = some v := ⟨_, List.getElem?_eq_getElem (by rw [HLF.out.1]; exact hlt2)⟩
                  have hvl := HLF.out.2.1 v (List.mem_of_getElem? hv)
                  have hvb := HLF.out.2.2 v (List.mem_of_getElem? hv)
                  obtain ⟨b', o', u, rfl, _, hbv1, hcv1, hsu⟩ := slg_get HSL.out (show (L.map ints)[k]? = some (ints v) by simp [hv])
                  obtain ⟨au, cu, rfl⟩ := slv (n := n) hsu (by rw [ints_length]; exact hvl)
                  have HSU := Lib.hid hsu
                  have HCV := Lib.hid (fun (W : World) (hb : Below w1.heap.size w1 W) => show W.cell? ⟨b', o' + k, none⟩ = some (.slice au n cu) ∧ b' < W.heap.size from ⟨((Keep.of_below (S := fun _ => True) hb).cell trivial hbv1).trans hcv1, Nat.lt_of_lt_of_le hbv1 hb.size⟩)
                  have HPS := Lib.hid (conI_succ p i k)
                  have HDK := Lib.hid (show (p.cs.getD i []).getD k [] = v from by rw [HD.out]; exact getD_of hv)
                  have HVV := Lib.hid (And.intro hvl hvb)
                  have hsb : s.size ≤ 60000 := by
                    have h1 := tx_len H.out (powR p n ++ conR p i ++ conI p i k) (fun r hr => by
                      rcases List.mem_append.1 hr with hr | hr
                      · rcases List.mem_append.1 hr with hr | hr
                        · exact powR_mem H.out.gd.sh.os (Nat.le_refl _) r hr
                        · exact conR_mem H.out.gd.sh.os (by omega) r hr
                      · exact conI_mem H.out.gd.sh.os hlt (by rw [HLN.out]; omega) r hr)
                    rw [← hS.out] at h1
                    have h2 : s.data.toList.length = s.size := by simp
                    have h3 := powR_len p n
                    have h4 := conR_len p H.out.gd.sh.os i
                    have h5 := conI_len p i k
                    have h6 : i * n ≤ 6 * 6 := Nat.mul_le_mul hi6 hn6
                    simp only [List.length_append] at h1
                    omega
                  clear hv hvl hvb hsu hbv1 hcv1 hj hji
                  go_upto_block 7 with (fail)
                  go_cut [4] (fun v W => ∃ s : ByteArray, v = .string s ∧ Hid (s.data.toList = tx p (powR p n ++ conR p i ++ conI p i (k + 1))) ∧ Hid (Below w1.heap.size w1 W))
                  case rest =>
                    obtain ⟨s', rfl, hS', hB'⟩ := hcut
                    have hjk : (j : Int) + 1 = (i : Int) + 1 + ((k + 1 : Nat) : Int) := by have := HJI.out; omega
                    have HJK := Lib.hid hjk
                    have HM := Lib.hid (show n - (intOf (.int .i64 ((j : Int) + 1))).toNat < n - (intOf (.int .i64 (j : Int))).toNat from by simp [intOf]; omega)
                    clear HSU HCV HPS HDK HVV hsb hS hB hjk
                    go_wp2_with fail
                    go_roundw
                    case rel => exact ⟨k + 1, s', by omega, congrArg (Value.int .i64) HJK.out, rfl, hS', hB'⟩
                    case measure => exact HM.out
                  case first =>
                    obtain ⟨⟨e0, e1, e2⟩, hgl⟩ := HBX.out wr hB.out
                    obtain ⟨hcu, hbu⟩ := HCU.out wr hB.out
                    obtain ⟨hcv, hbv⟩ := HCV.out wr hB.out
                    have HUN := Lib.hid (fun W => (DwB.unit_any n j (by omega) hjn W).mono (R' := fun e w' => ∃ g c, e = .returned (.slice (some ⟨g, 0, none⟩) n c) ∧ SlI (fun _ => True) w' (.slice (some ⟨g, 0, none⟩) n c) (ints (unt n j)) ∧ Below W.heap.size W w') (by
                      rintro e w' ⟨g, c, rfl, ho, hb⟩
                      have hl : (ints ((List.replicate n 0).set j 1)).length = n := by rw [ints_length]; simp
                      rw [hl] at ho ⊢
                      exact ⟨g, c, rfl, (Own.sl ho).mono (fun _ _ => trivial), hb⟩))
                    have HSA := Lib.hid (HSU.out.keep (Keep.of_below hB.out))
                    go_upto_region 22 with fail
                    go_cut [92] (fun x W => ∃ r : Bool, x = .bool r ∧ (r = false ↔ v = unt n j) ∧ Hid (Below w1.heap.size w1 W))
                    case first =>
                      go_region_held3 (fun w' => (∀ b o, b < wr.heap.size → w'.cell? ⟨b, o, none⟩ = wr.cell? ⟨b, o, none⟩) ∧ Keep (fun _ => True) wr w')
                        (first | exact ks_mk (by repeat (first | exact (Keep.refl _ _).drew | exact Keep.refl _ _ | refine Keep.drewN ?_ _ | refine Keep.trans ?_ (Keep.of_below (by assumption)))))
                        (first | (go_at_call 135; refine (HUN.out _).mono ?_; rintro e w5 ⟨g5, c5, rfl, hs5, hb5⟩) | (go_at_call 145; refine (SpecD.same_any _ _ _ (ints v) _ (HSA.out.keep (by repeat (first | exact (Keep.refl _ _).drew | exact Keep.refl _ _ | refine Keep.drewN ?_ _ | refine Keep.trans ?_ (Keep.of_below (by assumption))))) hs5).mono ?_; rintro e w8 ⟨rfl, n7, rfl⟩))
                      have h7 : Below wr.heap.size wr (w5.drewN n7) := below_drewN (by repeat (first | exact Below.refl _ _ | exact (Below.refl _ _).drew | refine stepB ?_ (Nat.le_refl _) (by assumption))) _
                      have HB2 := Lib.hid (hB.out.trans (h7.mono hB.out.size))
                      clear h7
                      go_wp2_with fail
                      go_meet
                      refine ⟨_, rfl, ?_, HB2⟩
                      rw [ints_dec]
                      by_cases hz : v = unt n j
                      · simp [hz]
                      · simp [hz]
                    case rest =>
                      obtain ⟨r, rfl, hr, hBm⟩ := hcut
                      rename World => wr
                      clear hB e0 e1 e2 hgl hcu hbu hcv hbv HSA
                      have hB := hBm
                      clear hBm
                      cases r with
                      | false =>
                        have HN := Lib.hid (show conI p i (k + 1) = conI p i k from by
                          rw [HPS.out]; unfold cjF
                          rw [HDK.out, H.out.gd.sh.os, HJ.out, if_pos (hr.1 rfl)]; simp)
                        clear hr
                        go_wp2_with fail
                        go_meet
                        exact ⟨s, rfl, Lib.hid (by rw [HN.out]; exact hS.out), hB⟩
                      | true =>
                        have HN := Lib.hid (show conI p i (k + 1) = conI p i k ++ [⟨j, some i, v⟩] from by
                          rw [HPS.out]; unfold cjF
                          rw [HDK.out, H.out.gd.sh.os, HJ.out, if_neg (fun h => absurd (hr.2 h) (by simp))]; rfl)
                        obtain ⟨⟨e0, e1, e2⟩, hgl⟩ := HBX.out wr hB.out
                        obtain ⟨hcu, hbu⟩ := HCU.out wr hB.out
                        obtain ⟨hcv, hbv⟩ := HCV.out wr hB.out
                        have HNW := Lib.hid (fun W (hk : Keep (fun _ => True) wr W) => snw_any au n cu v HVV.out.1 (by omega) HVV.out.2 W ((HSU.out.keep (Keep.of_below hB.out)).keep hk))
                        have HLE := Lib.hid (fun W => let_one j (by omega) W)
                        have HLI := Lib.hid (fun W => let_one i (by omega) W)
                        have HWL := Lib.hid (show ∀ s : ByteArray, s.data.toList = wtx v → s.size ≤ 1000 from fun s hs => by
                          have h1 := wtx_len v HVV.out.2
                          rw [HVV.out.1] at h1
                          have h2 := congrArg List.length hs
                          have h3 : s.data.toList.length = s.size := by simp
                          omega)
                        have HNP := Lib.hid (show (nwF 0 v).length ≤ 100000 ∧ (∀ x ∈ nwF 0 v, 1 ≤ x ∧ x ≤ 100) from ⟨by
                          have := nwF_len v 0 100 HVV.out.2
                          rw [HVV.out.1] at this
                          omega, fun x hx => by
                          obtain ⟨i, hi, rfl⟩ := nwF_mem v 0 x hx
                          rw [HVV.out.1] at hi
                          omega⟩)
                        have c0 : (9223372036854775807 < s.size + 2) = False := eq_false (by omega)
                        have c1 : (9223372036854775807 < s.size + 2 + 1) = False := eq_false (by omega)
                        have c2 : (9223372036854775807 < s.size + 2 + 1 + 1) = False := eq_false (by omega)
                        have c3 : (9223372036854775807 < s.size + 2 + 1 + 1 + 1) = False := eq_false (by omega)
                        have c4 : (9223372036854775807 < s.size + 2 + 1 + 1 + 1 + 1) = False := eq_false (by omega)
                        clear hr HPS HDK
                        go_upto_region 23 with fail
                        go_region_held3 (fun w' => (∀ b o, b < wr.heap.size → w'.cell? ⟨b, o, none⟩ = wr.cell? ⟨b, o, none⟩) ∧ Keep (fun _ => True) wr w')
                          (first | exact ks_mk (by repeat (first | exact (Keep.refl _ _).drew | exact Keep.refl _ _ | refine Keep.drewN ?_ _ | refine Keep.trans ?_ (Keep.of_below (by assumption)))))
                          (first | (go_at_call_of 142 j; refine (HLE.out _).mono ?_; rintro e wa ⟨sa, rfl, hsa, hza, hba⟩) | (go_at_call_of 142 i; refine (HLI.out _).mono ?_; rintro e wb ⟨sx, rfl, hsx, hzx, hbx⟩) | (go_at_call 144; refine (HNW.out _ (by repeat (first | exact (Keep.refl _ _).drew | exact Keep.refl _ _ | refine Keep.drewN ?_ _ | refine Keep.trans ?_ (Keep.of_below (by assumption))))).mono ?_; rintro e w6 ⟨u6, rfl, ho6, hb6⟩; obtain ⟨a6, c6, rfl, _, _, _⟩ := owns_form ho6) | (go_at_call 143; refine (stext_any a6 _ c6 (nwF 0 v) rfl HNP.out.1 HNP.out.2 _ ((Own.sl ho6).mono fun _ _ => trivial)).mono ?_; rintro e w7 ⟨s7, rfl, hs7, hb7⟩; rw [wtI_nw] at hs7; have hs7s := HWL.out s7 hs7; have hs7c : (9223372036854775807 < s.size + 2 + 1 + 1 + 1 + 1 + s7.size) = False := eq_false (by omega)))
                        have h7 : Below wr.heap.size wr w7 := (by repeat (first | exact Below.refl _ _ | exact (Below.refl _ _).drew | refine stepB ?_ (Nat.le_refl _) (by assumption)))
                        have HS2 := Lib.hid (show (((((((s ++ ⟨#[59, 32]⟩) ++ sa) ++ ⟨#[94]⟩) ++ sx) ++ ⟨#[61]⟩) ++ s7) : ByteArray).data.toList = tx p (powR p n ++ conR p i ++ conI p i (k + 1)) from by
                          rw [HN.out, ← List.append_assoc]
                          exact rel_bytes2 s sa sx s7 p (powR p n ++ conR p i ++ conI p i k) ⟨j, some i, v⟩ hS.out hsa hsx hs7)
                        have HB2 := Lib.hid (hB.out.trans (h7.mono hB.out.size))
                        clear h7 hsa hsx hs7
                        go_wp2_with fail
                        go_meet
                        exact ⟨_, rfl, HS2, HB2⟩
                · obtain rfl : ln = k := by omega
                  have hjn' : ¬ (i : Int) + 1 + (ln : Int) < (n : Int) := by omega
                  have HS5 := Lib.hid (show s.data.toList = tx p (powR p n ++ conR p (i + 1)) from by
                    rw [conR_succ, H.out.gd.sh.os, HLN.out, ← List.append_assoc]; exact hS.out)
                  have HB5 := hB
                  clear hS hB
                  go_wp2_with fail
                  go_roundw
                  case rel => exact ⟨i + 1, s, by omega, by go_num, rfl, HS5, HB5⟩
                  case measure => simp [intOf]; omega
            · obtain rfl : n = i := by omega
              have HF := Lib.hid (show TxR (txt p) w (.returned (.string s)) wr from ⟨_, rfl, by
                rw [hS.out, show powR p n ++ conR p n = rels p from by unfold rels; rw [H.out.gd.sh.os], tx_txt], HB1.out.trans (hB.out.mono HB1.out.size)⟩)
              clear hS hB
              go_wp2_with fail
              go_ret
              exact HF.out
end Go.Proofs.YtbamkklhkhglnaaGreatDoor.TwF

/-
  spec.ParsePresentation, with values.
-/
namespace Go.Proofs.YtbamkklhkhglnaaGreatDoor.TsG
open Go.RowKit Go.Lib Go.Proofs.YtbamkklhkhglnaaGreatDoor Go.Proofs.YtbamkklhkhglnaaGreatDoor.Tow Go.Proofs.YtbamkklhkhglnaaGreatDoor.CyA Go.Proofs.YtbamkklhkhglnaaGreatDoor.SplitPlain Go.Proofs.YtbamkklhkhglnaaGreatDoor.TxA Go.Proofs.YtbamkklhkhglnaaGreatDoor.TxB Go.Proofs.YtbamkklhkhglnaaGreatDoor.TxC Go.Proofs.YtbamkklhkhglnaaGreatDoor.TmA Go.Proofs.YtbamkklhkhglnaaGreatDoor.TmB Go.Proofs.YtbamkklhkhglnaaGreatDoor.TiA Go.Proofs.YtbamkklhkhglnaaGreatDoor.TiB Go.Proofs.YtbamkklhkhglnaaGreatDoor.TwC Go.Proofs.YtbamkklhkhglnaaGreatDoor.TrA Go.Proofs.YtbamkklhkhglnaaGreatDoor.TsC Go.Proofs.YtbamkklhkhglnaaGreatDoor.TsD Go.Proofs.YtbamkklhkhglnaaGreatDoor.TsF Go.Proofs.YtbamkklhkhglnaaGreatDoor.TrB Go.Proofs.YtbamkklhkhglnaaGreatDoor.Val Go.Proofs.YtbamkklhkhglnaaGreatDoor.TsE
open Go.Proofs.YtbamkklhkhglnaaGreatDoor.DwB (row3f put3 infoR3)
set_option linter.unusedVariables false
set_option linter.unusedSimpArgs false

theorem cmpn_iff {a b : ByteArray} {t u : List UInt8} (ha : a.data.toList = t) (hb : b.data.toList = u) : (!a.toList == b.toList) = false ↔ t = u := by
  rw [toList_data, toList_data, ha, hb]
  simp
/-- the answer of the spec's reader -/
def PaR (t : List UInt8) (w : World) (e : Ending) (w' : World) : Prop := ∃ vO vP vC b, e = .returned (.tuple #[.agg #[vO, vP, vC], .int .i64 (if b = true then 0 else 6)]) ∧ RdN t w b vO vP vC w' ∧ Below w.heap.size w w'
set_option maxRecDepth 100000 in
set_option maxHeartbeats 4000000 in
theorem parse_any (s : ByteArray) (hs : s.size ≤ 100000000) (w : World) :
    Calls Tryz.prog 85 #[.string s] w (PaR s.data.toList w) := by
  obtain ⟨g0, hg0⟩ : ∃ g0, w.heap.size = g0 := ⟨_, rfl⟩
  obtain ⟨w1, hw1⟩ : ∃ w1, w1 = w.alloc (.cells #[nilS, nilS, nilS] 91) := ⟨_, rfl⟩
  have HG0 := Lib.hid hg0
  have HB1 := Lib.hid (show Below w.heap.size w w1 by rw [hw1]; exact (Below.refl _ _).alloc (Nat.le_refl _) _)
  have HS1 := Lib.hid (show w1.heap.size = g0 + 1 by rw [hw1, ← hg0]; simp)
  have HR := Lib.hid (fun (W : World) (hb : Below w1.heap.size w1 W) => show W.heap[g0]? = some (.cells #[nilS, nilS, nilS] 91 (0, 0)) ∧ g0 < W.heap.size from by
    have e : w1.heap[g0]? = some (.cells #[nilS, nilS, nilS] 91 (0, 0)) := by rw [hw1, ← hg0]; exact heap_alloc_new _ _
    exact ⟨(hb.block g0 (by rw [HS1.out]; omega)).trans e, by have := hb.size; rw [HS1.out] at this; omega⟩)
  have HF := Lib.hid (fun (W : World) (hb : Below w1.heap.size w1 W) (hn : ¬ ∃ p, Vl p ∧ txt p = s.data.toList) => show PaR s.data.toList w (.returned (.tuple #[.agg #[nilS, nilS, nilS], .int .i64 6])) (((W.setCell ⟨g0, 0, none⟩ nilS).setCell ⟨g0, 1, none⟩ nilS).setCell ⟨g0, 2, none⟩ nilS) from
    ⟨_, _, _, false, rfl, ⟨.inr ⟨rfl, hn⟩, fun _ => ⟨rfl, rfl, rfl⟩⟩, res_below hg0.symm (HB1.out.trans (hb.mono (by rw [HS1.out]; omega))) _ _ _⟩)
  obtain ⟨L, hL⟩ : ∃ L, parts s 59 = L := ⟨_, rfl⟩
  have HSP := Lib.hid (fun W => Split.split_any s 59 W (by omega))
  have hpl := parts_length_le s 59
  have hp1 := parts_length_pos s 59
  have HSZ := Lib.hid (show ∀ x ∈ L, x.size ≤ s.size from by rw [← hL]; exact parts_size s 59)
  have HSL := Lib.hid (show L.map (·.data.toList) = spL 59 s.data.toList from by rw [← hL]; exact parts_list s 59)
  rw [hL] at HSP hpl hp1
  obtain ⟨m, hm⟩ : ∃ m, L.length = m := ⟨_, rfl⟩
  rw [hm] at HSP hpl hp1
  have HLM := Lib.hid hm
  have h59 : ((59 : UInt8).toNat : Int) = 59 := rfl
  rw [h59] at HSP
  have hm64 : (m : Int) ≤ 100000001 := by omega
  obtain ⟨x0, Lr, rfl⟩ : ∃ x0 Lr, L = x0 :: Lr := by
    match L, hm with
    | [], h => simp at h; omega
    | x :: r, _ => exact ⟨x, r, rfl⟩
  have HT := Lib.hid (show readS s.data.toList = match ordS x0.data.toList with
      | none => none
      | some os => (Lr.map (·.data.toList)).foldlM (stepS os.length) (triv os) from by
    unfold readS
    rw [← HSL.out]
    simp only [List.map_cons]
    cases ordS x0.data.toList <;> rfl)
  have hx0 : x0.size ≤ 100000000 := Nat.le_trans (HSZ.out x0 (by simp)) hs
  have HOR := Lib.hid (fun W => orders_any x0 hx0 W)
  clear hL hm h59
  go_enter Tryz.func85, Tryz.ntmps85
  go_upto_region 1 with fail
  rw [← hw1]
  clear hw1 hg0
  go_upto_region 2 with (first | (go_at_call 104; refine (HSP.out _).mono ?_; rintro e w2 ⟨v, rfl, hO, hb2⟩) | fail)
  obtain ⟨av, cv, rfl, _⟩ := owns_form hO
  have HB2 := Lib.hid (show Below w1.heap.size w1 w2 from hb2)
  have HL := Lib.hid (fun (W : World) (hb : Below w2.heap.size w2 W) (k : Nat) (x : ByteArray) (hk : (x0 :: Lr)[k]? = some x) => show ∃ g, av = some ⟨g, 0, none⟩ ∧ W.cell? ⟨g, k, none⟩ = some (.string x) ∧ g < W.heap.size from by
    obtain ⟨g, c', he, hc1, hgl⟩ := str_at hO hk
    obtain ⟨rfl, rfl⟩ : av = some ⟨g, 0, none⟩ ∧ cv = c' := by simpa using he
    exact ⟨g, rfl, (hb.cell (p := ⟨g, k, none⟩) hgl).trans hc1, Nat.lt_of_lt_of_le hgl hb.size⟩)
  obtain ⟨g, rfl, q0, hgl⟩ := HL.out w2 (Below.refl _ _) 0 x0 rfl
  have HLg := Lib.hid (fun (W : World) (hb : Below w2.heap.size w2 W) (k : Nat) (x : ByteArray) (hk : (x0 :: Lr)[k]? = some x) => show W.cell? ⟨g, k, none⟩ = some (.string x) ∧ g < W.heap.size from by
    obtain ⟨g', eg, h1, h2⟩ := HL.out W hb k x hk
    obtain rfl : g = g' := by simpa using eg
    exact ⟨h1, h2⟩)
  clear hO hb2 HSP HL
  go_upto_region 3 with (first | (go_at_call 105; refine (HOR.out _).mono ?_; rintro e w3 ⟨vo, b3, rfl, hb3, hc3⟩) | fail)
  have HB23 := Lib.hid (show Below w2.heap.size w2 w3 from hb3)
  have HB3 := Lib.hid (show Below w1.heap.size w1 w3 from HB2.out.trans (hb3.mono HB2.out.size))
  clear q0 hgl
  cases b3 with
  | false =>
    have HN := Lib.hid (readS_none (t := s.data.toList) (by
      rw [HT.out]
      rcases hc3 with ⟨h, _⟩ | ⟨_, h⟩
      · exact absurd h (by simp)
      · rw [h]))
    clear hc3 hb3
    obtain ⟨⟨e0, e1, e2⟩, f0, f1, f2⟩ := row3f (HR.out w3 HB3.out).1
    have hgr := (HR.out w3 HB3.out).2
    go_wp2_with fail
    obtain ⟨⟨z0, z1, z2⟩, -⟩ := row3f (put3 (x := nilS) (y := nilS) (z := nilS) (HR.out w3 HB3.out).1)
    exact bodyPost_ret (v := .tuple #[.agg #[nilS, nilS, nilS], .int .i64 6]) (by simp [results, Tryz.results85, go_sem, z0, z1, z2]) rfl (HF.out w3 HB3.out HN.out)
  | true =>
    obtain ⟨os, hos, hown⟩ : ∃ os, ordS x0.data.toList = some os ∧ Own w2.heap.size w3 vo os := by
      rcases hc3 with ⟨_, h⟩ | ⟨h, _⟩
      · exact h
      · exact absurd h (by simp)
    obtain ⟨hprs, hl6⟩ := ordS_ok hos
    have HPR := Lib.hid hprs
    obtain ⟨n, hn⟩ : ∃ n, os.length = n := ⟨_, rfl⟩
    have HN0 := Lib.hid hn
    have HSH := Lib.hid (show Sh n (triv os) from by have := Sh.triv os; rwa [hn] at this)
    have HTV := Lib.hid ((triv_any os vo w3 (hown.sl.mono fun _ _ => trivial) (by omega)).mono (R' := fun e w' => ∃ x1 y1 x2 y2 x3 y3, e = .returned (.agg #[.slice x1 n y1, .slice x2 n y2, .slice x3 n y3]) ∧ PP w3.heap.size w' (.slice x1 n y1) (.slice x2 n y2) (.slice x3 n y3) (triv os) ∧ Below w3.heap.size w3 w') (by
      rintro e w' ⟨vO, vP, vC, rfl, hp, hb⟩
      obtain ⟨x1, y1, x2, y2, x3, y3, e1, e2, e3⟩ := PP.form hp
      rw [HSH.out.os] at e1
      rw [HSH.out.pl] at e2
      rw [HSH.out.cl] at e3
      subst e1
      subst e2
      subst e3
      exact ⟨_, _, _, _, _, _, rfl, hp, hb⟩))
    have HT2 := Lib.hid (show readS s.data.toList = (Lr.map (·.data.toList)).foldlM (stepS n) (triv os) from by rw [HT.out, hos, ← hn])
    rw [hn] at hl6
    clear hc3 hb3 hos hown hprs hn
    obtain ⟨mr, rfl⟩ : ∃ mr, m = mr + 1 := ⟨m - 1, by omega⟩
    have hmr : (mr : Int) ≤ 100000000 := by omega
    have HML := Lib.hid (show Lr.length = mr from by have := HLM.out; simpa using this)
    go_upto_region 6 with (first | (go_at_call 106; refine HTV.out.mono ?_; rintro e w4 ⟨x1, y1, x2, y2, x3, y3, rfl, hpp, hb4⟩) | fail)
    obtain ⟨g7, hg⟩ : ∃ g7, w4.heap.size = g7 := ⟨_, rfl⟩
    obtain ⟨w5, hw5⟩ : ∃ w5, w5 = w4.alloc (.cells #[.slice x1 n y1, .slice x2 n y2, .slice x3 n y3] 91) := ⟨_, rfl⟩
    rw [← hw5, hg]
    have HB35 := Lib.hid (show Below w3.heap.size w3 w5 by rw [hw5]; exact hb4.alloc hb4.size _)
    have HI := Lib.hid (show w5.heap[g7]? = some (.cells #[.slice x1 n y1, .slice x2 n y2, .slice x3 n y3] 91 (0, 0)) ∧ PP w3.heap.size w5 (.slice x1 n y1) (.slice x2 n y2) (.slice x3 n y3) (triv os) from ⟨by rw [hw5, ← hg]; exact heap_alloc_new _ _, by rw [hw5]; exact hpp.below ((Below.refl _ _).alloc (Nat.le_refl _) _)⟩)
    have HGW := Lib.hid (show w3.heap.size ≤ g7 ∧ g7 < w5.heap.size from by rw [hw5, ← hg]; have := hb4.size; simp; omega)
    clear hw5 hg hpp hb4 HTV HOR
    go_wp2_with fail
    go_loopw [8] (fun iv wr => ∃ (k : Nat), k ≤ mr ∧ iv = .int .i64 ((k : Int) + 1) ∧ Hid (∃ q x1 y1 x2 y2 x3 y3, wr.heap[g7]? = some (.cells #[.slice x1 n y1, .slice x2 n y2, .slice x3 n y3] 91 (0, 0)) ∧ PP w3.heap.size wr (.slice x1 n y1) (.slice x2 n y2) (.slice x3 n y3) q ∧ Sh n q ∧ q.os = os ∧ ((Lr.map (·.data.toList)).take k).foldlM (stepS n) (triv os) = some q) ∧ Hid (Below w3.heap.size w3 wr)) (fun iv _ => mr + 1 - (intOf iv).toNat)
    case atStart => exact ⟨0, Nat.zero_le _, rfl, Lib.hid ⟨triv os, x1, y1, x2, y2, x3, y3, HI.out.1, HI.out.2, HSH.out, rfl, rfl⟩, HB35⟩
    case round =>
      clear HI HB35
      obtain ⟨k, hk, rfl, hQ, hB⟩ := hrel
      obtain ⟨q, X1, Y1, X2, Y2, X3, Y3, hq1, hq2, hq3, hq4, hq5⟩ := hQ.out
      have HB1r := Lib.hid (show Below w1.heap.size w1 wr from HB3.out.trans (hB.out.mono HB3.out.size))
      obtain ⟨⟨d0, d1, d2⟩, -⟩ := row3f hq1
      have hg7l : g7 < wr.heap.size := (Array.getElem?_eq_some_iff.1 hq1).1
      by_cases hlt : k < mr
      · have hki : (k : Int) + 1 < (mr : Int) + 1 := by omega
        obtain ⟨x, hx⟩ : ∃ x, Lr[k]? = some x := ⟨_, List.getElem?_eq_getElem (by rw [HML.out]; exact hlt)⟩
        have hxs : x.size ≤ 100000000 := Nat.le_trans (HSZ.out x (List.mem_cons_of_mem _ (List.mem_of_getElem? hx))) hs
        obtain ⟨hc, hcl⟩ := HLg.out wr (HB23.out.trans (hB.out.mono HB23.out.size)) (k + 1) x (by simpa using hx)
        have HXM := Lib.hid (show (Lr.map (·.data.toList))[k]? = some x.data.toList by simp [hx])
        have HRE := Lib.hid (fun (W : World) (hb : Below wr.heap.size wr W) => rel_any n (by omega) q hq3 (by rw [hq4]; exact HPR.out) x hxs X1 X2 X3 Y1 Y2 Y3 W ((hq2.val.mono (S' := Any) fun _ _ => trivial).keep (Keep.of_below hb)))
        have HQ := Lib.hid (And.intro hq1 (And.intro hq2 (And.intro hq3 (And.intro hq4 hq5))))
        clear hq1 hq2 hq3 hq4 hq5 hQ hx
        cases hst : stepS n q x.data.toList with
        | none =>
          have HST := Lib.hid hst
          have HN := Lib.hid (readS_none (t := s.data.toList) (by rw [HT2.out]; exact foldlM_bad HQ.out.2.2.2.2 HXM.out hst))
          clear hst
          go_upto_region 9 with fail
          go_cut [6] (fun v W => v = .bool false ∧ Hid (Below w1.heap.size w1 W))
          case first =>
            have hk0 : ((0 : Int) ≤ (k : Int) + 1) = True := eq_true (by omega)
            go_region_law
              (first | (go_simp; go_at_call 107; refine (HRE.out _ (by first | exact Below.refl _ _ | exact (Below.refl _ _).drew)).mono ?_; rintro e w6 ⟨vO, vP, vC, b, rfl, hb6, hc6⟩; obtain ⟨rfl, a1, c1, a2, c2, a3, c3, rfl, rfl, rfl⟩ : b = false ∧ ∃ a1 c1 a2 c2 a3 c3, vO = .slice a1 n c1 ∧ vP = .slice a2 n c2 ∧ vC = .slice a3 n c3 := (by rcases hc6 with ⟨_, _, h, _⟩ | ⟨h, _, h2⟩; rw [HST.out] at h; cases h; exact ⟨h, h2⟩); have HB6 := Lib.hid (show Below wr.heap.size wr w6 from (by first | exact hb6 | exact ((Below.refl _ _).drew).trans hb6)); have hg6 : g7 < w6.heap.size := Nat.lt_of_lt_of_le hg7l HB6.out.size; obtain ⟨⟨k0, k1, k2⟩, i0, i1, i2⟩ := row3f ((HB6.out.block g7 hg7l).trans HQ.out.1); clear hc6 hb6) | (fail))
            all_goals
              go_wp2_with fail
              go_meet
              exact ⟨rfl, Lib.hid (by
                have h1 : Below w1.heap.size w1 w6 := HB1r.out.trans (HB6.out.mono HB1r.out.size)
                have h2 : w1.heap.size ≤ g7 := Nat.le_trans HB3.out.size HGW.out.1
                exact ((h1.setCell (p := ⟨g7, 0, none⟩) h2 _).setCell (p := ⟨g7, 1, none⟩) h2 _).setCell (p := ⟨g7, 2, none⟩) h2 _)⟩
          case rest =>
            obtain ⟨rfl, HB7⟩ := hcut
            rename World => w7
            obtain ⟨⟨e0, e1, e2⟩, f0, f1, f2⟩ := row3f (HR.out w7 HB7.out).1
            have hgr := (HR.out w7 HB7.out).2
            go_wp2_with fail
            obtain ⟨⟨z0, z1, z2⟩, -⟩ := row3f (put3 (x := nilS) (y := nilS) (z := nilS) (HR.out w7 HB7.out).1)
            exact bodyPost_ret (v := .tuple #[.agg #[nilS, nilS, nilS], .int .i64 6]) (by simp [results, Tryz.results85, go_sem, z0, z1, z2]) rfl (HF.out w7 HB7.out HN.out)
        | some q2 =>
          have HST := Lib.hid hst
          have HS2 := Lib.hid (stepS_sh HQ.out.2.2.1 hst)
          have HFO := Lib.hid (show ((Lr.map (·.data.toList)).take (k + 1)).foldlM (stepS n) (triv os) = some q2 from by rw [foldlM_take HQ.out.2.2.2.2 HXM.out]; exact hst)
          clear hst
          go_upto_region 9 with fail
          go_cut [6] (fun v W => v = .bool true ∧ Hid (∃ x1 y1 x2 y2 x3 y3, W.heap[g7]? = some (.cells #[.slice x1 n y1, .slice x2 n y2, .slice x3 n y3] 91 (0, 0)) ∧ PP w3.heap.size W (.slice x1 n y1) (.slice x2 n y2) (.slice x3 n y3) q2) ∧ Hid (Below w3.heap.size w3 W))
          case first =>
            have hk0 : ((0 : Int) ≤ (k : Int) + 1) = True := eq_true (by omega)
            go_region_law
              (first | (go_simp; go_at_call 107; refine (HRE.out _ (by first | exact Below.refl _ _ | exact (Below.refl _ _).drew)).mono ?_; rintro e w6 ⟨vO, vP, vC, b, rfl, hb6, hc6⟩; obtain ⟨rfl, hpp⟩ : b = true ∧ PP (World.heap _).size w6 vO vP vC q2 := (by rcases hc6 with ⟨h, q', h1, h2⟩ | ⟨_, h, _⟩; rw [HST.out] at h1; cases h1; exact ⟨h, h2⟩; rw [HST.out] at h; cases h); have HB6 := Lib.hid (show Below wr.heap.size wr w6 from (by first | exact hb6 | exact ((Below.refl _ _).drew).trans hb6)); obtain ⟨a1, c1, a2, c2, a3, c3, e1, e2, e3⟩ := PP.form hpp; rw [HS2.out.1.os] at e1; rw [HS2.out.1.pl] at e2; rw [HS2.out.1.cl] at e3; subst e1; subst e2; subst e3; have HPP := Lib.hid (show PP wr.heap.size w6 _ _ _ q2 from (by first | exact hpp | (simpa using hpp))); have hg6 : g7 < w6.heap.size := Nat.lt_of_lt_of_le hg7l HB6.out.size; have HBX := Lib.hid ((HB6.out.block g7 hg7l).trans HQ.out.1); obtain ⟨⟨k0, k1, k2⟩, i0, i1, i2⟩ := row3f HBX.out; clear hc6 hb6) | (fail))
            all_goals
              go_wp2_with fail
              go_meet
              have h1 : Below w3.heap.size w3 w6 := hB.out.trans (HB6.out.mono hB.out.size)
              have h2 : w3.heap.size ≤ g7 := HGW.out.1
              have h3 : ¬ wr.heap.size ≤ g7 := by omega
              exact ⟨rfl, Lib.hid ⟨_, _, _, _, _, _, put3 HBX.out, (HPP.out.keep (S := fun k => wr.heap.size ≤ k) ((((Keep.refl _ _).setCell (p := ⟨g7, 0, none⟩) h3 _).setCell (p := ⟨g7, 1, none⟩) h3 _).setCell (p := ⟨g7, 2, none⟩) h3 _) (fun _ h => h)).mono hB.out.size⟩,
                Lib.hid (((h1.setCell (p := ⟨g7, 0, none⟩) h2 _).setCell (p := ⟨g7, 1, none⟩) h2 _).setCell (p := ⟨g7, 2, none⟩) h2 _)⟩
          case rest =>
            obtain ⟨rfl, HP7, HB7⟩ := hcut
            rename World => w7
            clear HRE hg7l hc hcl d0 d1 d2
            go_wp2_with fail
            go_roundw
            case rel => exact ⟨k + 1, by omega, by go_num, Lib.hid (by obtain ⟨x1, y1, x2, y2, x3, y3, h1, h2⟩ := HP7.out; exact ⟨q2, x1, y1, x2, y2, x3, y3, h1, h2, HS2.out.1, HS2.out.2.trans HQ.out.2.2.2.1, HFO.out⟩), HB7⟩
            case measure => simp [intOf]; omega
      · obtain rfl : mr = k := by omega
        have HFU := Lib.hid (show readS s.data.toList = some q from by
          rw [HT2.out, ← hq5, List.take_of_length_le (by simp [HML.out])])
        have HPQ := Lib.hid (And.intro hq2 hq3)
        have HQW := Lib.hid (fun (W : World) (hb : Below wr.heap.size wr W) => show W.heap[g7]? = some (.cells #[.slice X1 n Y1, .slice X2 n Y2, .slice X3 n Y3] 91 (0, 0)) ∧ g7 < W.heap.size from ⟨(hb.block g7 hg7l).trans hq1, Nat.lt_of_lt_of_le hg7l hb.size⟩)
        have HVW := Lib.hid (fun (W : World) (hb : Below wr.heap.size wr W) => show ValP Any W (.slice X1 n Y1) (.slice X2 n Y2) (.slice X3 n Y3) q.val from (hq2.val.mono (S' := Any) fun _ _ => trivial).keep (Keep.of_below hb))
        have HIP := Lib.hid (fun (W : World) (hb : Below wr.heap.size wr W) => SpecW.isPres_any W _ _ _ q.val (HVW.out W hb))
        have HTX := Lib.hid (fun (hv : Vl q) (W : World) (hb : Below wr.heap.size wr W) => TwF.stxt_any _ q hv.ok _ _ _ W (HVW.out W hb))
        have HBA := Lib.hid (fun (W : World) (hb : Below wr.heap.size wr W) => show Below w1.heap.size w1 W from HB1r.out.trans (hb.mono HB1r.out.size))
        have hki : ¬ (mr : Int) + 1 < (mr : Int) + 1 := by omega
        have H31 := Lib.hid (show w1.heap.size ≤ w3.heap.size from HB3.out.size)
        clear hq1 hq2 hq3 hq4 hq5 hQ hk hlt HML
        go_upto_region 12 with fail
        go_cut [49] (fun v W => (∃ b, v = .bool b ∧ (b = false ↔ Vl q ∧ txt q = s.data.toList)) ∧ Hid (Below wr.heap.size wr W))
        case first =>
          by_cases hv : Vl q
          · have HV := Lib.hid hv
            clear hv
            go_wp2_with (first | (go_at_call 108; refine (HIP.out _ (Below.refl _ _)).mono ?_; rintro e w6 ⟨r, rfl, hr, hb6⟩; obtain rfl : r = true := hr.2 HV.out; have HB6 := Lib.hid hb6; clear hr hb6; obtain ⟨⟨d0, d1, d2⟩, -⟩ := row3f (HQW.out w6 HB6.out).1; have hg7l := (HQW.out w6 HB6.out).2) | (go_at_call 109; refine (HTX.out HV.out _ HB6.out).mono ?_; rintro e w7 ⟨st, rfl, hst, hb7⟩; have HB7 := Lib.hid (HB6.out.trans (hb7.mono HB6.out.size)); have HS := Lib.hid hst; clear hst hb7))
            go_meet
            exact ⟨⟨_, rfl, (cmpn_iff HS.out rfl).trans ⟨fun h => ⟨HV.out, h⟩, fun h => h.2⟩⟩, HB7⟩
          · have HV := Lib.hid hv
            clear hv
            go_wp2_with (go_at_call 108; refine (HIP.out _ (Below.refl _ _)).mono ?_; rintro e w6 ⟨r, rfl, hr, hb6⟩; obtain rfl : r = false := (by cases r with | false => rfl | true => exact absurd (hr.1 rfl) HV.out); have HB6 := Lib.hid hb6; clear hr hb6; obtain ⟨⟨d0, d1, d2⟩, -⟩ := row3f (HQW.out w6 HB6.out).1; have hg7l := (HQW.out w6 HB6.out).2)
            go_meet
            exact ⟨⟨_, rfl, fun h => by simp at h, fun h => absurd h.1 HV.out⟩, HB6⟩
        case rest =>
          obtain ⟨⟨b, rfl, hb⟩, HB8⟩ := hcut
          rename World => w8
          cases b with
          | true =>
            have HN := Lib.hid (readS_some HFU.out fun h => absurd (hb.2 h) (by simp))
            clear hb
            obtain ⟨⟨e0, e1, e2⟩, f0, f1, f2⟩ := row3f (HR.out w8 (HBA.out w8 HB8.out)).1
            have hgr := (HR.out w8 (HBA.out w8 HB8.out)).2
            go_wp2_with fail
            obtain ⟨⟨z0, z1, z2⟩, -⟩ := row3f (put3 (x := nilS) (y := nilS) (z := nilS) (HR.out w8 (HBA.out w8 HB8.out)).1)
            exact bodyPost_ret (v := .tuple #[.agg #[nilS, nilS, nilS], .int .i64 6]) (by simp [results, Tryz.results85, go_sem, z0, z1, z2]) rfl (HF.out w8 (HBA.out w8 HB8.out) HN.out)
          | false =>
            have HY := Lib.hid (hb.1 rfl)
            clear hb
            obtain ⟨⟨e0, e1, e2⟩, f0, f1, f2⟩ := row3f (HR.out w8 (HBA.out w8 HB8.out)).1
            have hgr := (HR.out w8 (HBA.out w8 HB8.out)).2
            obtain ⟨⟨d0, d1, d2⟩, -⟩ := row3f (HQW.out w8 HB8.out).1
            have hg7l := (HQW.out w8 HB8.out).2
            have hne : ¬ g7 = g0 := by have h1 := HS1.out; have h2 := H31.out; have h3 := HGW.out.1; omega
            go_wp2_with fail
            obtain ⟨⟨z0, z1, z2⟩, -⟩ := row3f (put3 (x := .slice X1 n Y1) (y := .slice X2 n Y2) (z := .slice X3 n Y3) (HR.out w8 (HBA.out w8 HB8.out)).1)
            have hk : ¬ w3.heap.size ≤ g0 := by have h1 := HS1.out; have h2 := H31.out; omega
            exact bodyPost_ret (v := .tuple #[.agg #[.slice X1 n Y1, .slice X2 n Y2, .slice X3 n Y3], .int .i64 0]) (by simp [results, Tryz.results85, go_sem, z0, z1, z2]) rfl
              ⟨_, _, _, true, rfl, ⟨.inl ⟨rfl, q, HY.out.1, HY.out.2, ((HPQ.out.1.keep (S := Any) (Keep.of_below HB8.out) fun _ _ => trivial).keep (S := fun k => w3.heap.size ≤ k) ((((Keep.refl _ _).setCell (p := ⟨g0, 0, none⟩) hk _).setCell (p := ⟨g0, 1, none⟩) hk _).setCell (p := ⟨g0, 2, none⟩) hk _) (fun _ h => h)).mono (by have h1 := HS1.out; have h2 := H31.out; have h3 := HG0.out; omega)⟩, fun h => by simp at h⟩,
                res_below HG0.out.symm (HB1.out.trans ((HBA.out w8 HB8.out).mono (by rw [HS1.out, HG0.out]; omega))) _ _ _⟩
end Go.Proofs.YtbamkklhkhglnaaGreatDoor.TsG
