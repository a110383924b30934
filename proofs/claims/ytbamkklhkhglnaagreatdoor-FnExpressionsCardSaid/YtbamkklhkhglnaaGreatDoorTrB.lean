import Derived.Test.YtbamkklhkhglnaaGreatDoorTrA
import Derived.Test.YtbamkklhkhglnaaGreatDoorImplVW
/-
  impl.readPresentation: the walk.
-/
namespace Go.Proofs.YtbamkklhkhglnaaGreatDoor.TrB
open Go.RowKit Go.Lib Go.Proofs.YtbamkklhkhglnaaGreatDoor Go.Proofs.YtbamkklhkhglnaaGreatDoor.Tow Go.Proofs.YtbamkklhkhglnaaGreatDoor.CyA Go.Proofs.YtbamkklhkhglnaaGreatDoor.TxA Go.Proofs.YtbamkklhkhglnaaGreatDoor.TxB Go.Proofs.YtbamkklhkhglnaaGreatDoor.TxC Go.Proofs.YtbamkklhkhglnaaGreatDoor.TmA Go.Proofs.YtbamkklhkhglnaaGreatDoor.TiA Go.Proofs.YtbamkklhkhglnaaGreatDoor.TiB Go.Proofs.YtbamkklhkhglnaaGreatDoor.TwA Go.Proofs.YtbamkklhkhglnaaGreatDoor.TwB Go.Proofs.YtbamkklhkhglnaaGreatDoor.TwC Go.Proofs.YtbamkklhkhglnaaGreatDoor.TwD Go.Proofs.YtbamkklhkhglnaaGreatDoor.TrA Go.Proofs.YtbamkklhkhglnaaGreatDoor.Val
open Go.Proofs.YtbamkklhkhglnaaGreatDoor.DwB (row3f put3)
set_option linter.unusedVariables false
set_option linter.unusedSimpArgs false

abbrev nilS : Value := .slice none 0 0
/-- the answer of a reader; what is no presentation is answered by nil slices -/
def RdN (t : List UInt8) (w : World) (b : Bool) (vO vP vC : Value) (w' : World) : Prop := RdR t w b vO vP vC w' ∧ (b = false → vO = nilS ∧ vP = nilS ∧ vC = nilS)
def ReR (t : List UInt8) (w : World) (e : Ending) (w' : World) : Prop := ∃ vO vP vC b, e = .returned (.tuple #[.agg #[vO, vP, vC], .bool b]) ∧ RdN t w b vO vP vC w' ∧ Below w.heap.size w w'
/-- the result's block is written -/
theorem res_below {w W : World} {g : Nat} (hg : g = w.heap.size) (hb : Below w.heap.size w W) (x y z : Value) : Below w.heap.size w (((W.setCell ⟨g, 0, none⟩ x).setCell ⟨g, 1, none⟩ y).setCell ⟨g, 2, none⟩ z) :=
  ((hb.setCell (p := ⟨g, 0, none⟩) (by show w.heap.size ≤ g; omega) _).setCell (p := ⟨g, 1, none⟩) (by show w.heap.size ≤ g; omega) _).setCell (p := ⟨g, 2, none⟩) (by show w.heap.size ≤ g; omega) _
theorem PP.slotPW {B i n y2 : Nat} {w : World} {vO vC : Value} {x2 : Option Addr} {p : RP} (h : PP B w vO (.slice x2 n y2) vC p) (hi : i < p.ps.length) : ∃ gp, x2 = some ⟨gp, 0, none⟩ ∧ B ≤ gp ∧ gp < w.heap.size ∧ (∃ cur, w.heap[gp]? = some (.cells cur 87 (0, 0))) ∧ ∀ W, Below w.heap.size w W → gp < W.heap.size ∧ (∃ u0, W.cell? ⟨gp, i, none⟩ = some u0) ∧ W.frozen? ⟨gp, i, none⟩ = false ∧
    ∀ u r, RO B W u r → PP B (W.setCell ⟨gp, i, none⟩ u) vO (.slice x2 n y2) vC ⟨p.os, p.ps.set i r, p.cs⟩ := by
  obtain ⟨gp, cp, u0, e, h1, h2, _⟩ := PP.slotP h hi
  obtain ⟨rfl, rfl⟩ : x2 = some ⟨gp, 0, none⟩ ∧ n = p.ps.length := by simp at e; exact ⟨e.1, e.2.1⟩
  refine ⟨gp, rfl, h1, h2, by obtain ⟨us, q1, _⟩ := id h.P; exact (owns_heap q1).2.2, fun W hb => ?_⟩
  obtain ⟨gp', cp', u0', e', h1', h2', h3', h4', h5'⟩ := PP.slotP (h.below hb) hi
  obtain rfl : gp = gp' := by simp at e'; exact e'.1
  exact ⟨h2', ⟨u0', h3'⟩, h4', h5'⟩
theorem PP.slotCW {B i k n y3 : Nat} {w : World} {vO vP : Value} {x3 : Option Addr} {p : RP} {L : List (List Nat)} (h : PP B w vO vP (.slice x3 n y3) p) (hL : p.cs[i]? = some L) (hk : k < L.length) : ∃ gc gu cu, x3 = some ⟨gc, 0, none⟩ ∧ B ≤ gu ∧ gu < w.heap.size ∧ B ≤ gc ∧ gc < w.heap.size ∧ gc ≠ gu ∧ (∃ cur, w.heap[gu]? = some (.cells cur 87 (0, 0))) ∧ ∀ W, Below w.heap.size w W → W.cell? ⟨gc, i, none⟩ = some (.slice (some ⟨gu, 0, none⟩) L.length cu) ∧ gc < W.heap.size ∧ gu < W.heap.size ∧ (∃ u0, W.cell? ⟨gu, k, none⟩ = some u0) ∧ W.frozen? ⟨gu, k, none⟩ = false ∧
    ∀ u r, RO B W u r → PP B (W.setCell ⟨gu, k, none⟩ u) vO vP (.slice x3 n y3) ⟨p.os, p.ps, p.cs.set i (L.set k r)⟩ := by
  obtain ⟨gc, cc, gu, cu, u0, e, h1, h2, h3, h4, h5, h6, _⟩ := PP.slotC h hL hk
  obtain ⟨rfl, _⟩ : x3 = some ⟨gc, 0, none⟩ ∧ n = p.cs.length := by simp at e; exact ⟨e.1, e.2.1⟩
  have hne : gc ≠ gu ∧ (∃ cur, w.heap[gu]? = some (.cells cur 87 (0, 0))) := by
    obtain ⟨vs, c1, c2, c3, c4⟩ := h.C
    have hil := (List.getElem?_eq_some_iff.1 hL).1
    obtain ⟨x, hx⟩ : ∃ x, vs[i]? = some x := ⟨_, List.getElem?_eq_getElem (by omega)⟩
    obtain ⟨o2, _⟩ := c3 i L x hL hx
    obtain ⟨us, q1, _⟩ := id o2
    have hxc := World.ownsRow.cells c1 (g := gc) rfl i _ hx
    rw [addr_add, Nat.zero_add, h3] at hxc
    obtain rfl := (Option.some.inj hxc).symm
    obtain ⟨_, _, cur, hg⟩ := owns_heap q1
    refine ⟨fun e => ?_, cur, hg⟩
    rcases c1.2 with ⟨h', _⟩ | ⟨g', cap, cu', h', _, hg', _⟩
    · simp at h'
    · obtain rfl : gc = g' := by simp at h'; exact h'.1
      subst e
      rw [hg] at hg'
      simp at hg'
  refine ⟨gc, gu, cu, rfl, h4, h5, h1, h2, hne.1, hne.2, fun W hb => ?_⟩
  obtain ⟨gc', cc', gu', cu', u0', e', h1', h2', h3', h4', h5', h6', h7', h8'⟩ := PP.slotC (h.below hb) hL hk
  obtain rfl : gc = gc' := by simp at e'; exact e'.1
  have h9 := (hb.cell (p := ⟨gc, i, none⟩) h2).trans h3
  rw [h3'] at h9
  obtain ⟨rfl, rfl⟩ : gu' = gu ∧ cu' = cu := by simpa using h9
  exact ⟨h3', h2', h5', ⟨u0', h6'⟩, h7', h8'⟩
theorem gen_lt {n j : Nat} {l : List UInt8} (h : genI n l = some j) : j < n := by
  unfold genI at h
  split at h
  · split at h
    · rename_i h2
      have := isL_sub h2
      obtain rfl := Option.some.inj h
      exact this.2
    · exact absurd h (by simp)
  · exact absurd h (by simp)
theorem box_ne {W : World} {g b : Nat} {cs cur : Array Value} (h : W.heap[g]? = some (.cells cs 91 (0, 0))) (hb : W.heap[b]? = some (.cells cur 87 (0, 0))) : ¬ g = b := fun e => by
  subst e
  rw [h] at hb
  simp at hb
set_option maxRecDepth 100000 in
set_option maxHeartbeats 2000000 in
theorem read_any (s : ByteArray) (hs : s.size ≤ 100000000) (w : World) (hv : Vars w) :
    Calls Tryz.prog 82 #[.string s] w (ReR s.data.toList w) := by
  obtain ⟨i0, hi0, hz0, hz1, hz2⟩ := info_parts infoI
  obtain ⟨g0, hg0⟩ : ∃ g0, w.heap.size = g0 := ⟨_, rfl⟩
  obtain ⟨w1, hw1⟩ : ∃ w1, w1 = w.alloc (.cells #[nilS, nilS, nilS] 91) := ⟨_, rfl⟩
  have HG0 := Lib.hid hg0
  have HB1 := Lib.hid (show Below w.heap.size w w1 by rw [hw1]; exact (Below.refl _ _).alloc (Nat.le_refl _) _)
  have HS1 := Lib.hid (show w1.heap.size = g0 + 1 by rw [hw1, ← hg0]; simp)
  have HR := Lib.hid (fun (W : World) (hb : Below w1.heap.size w1 W) => show W.heap[g0]? = some (.cells #[nilS, nilS, nilS] 91 (0, 0)) from (hb.block g0 (by rw [HS1.out]; omega)).trans (by rw [hw1, ← hg0]; exact heap_alloc_new _ _))
  have HV1 := Lib.hid (hv.below HB1.out)
  have HF := Lib.hid (fun (W : World) (hb : Below w1.heap.size w1 W) (hn : readI s.data.toList = none) => show ReR s.data.toList w (.returned (.tuple #[.agg #[nilS, nilS, nilS], .bool false])) (((W.setCell ⟨g0, 0, none⟩ nilS).setCell ⟨g0, 1, none⟩ nilS).setCell ⟨g0, 2, none⟩ nilS) from
    ⟨_, _, _, _, rfl, ⟨.inr ⟨rfl, readI_none hn⟩, fun _ => ⟨rfl, rfl, rfl⟩⟩, res_below hg0.symm (HB1.out.trans (hb.mono (by rw [HS1.out]; omega))) _ _ _⟩)
  have HSP := Lib.hid (split_any s ⟨#[59, 32]⟩ hs (by decide) w1 HV1.out)
  have HSS := Lib.hid hs
  clear hv hs
  go_enter Tryz.func82, Tryz.ntmps82
  go_upto_region 1 with fail
  rw [← hw1]
  clear hw1 hg0
  go_upto_region 3 with (first | (go_at_call 95; refine HSP.out.mono ?_; rintro e w2 ⟨g1, m, L, rfl, hg1, hLm, hm1, hms, hr1, he1, hx1, hb1⟩) | fail)
  obtain ⟨x0, Lr, rfl⟩ : ∃ x0 Lr, L = x0 :: Lr := by
    match L, hLm with
    | [], h => simp at h; omega
    | x :: r, _ => exact ⟨x, r, rfl⟩
  have HT := Lib.hid (show readI s.data.toList = match ordI x0.data.toList with
      | none => none
      | some os => if 6 < os.length then none else (Lr.map (·.data.toList)).foldlM (stepI os.length) (triv os) from by
    unfold readI
    rw [show split s.data.toList [59, 32] = (x0 :: Lr).map (·.data.toList) from he1.symm]
    rfl)
  have HLr := Lib.hid (show Lr.length + 1 = m ∧ (∀ x ∈ Lr, x.size ≤ s.size) from ⟨by simpa using hLm, fun x hx => hx1 x (List.mem_cons_of_mem _ hx)⟩)
  have hx0 : x0.size ≤ s.size := hx1 x0 (by simp)
  have hs64 : s.size ≤ 100000000 := HSS.out
  have HP := Lib.hid (fun (W : World) (hb : Below w2.heap.size w2 W) (k : Nat) (x : ByteArray) (hk : (x0 :: Lr)[k]? = some x) => show W.cell? ⟨g1, k, none⟩ = some (.string x) ∧ g1 < W.heap.size from by
    obtain ⟨g, c, e, _, h2, h3⟩ := strs_at hr1 hk
    obtain ⟨rfl, _⟩ : g1 = g ∧ m = c := by simpa using e
    exact ⟨(hb.cell (p := ⟨g1, k, none⟩) h2).trans h3, Nat.lt_of_lt_of_le h2 hb.size⟩)
  have HB2 := Lib.hid hb1
  clear hLm hr1 he1 hx1 hb1 HSP
  obtain ⟨p0, pl⟩ := HP.out w2 (Below.refl _ _) 0 x0 rfl
  go_upto_if 31 with (fail)
  go_cut [5] (fun v W => ∃ os ao co, ordI x0.data.toList = some os ∧ v = .slice ao os.length co ∧ Hid (Own w1.heap.size W (.slice ao os.length co) os) ∧ Hid (Below w2.heap.size w2 W))
  case first =>
    cases ht : (x0.toList == [49]) with
    | true =>
      have HO := Lib.hid (show ordI x0.data.toList = some [] from by
        unfold ordI
        rw [if_pos (by have := eq_of_beq ht; rwa [toList_data] at this)])
      go_wp2_with fail
      go_meet
      exact ⟨[], none, 0, HO.out, rfl, Lib.hid (World.ownsRow_nil _ _ _ _), Lib.hid (Below.refl _ _)⟩
    | false =>
      have HO := Lib.hid (show ordI x0.data.toList = (split x0.data.toList [32]).mapM pI from by
        unfold ordI
        rw [if_neg (fun h => by rw [toList_data, h] at ht; exact absurd ht (by decide))])
      have HV2 := HV1.out.below HB2.out
      have HS2 := Lib.hid (split_any x0 ⟨#[32]⟩ (by omega) (by decide) w2 HV2)
      clear HV2
      go_wp2_with (first | (go_at_call 95; refine HS2.out.mono ?_; rintro e w3 ⟨g2, m2, L2, rfl, hg2, hL2, hm2, hms2, hr2, he2, hx2, hb2⟩) | fail)
      have hm64 : (m2 : Int) ≤ 100000001 := by omega
      have HW := Lib.hid (fun (W : World) (hb : Below w3.heap.size w3 W) (k : Nat) (x : ByteArray) (hk : L2[k]? = some x) => show W.cell? ⟨g2, k, none⟩ = some (.string x) ∧ g2 < W.heap.size from by
        obtain ⟨g, c, e, _, h2, h3⟩ := strs_at hr2 hk
        obtain ⟨rfl, _⟩ : g2 = g ∧ m2 = c := by simpa using e
        exact ⟨(hb.cell (p := ⟨g2, k, none⟩) h2).trans h3, Nat.lt_of_lt_of_le h2 hb.size⟩)
      have HL2 := Lib.hid (And.intro hL2 hx2)
      have HB3 := Lib.hid hb2
      rw [← he2] at HO
      have H3S := Lib.hid (show w1.heap.size ≤ w3.heap.size from Nat.le_trans HB2.out.size HB3.out.size)
      clear hr2 he2 hx2 hb2 hL2 hg2 p0 pl
      go_loopw [5, 37] (fun ov iv wr => ∃ (k : Nat) (ao : Option Addr) (co : Nat), k ≤ m2 ∧ iv = .int .i64 (k : Int) ∧ ov = .slice ao k co ∧ Hid (∃ xs : List Int, ((L2.map (·.data.toList)).take k).mapM pI = some xs ∧ xs.length = k ∧ Own w3.heap.size wr (.slice ao k co) xs) ∧ Hid (Below w3.heap.size w3 wr)) (fun _ iv _ => m2 - (intOf iv).toNat)
      case atStart => exact ⟨0, none, 0, Nat.zero_le _, rfl, rfl, Lib.hid ⟨[], rfl, rfl, World.ownsRow_nil _ _ _ _⟩, Lib.hid (Below.refl _ _)⟩
      case round =>
        obtain ⟨k, ao, co, hk, rfl, rfl, hO, hB⟩ := hrel
        by_cases hlt : k < m2
        · have hki : (k : Int) < (m2 : Int) := by omega
          obtain ⟨x, hx⟩ : ∃ x, L2[k]? = some x := ⟨_, List.getElem?_eq_getElem (by rw [HL2.out.1]; exact hlt)⟩
          obtain ⟨hc, hcl⟩ := HW.out wr hB.out k x hx
          have hxs : x.size ≤ 100000000 := by have := HL2.out.2 x (List.mem_of_getElem? hx); omega
          have HXM := Lib.hid (show (L2.map (·.data.toList))[k]? = some x.data.toList by simp [hx])
          have HBr := Lib.hid (show Below w1.heap.size w1 wr from HB2.out.trans ((HB3.out.trans (hB.out.mono HB3.out.size)).mono HB2.out.size))
          have HVr := Lib.hid (HV1.out.below HBr.out)
          clear hx
          cases hp : pI x.data.toList with
          | none =>
            have HPB := Lib.hid (parse_bad x hxs hp wr HVr.out)
            have HN := Lib.hid (show readI s.data.toList = none from by
              rw [HT.out, HO.out, mapM_bad HXM.out hp])
            clear hp hO hB
            go_wp2_with (first | (go_at_call 96; refine HPB.out.mono ?_; rintro e w5 ⟨nn, N, rfl, hb5⟩; have HB5 := Lib.hid (show Below w1.heap.size w1 w5 from HBr.out.trans (hb5.mono HBr.out.size)); clear hb5; obtain ⟨⟨e0, e1, e2⟩, f0, f1, f2⟩ := row3f (HR.out w5 HB5.out); have hgl : g0 < w5.heap.size := (Array.getElem?_eq_some_iff.1 (HR.out w5 HB5.out)).1) | fail)
            obtain ⟨⟨z0, z1, z2⟩, -⟩ := row3f (put3 (x := nilS) (y := nilS) (z := nilS) (HR.out w5 HB5.out))
            exact bodyPost_ret (v := .tuple #[.agg #[nilS, nilS, nilS], .bool false]) (by simp [results, Tryz.results82, go_sem, z0, z1, z2]) rfl (HF.out w5 HB5.out HN.out)
          | some v =>
            have HPO := Lib.hid (parse_ok x hxs v hp wr)
            obtain ⟨xs, hx1, hx2, hx3⟩ := hO.out
            have HM := Lib.hid (show ((L2.map (·.data.toList)).take (k + 1)).mapM pI = some (xs ++ [v]) from by rw [mapM_take hx1 HXM.out, hp]; rfl)
            have HXL := Lib.hid hx2
            have hx4 : wr.ownsRow w3.heap.size 2 1 (.slice ao k co) k (vals xs) := by
              have := hx3
              unfold Own at this
              rwa [hx2] at this
            have HX4 := Lib.hid hx4
            clear hp hO hx1 hx2 hx3 hx4
            go_wp2_with (first | (go_at_call 96; refine HPO.out.mono ?_; rintro e w5 ⟨rfl, hb5⟩; have HBq := Lib.hid hb5; clear hb5) | (at_builtin; (refine wpList_append_lies _ rfl _ _ 87 rfl w3.heap.size 2 i0 (.int .i64 0) 1 8 Tryz.underlying87 hi0 hz0 hz1 hz2 rfl (by decide) _ _ _ rfl (ownsRow_keep HX4.out (S := fun _ => True) ((Keep.of_below HBq.out).alloc (.cells #[.int .i64 v] 2)) (fun _ _ => trivial)) ⟨w5.heap.size, 0, none⟩ 1 1 [.int .i64 v] rfl rfl (World.news_of_block (cs := #[.int .i64 v]) (t := 2) (fr := (0, 0)) (heap_alloc_new w5 _)) (by simp [Value.oneCell']) (by decide) (by unfold maxLen; omega) (by omega) (by have h1 := hB.out.size; have h2 := HBq.out.size; simp; omega) _ rfl ?_)) | fail)
            intro g6 c6 w6 ho6 hg6 hat6 hlt6
            have HB6 := Lib.hid (show Below w3.heap.size w3 w6 from ((hB.out.trans (HBq.out.mono hB.out.size)).alloc (Nat.le_trans hB.out.size HBq.out.size) (.cells #[.int .i64 v] 2)).grown hg6 (by have h1 := hB.out.size; have h2 := HBq.out.size; simp; omega) (fun g hg => (World.ownsRow.lt HX4.out g hg).1))
            have HO6 := Lib.hid (show ∃ xs : List Int, ((L2.map (·.data.toList)).take (k + 1)).mapM pI = some xs ∧ xs.length = k + 1 ∧ Own w3.heap.size w6 (.slice (some ⟨g6, 0, none⟩) (k + 1) c6) xs from ⟨xs ++ [v], HM.out, by rw [List.length_append, HXL.out]; rfl, by
              unfold Own
              rw [List.length_append, HXL.out]
              show w6.ownsRow _ _ 1 _ (k + 1) _
              simpa [vals] using ho6⟩)
            clear ho6 hg6 hat6 hlt6 hB
            go_wp2_with fail
            go_roundw
            case rel => exact ⟨k + 1, _, c6, by omega, by go_num, rfl, HO6, HB6⟩
            case measure => simp [intOf]; omega
        · obtain rfl : m2 = k := by omega
          obtain ⟨xs, hx1, hx2, hx3⟩ := hO.out
          rw [List.take_of_length_le (by simp [HL2.out.1])] at hx1
          subst hx2
          have HE := Lib.hid (show ∃ os ao' co', ordI x0.data.toList = some os ∧ Value.slice ao xs.length co = .slice ao' os.length co' ∧ Hid (Own w1.heap.size wr (.slice ao' os.length co') os) ∧ Hid (Below w2.heap.size w2 wr) from ⟨xs, ao, co, by rw [HO.out, hx1], rfl, Lib.hid (hx3.mono H3S.out), Lib.hid (HB3.out.trans (hB.out.mono HB3.out.size))⟩)
          clear hO hx1 hx3 hB
          go_wp2_with fail
          go_meet
          exact HE.out
  case rest =>
    obtain ⟨os, ao, co, hos, rfl, hO, hB⟩ := hcut
    rename World => w4
    clear p0 pl
    have HB4 := Lib.hid (show Below w1.heap.size w1 w4 from HB2.out.trans (hB.out.mono HB2.out.size))
    rw [hos] at HT
    clear hos
    obtain ⟨n, hn⟩ : ∃ n, os.length = n := ⟨_, rfl⟩
    simp only [hn] at HT
    have HN := Lib.hid hn
    have HO := hO
    rw [hn] at HO ⊢
    have hB4 := hB
    obtain ⟨⟨e0, e1, e2⟩, f0, f1, f2⟩ := row3f (HR.out w4 HB4.out)
    have hgl : g0 < w4.heap.size := (Array.getElem?_eq_some_iff.1 (HR.out w4 HB4.out)).1
    clear hO hB hn
    by_cases h6 : 6 < n
    · have hN := HF.out w4 HB4.out (by rw [HT.out, if_pos h6])
      have HNN := Lib.hid hN
      clear hN
      go_wp2_with fail
      obtain ⟨⟨z0, z1, z2⟩, -⟩ := row3f (put3 (x := nilS) (y := nilS) (z := nilS) (HR.out w4 HB4.out))
      exact bodyPost_ret (v := .tuple #[.agg #[nilS, nilS, nilS], .bool false]) (by simp [results, Tryz.results82, go_sem, z0, z1, z2]) rfl HNN.out
    · rw [if_neg h6] at HT
      have hn6 : n ≤ 6 := by omega
      have HTV := Lib.hid ((TmC.triv_any os (.slice ao n co) w4 (by have := HO.out.sl; exact this.mono fun _ _ => trivial) (by rw [HN.out]; exact hn6)).mono (R' := fun e w' => ∃ x1 y1 x2 y2 x3 y3, e = .returned (.agg #[.slice x1 n y1, .slice x2 n y2, .slice x3 n y3]) ∧ PP w4.heap.size w' (.slice x1 n y1) (.slice x2 n y2) (.slice x3 n y3) (triv os) ∧ Below w4.heap.size w4 w') (by
        rintro e w' ⟨vO, vP, vC, rfl, hp, hb⟩
        obtain ⟨x1, y1, x2, y2, x3, y3, e1, e2, e3⟩ := hp.form
        have l1 : (triv os).os.length = n := HN.out
        have l2 : (triv os).ps.length = n := by simp [triv, HN.out]
        have l3 : (triv os).cs.length = n := by simp [triv, crow, HN.out]
        rw [l1] at e1; rw [l2] at e2; rw [l3] at e3
        subst e1; subst e2; subst e3
        exact ⟨_, _, _, _, _, _, rfl, hp, hb⟩))
      go_upto_region 16 with (first | (go_at_call 97; refine HTV.out.mono ?_; rintro e w5 ⟨x1, y1, x2, y2, x3, y3, rfl, hpp, hb5⟩) | fail)
      obtain ⟨g, hg⟩ : ∃ g, w5.heap.size = g := ⟨_, rfl⟩
      obtain ⟨w6, hw6⟩ : ∃ w6, w6 = w5.alloc (.cells #[.slice x1 n y1, .slice x2 n y2, .slice x3 n y3] 91) := ⟨_, rfl⟩
      rw [← hw6, hg]
      have HB6 := Lib.hid (show Below w4.heap.size w4 w6 by rw [hw6]; exact hb5.alloc hb5.size _)
      have HI := Lib.hid (show w6.heap[g]? = some (.cells #[.slice x1 n y1, .slice x2 n y2, .slice x3 n y3] 91 (0, 0)) ∧ PP w4.heap.size w6 (.slice x1 n y1) (.slice x2 n y2) (.slice x3 n y3) (triv os) ∧ Sh n (triv os) from ⟨by rw [hw6, ← hg]; exact heap_alloc_new _ _, by rw [hw6]; exact hpp.below ((Below.refl _ _).alloc (Nat.le_refl _) _), by have := Sh.triv os; rwa [HN.out] at this⟩)
      have HGW := Lib.hid (show w4.heap.size ≤ g ∧ g < w6.heap.size from by rw [hw6, ← hg]; have := hb5.size; simp; omega)
      clear hw6 hg hpp hb5 HTV e0 e1 e2 f0 f1 f2 hgl
      obtain ⟨mr, rfl⟩ : ∃ mr, m = mr + 1 := ⟨m - 1, by omega⟩
      have hmr : (mr : Int) ≤ 100000000 := by omega
      have HML := Lib.hid (show Lr.length = mr from by have := HLr.out.1; omega)
      go_cut [62, 63, 64] (fun a b c W => ∃ ad cc, a = .slice ad mr cc ∧ b = .int .i64 (mr : Int) ∧ c = .int .i64 0 ∧ (0 < mr → ad = some ⟨g1, 1, none⟩) ∧ W = w6)
      case first =>
        by_cases hmr0 : mr = 0
        · subst hmr0
          go_wp2_with fail
          go_meet
          exact ⟨_, _, rfl, rfl, rfl, fun h => absurd h (Nat.lt_irrefl 0), rfl⟩
        · have hmp : 0 < mr := by omega
          go_wp2_with fail
          all_goals first | (exfalso; omega) | skip
          go_meet
          exact ⟨_, _, rfl, rfl, rfl, fun _ => rfl, rfl⟩
      case rest =>
        obtain ⟨ad, cc, rfl, rfl, rfl, had, rfl⟩ := hcut
        rename World => w6
        go_wp2_with fail
        go_loopw [64] (fun iv wr => ∃ (k : Nat), k ≤ mr ∧ iv = .int .i64 (k : Int) ∧ Hid (∃ q, wr.heap[g]? = some (.cells #[.slice x1 n y1, .slice x2 n y2, .slice x3 n y3] 91 (0, 0)) ∧ PP w4.heap.size wr (.slice x1 n y1) (.slice x2 n y2) (.slice x3 n y3) q ∧ Sh n q ∧ ((Lr.map (·.data.toList)).take k).foldlM (stepI n) (triv os) = some q) ∧ Hid (Below w4.heap.size w4 wr)) (fun iv _ => mr - (intOf iv).toNat)
        case atStart => exact ⟨0, Nat.zero_le _, rfl, Lib.hid ⟨triv os, HI.out.1, HI.out.2.1, HI.out.2.2, rfl⟩, HB6⟩
        case round =>
          clear HI HB6
          obtain ⟨k, hk, rfl, hQ, hB⟩ := hrel
          have HBr := Lib.hid (show Below w1.heap.size w1 wr from HB4.out.trans (hB.out.mono HB4.out.size))
          have HVr := Lib.hid (HV1.out.below HBr.out)
          obtain ⟨q, hq1, hq2, hq3, hq4⟩ := hQ.out
          by_cases hlt : k < mr
          · have hki : (k : Int) < (mr : Int) := by omega
            obtain rfl := had (by omega)
            obtain ⟨x, hx⟩ : ∃ x, Lr[k]? = some x := ⟨_, List.getElem?_eq_getElem (by rw [HML.out]; exact hlt)⟩
            have hxs : x.size ≤ 100000000 := by have := HLr.out.2 x (List.mem_of_getElem? hx); omega
            obtain ⟨hc0, hcl⟩ := HP.out wr (hB4.out.trans (hB.out.mono hB4.out.size)) (k + 1) x (by simpa using hx)
            have hc : wr.cell? ⟨g1, 1 + k, none⟩ = some (.string x) := by rw [Nat.add_comm]; exact hc0
            have HXM := Lib.hid (show (Lr.map (·.data.toList))[k]? = some x.data.toList by simp [hx])
            obtain ⟨A, hA⟩ : ∃ A, Lib.cut x.data.toList [61] = A := ⟨_, rfl⟩
            obtain ⟨D, hD⟩ : ∃ D, Lib.cut A.1 [94] = D := ⟨_, rfl⟩
            have HAD := Lib.hid (And.intro hA hD)
            have HST := Lib.hid (show stepI n q x.data.toList = match expsI n A.2.1, genI n D.1 with
                | some v, some j => match genI n D.2.1 with
                  | none => some (q.app ⟨j, none, v⟩)
                  | some i => if i < j then some (q.app ⟨j, some i, v⟩) else some q
                | _, _ => none from by
              unfold stepI
              rw [hA, hD]
              cases expsI n A.2.1 <;> cases genI n D.1 <;> first | rfl | (cases genI n D.2.1 <;> rfl))
            have HQ := Lib.hid (And.intro hq1 (And.intro hq2 (And.intro hq3 hq4)))
            have HBB := hB
            have hszr := hB.out.size
            clear hx hc0 hA hD hq1 hq2 hq3 hq4 hQ hB
            go_upto_block 3 with (fail)
            go_cut [13] (fun _ W => Hid (∃ q', W.heap[g]? = some (.cells #[.slice x1 n y1, .slice x2 n y2, .slice x3 n y3] 91 (0, 0)) ∧ PP w4.heap.size W (.slice x1 n y1) (.slice x2 n y2) (.slice x3 n y3) q' ∧ Sh n q' ∧ stepI n q x.data.toList = some q') ∧ Hid (Below w4.heap.size w4 W))
            case rest =>
              obtain ⟨hQ', hB'⟩ := hcut
              have HN := Lib.hid (show ∃ q, wc.heap[g]? = some (.cells #[.slice x1 n y1, .slice x2 n y2, .slice x3 n y3] 91 (0, 0)) ∧ PP w4.heap.size wc (.slice x1 n y1) (.slice x2 n y2) (.slice x3 n y3) q ∧ Sh n q ∧ ((Lr.map (·.data.toList)).take (k + 1)).foldlM (stepI n) (triv os) = some q from by
                obtain ⟨q', h1, h2, h3, h4⟩ := hQ'.out
                exact ⟨q', h1, h2, h3, (foldlM_take HQ.out.2.2.2 HXM.out).trans h4⟩)
              clear hQ' HQ HST HAD HBB hc hcl HVr HBr
              go_wp2_with fail
              go_roundw
              case rel => exact ⟨k + 1, by omega, by go_num, HN, hB'⟩
              case measure => simp [intOf]; omega
            case first =>
              have HBAD := Lib.hid (fun (W : World) (hb : Below wr.heap.size wr W) (h : stepI n q x.data.toList = none) => And.intro (HR.out W (HBr.out.trans (hb.mono HBr.out.size))) (HF.out W (HBr.out.trans (hb.mono HBr.out.size)) (by rw [HT.out]; exact foldlM_bad HQ.out.2.2.2 HXM.out h)))
              cases hE : expsI n A.2.1 with
              | none =>
                have HS := Lib.hid (show stepI n q x.data.toList = none from by rw [HST.out, hE])
                have HE := Lib.hid hE
                clear hE HST
                go_wp2_with (first | (go_at_call_of 98 x; refine (cut_any x _ (by omega) _ HVr.out).mono ?_; rintro e wa ⟨a1, b1, f1, rfl, ha1, hb1, hsa1, hsb1, hba⟩; rw [show (⟨#[61]⟩ : ByteArray).data.toList = [61] from rfl, HAD.out.1] at ha1 hb1) | (go_at_call_of 98 a1; refine (cut_any a1 _ (by omega) _ (HVr.out.below hba)).mono ?_; rintro e wb ⟨a2, b2, f2, rfl, ha2, hb2, hsa2, hsb2, hbb⟩; rw [show (⟨#[94]⟩ : ByteArray).data.toList = [94] from rfl, ha1, HAD.out.2] at ha2 hb2) | (go_at_call 99; refine (exps_any n hn6 b1 (by omega) _).mono ?_; rintro e wc' ⟨v, bb, rfl, hbc, hcase⟩; rw [hb1, HE.out] at hcase; obtain rfl : bb = false := (by rcases hcase with ⟨_, r, h, _⟩ | ⟨h, _⟩; cases h; exact h); have HBc := Lib.hid (show Below wr.heap.size wr wc' from Below.step' (Below.step' hba hbb) hbc); obtain ⟨⟨e0, e1, e2⟩, f0, f1, f2⟩ := row3f (HBAD.out wc' HBc.out HS.out).1; have hgl : g0 < wc'.heap.size := (Array.getElem?_eq_some_iff.1 (HBAD.out wc' HBc.out HS.out).1).1; clear hcase) | (go_at_call 100; refine (gen_any n (by omega) _ (by omega) _).mono ?_; rintro e wd ⟨rfl, rfl⟩) | fail)
                obtain ⟨⟨z0, z1, z2⟩, -⟩ := row3f (put3 (x := nilS) (y := nilS) (z := nilS) (HBAD.out _ HBc.out HS.out).1)
                exact bodyPost_ret (v := .tuple #[.agg #[nilS, nilS, nilS], .bool false]) (by simp [results, Tryz.results82, go_sem, z0, z1, z2]) rfl (HBAD.out _ HBc.out HS.out).2
              | some r =>
                have HE := Lib.hid hE
                cases hG : genI n D.1 with
                | none =>
                  have HS := Lib.hid (show stepI n q x.data.toList = none from by rw [HST.out, hE, hG])
                  have HG := Lib.hid hG
                  clear hE hG HST
                  go_wp2_with (first | (go_at_call_of 98 x; refine (cut_any x _ (by omega) _ HVr.out).mono ?_; rintro e wa ⟨a1, b1, f1, rfl, ha1, hb1, hsa1, hsb1, hba⟩; rw [show (⟨#[61]⟩ : ByteArray).data.toList = [61] from rfl, HAD.out.1] at ha1 hb1) | (go_at_call_of 98 a1; refine (cut_any a1 _ (by omega) _ (HVr.out.below hba)).mono ?_; rintro e wb ⟨a2, b2, f2, rfl, ha2, hb2, hsa2, hsb2, hbb⟩; rw [show (⟨#[94]⟩ : ByteArray).data.toList = [94] from rfl, ha1, HAD.out.2] at ha2 hb2) | (go_at_call 99; refine (exps_any n hn6 b1 (by omega) _).mono ?_; rintro e wc' ⟨v, bb, rfl, hbc, hcase⟩; rw [hb1, HE.out] at hcase; obtain ⟨rfl, hrl, hro⟩ : bb = true ∧ r.length = n ∧ RO wb.heap.size wc' v r := (by rcases hcase with ⟨h, r', h1, h2, h3⟩ | ⟨_, h⟩; cases h1; exact ⟨h, h2, h3⟩; cases h); obtain ⟨⟨gv, cv, rfl⟩, hro2⟩ := hro; have HBc := Lib.hid (show Below wr.heap.size wr wc' from Below.step' (Below.step' hba hbb) hbc); obtain ⟨⟨e0, e1, e2⟩, f0, f1, f2⟩ := row3f (HBAD.out wc' HBc.out HS.out).1; have hgl : g0 < wc'.heap.size := (Array.getElem?_eq_some_iff.1 (HBAD.out wc' HBc.out HS.out).1).1; clear hcase) | (go_at_call_of 100 a2; refine (gen_any n (by omega) a2 (by omega) _).mono ?_; rintro e wd ⟨rfl, rfl⟩; rw [ha2, HG.out]) | fail)
                  obtain ⟨⟨z0, z1, z2⟩, -⟩ := row3f (put3 (x := nilS) (y := nilS) (z := nilS) (HBAD.out _ HBc.out HS.out).1)
                  exact bodyPost_ret (v := .tuple #[.agg #[nilS, nilS, nilS], .bool false]) (by simp [results, Tryz.results82, go_sem, z0, z1, z2]) rfl (HBAD.out _ HBc.out HS.out).2
                | some j =>
                  have HG := Lib.hid hG
                  have hjn : j < n := gen_lt hG
                  have hji : (j : Int) < (n : Int) := by omega
                  have hj0 : (0 : Int) ≤ (j : Int) := by omega
                  cases hY : genI n D.2.1 with
                  | none =>
                    have HS := Lib.hid (show stepI n q x.data.toList = some (q.app ⟨j, none, r⟩) from by rw [HST.out, hE, hG]; simp only [hY])
                    have HY := Lib.hid hY
                    obtain ⟨gp, ex2, hgB, hgpl, ⟨cur, hcur⟩, hW⟩ := PP.slotPW (i := j) HQ.out.2.1 (by rw [HQ.out.2.2.1.pl]; exact hjn)
                    subst ex2
                    have hgg := box_ne HQ.out.1 hcur
                    have HW := Lib.hid hW
                    have hgl0 : g < wr.heap.size := (Array.getElem?_eq_some_iff.1 HQ.out.1).1
                    clear hE hG hY HST hW hcur HBAD
                    go_wp2_with (first | (go_at_call_of 98 x; refine (cut_any x _ (by omega) _ HVr.out).mono ?_; rintro e wa ⟨a1, b1, f1, rfl, ha1, hb1, hsa1, hsb1, hba⟩; rw [show (⟨#[61]⟩ : ByteArray).data.toList = [61] from rfl, HAD.out.1] at ha1 hb1) | (go_at_call_of 98 a1; refine (cut_any a1 _ (by omega) _ (HVr.out.below hba)).mono ?_; rintro e wb ⟨a2, b2, f2, rfl, ha2, hb2, hsa2, hsb2, hbb⟩; rw [show (⟨#[94]⟩ : ByteArray).data.toList = [94] from rfl, ha1, HAD.out.2] at ha2 hb2) | (go_at_call 99; refine (exps_any n hn6 b1 (by omega) _).mono ?_; rintro e wc' ⟨v, bb, rfl, hbc, hcase⟩; rw [hb1, HE.out] at hcase; obtain ⟨rfl, hrl, hro⟩ : bb = true ∧ r.length = n ∧ RO wb.heap.size wc' v r := (by rcases hcase with ⟨h, r', h1, h2, h3⟩ | ⟨_, h⟩; cases h1; exact ⟨h, h2, h3⟩; cases h); obtain ⟨⟨gv, cv, rfl⟩, hro2⟩ := hro; have HBc := Lib.hid (show Below wr.heap.size wr wc' from Below.step' (Below.step' hba hbb) hbc); obtain ⟨⟨e0, e1, e2⟩, -⟩ := row3f ((HBc.out.block g hgl0).trans HQ.out.1); have hgl : g < wc'.heap.size := Nat.lt_of_lt_of_le hgl0 HBc.out.size; obtain ⟨hp1, ⟨u0, hp2⟩, hp3, hset⟩ := HW.out wc' HBc.out; have HSET := Lib.hid (hset (.slice (some ⟨gv, 0, none⟩) r.length cv) r ⟨⟨gv, cv, rfl⟩, ownsRow_mono hro2 (Nat.le_trans hszr (Nat.le_trans hba.size hbb.size))⟩); have HRL := Lib.hid hrl; clear hcase hset hro2 hrl) | (go_at_call_of 100 a2; refine (gen_any n (by omega) a2 (by omega) _).mono ?_; rintro e wd ⟨rfl, rfl⟩; rw [ha2, HG.out]) | (go_at_call_of 100 b2; refine (gen_any n (by omega) b2 (by omega) _).mono ?_; rintro e wd ⟨rfl, rfl⟩; rw [hb2, HY.out]) | fail)
                    go_meet
                    exact ⟨Lib.hid ⟨q.app ⟨j, none, r⟩, (heap_setCell_other _ ⟨gp, j, none⟩ g _ hgg).trans ((HBc.out.block g hgl0).trans HQ.out.1), HSET.out, HQ.out.2.2.1.app ⟨hjn, HRL.out, fun i h => by simp at h⟩, HS.out⟩, Lib.hid ((HBB.out.trans (HBc.out.mono HBB.out.size)).setCell (p := ⟨gp, j, none⟩) hgB _)⟩
                  | some i =>
                    have hin : i < n := gen_lt hY
                    have HY := Lib.hid hY
                    have hii : (i : Int) < (n : Int) := by omega
                    have hi0 : (0 : Int) ≤ (i : Int) := by omega
                    by_cases hij : i < j
                    · have HS := Lib.hid (show stepI n q x.data.toList = some (q.app ⟨j, some i, r⟩) from by rw [HST.out, hE, hG]; simp only [hY]; rw [if_pos hij])
                      obtain ⟨kk, hkk⟩ : ∃ kk, i + 1 + kk = j := ⟨j - (i + 1), by omega⟩
                      obtain ⟨L, hL⟩ : ∃ L, q.cs[i]? = some L := ⟨_, List.getElem?_eq_getElem (by rw [HQ.out.2.2.1.cl]; exact hin)⟩
                      have hLl := (HQ.out.2.2.1.cr i L hL).1
                      have hkL : kk < L.length := by omega
                      obtain ⟨gc, gu, cu, ex3, hgB, hgul, _, hgcl, hcu, ⟨cur, hcur⟩, hW⟩ := PP.slotCW HQ.out.2.1 hL hkL
                      subst ex3
                      have hgg := box_ne HQ.out.1 hcur
                      have HW := Lib.hid hW
                      have hgl0 : g < wr.heap.size := (Array.getElem?_eq_some_iff.1 HQ.out.1).1
                      have hw1 : IntKind.i64.wrap ((j : Int) - (i : Int)) = (j : Int) - (i : Int) := IntWalk.i64_in _ (by omega)
                      have hw2 : IntKind.i64.wrap ((j : Int) - (i : Int) - 1) = (kk : Int) := by rw [IntWalk.i64_in _ (by omega)]; omega
                      obtain ⟨ln, hln⟩ : ∃ ln, L.length = ln := ⟨_, rfl⟩
                      have hkl : (kk : Int) < (ln : Int) := by omega
                      have hkl0 : (0 : Int) ≤ (kk : Int) := by omega
                      have hijI : (i : Int) < (j : Int) := by omega
                      have HLN := Lib.hid hln
                      have HAPP := Lib.hid (show q.app ⟨j, some i, r⟩ = ⟨q.os, q.ps, q.cs.set i (L.set kk r)⟩ from by
                        unfold RP.app
                        simp only
                        rw [getD_of hL, show j - i - 1 = kk by omega])
                      clear hE hG hY HST hW hcur HBAD hL hLl hkL hkk hln
                      go_wp2_with (first | (go_at_call_of 98 x; refine (cut_any x _ (by omega) _ HVr.out).mono ?_; rintro e wa ⟨a1, b1, f1, rfl, ha1, hb1, hsa1, hsb1, hba⟩; rw [show (⟨#[61]⟩ : ByteArray).data.toList = [61] from rfl, HAD.out.1] at ha1 hb1) | (go_at_call_of 98 a1; refine (cut_any a1 _ (by omega) _ (HVr.out.below hba)).mono ?_; rintro e wb ⟨a2, b2, f2, rfl, ha2, hb2, hsa2, hsb2, hbb⟩; rw [show (⟨#[94]⟩ : ByteArray).data.toList = [94] from rfl, ha1, HAD.out.2] at ha2 hb2) | (go_at_call 99; refine (exps_any n hn6 b1 (by omega) _).mono ?_; rintro e wc' ⟨v, bb, rfl, hbc, hcase⟩; rw [hb1, HE.out] at hcase; obtain ⟨rfl, hrl, hro⟩ : bb = true ∧ r.length = n ∧ RO wb.heap.size wc' v r := (by rcases hcase with ⟨h, r', h1, h2, h3⟩ | ⟨_, h⟩; cases h1; exact ⟨h, h2, h3⟩; cases h); obtain ⟨⟨gv, cv, rfl⟩, hro2⟩ := hro; have HBc := Lib.hid (show Below wr.heap.size wr wc' from Below.step' (Below.step' hba hbb) hbc); obtain ⟨⟨e0, e1, e2⟩, -⟩ := row3f ((HBc.out.block g hgl0).trans HQ.out.1); have hgl : g < wc'.heap.size := Nat.lt_of_lt_of_le hgl0 HBc.out.size; obtain ⟨hp0, hp00, hp1, ⟨u0, hp2⟩, hp3, hset⟩ := HW.out wc' HBc.out; rw [HLN.out] at hp0; have HSET := Lib.hid (hset (.slice (some ⟨gv, 0, none⟩) r.length cv) r ⟨⟨gv, cv, rfl⟩, ownsRow_mono hro2 (Nat.le_trans hszr (Nat.le_trans hba.size hbb.size))⟩); have HRL := Lib.hid hrl; clear hcase hset hro2 hrl) | (go_at_call_of 100 a2; refine (gen_any n (by omega) a2 (by omega) _).mono ?_; rintro e wd ⟨rfl, rfl⟩; rw [ha2, HG.out]) | (go_at_call_of 100 b2; refine (gen_any n (by omega) b2 (by omega) _).mono ?_; rintro e wd ⟨rfl, rfl⟩; rw [hb2, HY.out]) | fail)
                      go_meet
                      exact ⟨Lib.hid ⟨q.app ⟨j, some i, r⟩, (heap_setCell_other _ ⟨gu, kk, none⟩ g _ hgg).trans ((HBc.out.block g hgl0).trans HQ.out.1), by rw [HAPP.out]; exact HSET.out, HQ.out.2.2.1.app ⟨hjn, HRL.out, fun i' h => by have h2 : i = i' := Option.some.inj h; show i' < j; omega⟩, HS.out⟩, Lib.hid ((HBB.out.trans (HBc.out.mono HBB.out.size)).setCell (p := ⟨gu, kk, none⟩) hgB _)⟩
                    · have HS := Lib.hid (show stepI n q x.data.toList = some q from by rw [HST.out, hE, hG]; simp only [hY]; rw [if_neg hij])
                      have hijI : ¬ (i : Int) < (j : Int) := by omega
                      have hgl0 : g < wr.heap.size := (Array.getElem?_eq_some_iff.1 HQ.out.1).1
                      clear hE hG hY HST HBAD
                      go_wp2_with (first | (go_at_call_of 98 x; refine (cut_any x _ (by omega) _ HVr.out).mono ?_; rintro e wa ⟨a1, b1, f1, rfl, ha1, hb1, hsa1, hsb1, hba⟩; rw [show (⟨#[61]⟩ : ByteArray).data.toList = [61] from rfl, HAD.out.1] at ha1 hb1) | (go_at_call_of 98 a1; refine (cut_any a1 _ (by omega) _ (HVr.out.below hba)).mono ?_; rintro e wb ⟨a2, b2, f2, rfl, ha2, hb2, hsa2, hsb2, hbb⟩; rw [show (⟨#[94]⟩ : ByteArray).data.toList = [94] from rfl, ha1, HAD.out.2] at ha2 hb2) | (go_at_call 99; refine (exps_any n hn6 b1 (by omega) _).mono ?_; rintro e wc' ⟨v, bb, rfl, hbc, hcase⟩; rw [hb1, HE.out] at hcase; obtain ⟨rfl, hrl, hro⟩ : bb = true ∧ r.length = n ∧ RO wb.heap.size wc' v r := (by rcases hcase with ⟨h, r', h1, h2, h3⟩ | ⟨_, h⟩; cases h1; exact ⟨h, h2, h3⟩; cases h); obtain ⟨⟨gv, cv, rfl⟩, hro2⟩ := hro; have HBc := Lib.hid (show Below wr.heap.size wr wc' from Below.step' (Below.step' hba hbb) hbc); clear hcase hro2 hrl) | (go_at_call_of 100 a2; refine (gen_any n (by omega) a2 (by omega) _).mono ?_; rintro e wd ⟨rfl, rfl⟩; rw [ha2, HG.out]) | (go_at_call_of 100 b2; refine (gen_any n (by omega) b2 (by omega) _).mono ?_; rintro e wd ⟨rfl, rfl⟩; rw [hb2, HY.out]) | fail)
                      go_meet
                      exact ⟨Lib.hid ⟨q, (HBc.out.block g hgl0).trans HQ.out.1, HQ.out.2.1.below HBc.out, HQ.out.2.2.1, HS.out⟩, Lib.hid (HBB.out.trans (HBc.out.mono HBB.out.size))⟩
          · obtain rfl : mr = k := by omega
            have HRI := Lib.hid (show readI s.data.toList = some q from by
              rw [HT.out]
              rw [List.take_of_length_le (by simp [HML.out])] at hq4
              exact hq4)
            have hqn : q.os.length = n := hq3.os
            have HVAL := Lib.hid (hq2.val.mono (S' := fun _ => True) fun _ _ => trivial)
            have HIP := Lib.hid (ImplW.isPres_any wr (.slice x1 n y1) (.slice x2 n y2) (.slice x3 n y3) q.val HVAL.out)
            have HQ := Lib.hid (And.intro hq1 (And.intro hq2 hqn))
            have HBB := hB
            obtain ⟨⟨d0, d1, d2⟩, -⟩ := row3f hq1
            have hgl : g < wr.heap.size := (Array.getElem?_eq_some_iff.1 hq1).1
            have hgle : w4.heap.size ≤ g := HGW.out.1
            clear hq1 hq2 hq3 hq4 hqn hQ hB hlt
            by_cases hval : Valid q.val
            · have hpt : PtrP (fun _ => True) wr g 0 q.val := ⟨trivial, hgl, _, _, _, d0, d1, d2, HVAL.out⟩
              have HTX := Lib.hid (fun (W : World) (hb : Below wr.heap.size wr W) => itxt_any q.os.length q (Vl.ok hval) g 0 W (hpt.keep (Keep.of_below hb)))
              have HVL := Lib.hid hval
              clear hval hpt
              by_cases htx : txt q = s.data.toList
              · have HTXT := Lib.hid htx
                clear htx
                go_wp2_with (first | (go_at_call 101; refine HIP.out.mono ?_; rintro e w7 ⟨r, rfl, hr, hb7⟩; obtain rfl : r = true := hr.2 HVL.out) | (go_at_call 102; refine (HTX.out _ hb7).mono ?_; rintro e w8 ⟨s8, rfl, hs8, hb8⟩; have hcmp : (s8.toList == s.toList) = true := (NumD.beqT (by apply ByteArray.ext; apply Array.toList_inj.1; rw [hs8]; exact HTXT.out)); have HB8 := Lib.hid (Below.step' hb7 hb8); have HB9 := Lib.hid (HBr.out.trans (HB8.out.mono HBr.out.size)); obtain ⟨⟨e0, e1, e2⟩, f0, f1, f2⟩ := row3f (HR.out w8 HB9.out); have hgl8 : g0 < w8.heap.size := (Array.getElem?_eq_some_iff.1 (HR.out w8 HB9.out)).1; obtain ⟨⟨k0, k1, k2⟩, -⟩ := row3f ((HB8.out.block g hgl).trans HQ.out.1); have hgl9 : g < w8.heap.size := Nat.lt_of_lt_of_le hgl HB8.out.size; clear hb7 hb8 hr) | fail)
                obtain ⟨⟨z0, z1, z2⟩, -⟩ := row3f (put3 (x := .slice x1 n y1) (y := .slice x2 n y2) (z := .slice x3 n y3) (HR.out _ HB9.out))
                have hg0 : ¬ w4.heap.size ≤ g0 := by have h1 := HS1.out; have h2 := HB4.out.size; omega
                exact bodyPost_ret (v := .tuple #[.agg #[.slice x1 n y1, .slice x2 n y2, .slice x3 n y3], .bool true]) (by simp [results, Tryz.results82, go_sem, z0, z1, z2]) rfl ⟨_, _, _, _, rfl, ⟨.inl ⟨rfl, q, HVL.out, HTXT.out, ((HQ.out.2.1.below HB8.out).keep (S := fun k => w4.heap.size ≤ k) ((((Keep.refl _ _).setCell (p := ⟨g0, 0, none⟩) hg0 _).setCell (p := ⟨g0, 1, none⟩) hg0 _).setCell (p := ⟨g0, 2, none⟩) hg0 _) (fun _ h => h)).mono (Nat.le_trans (by rw [HS1.out, HG0.out]; omega) HB4.out.size)⟩, fun h => by simp at h⟩, res_below HG0.out.symm (HB1.out.trans (HB9.out.mono (by rw [HS1.out, HG0.out]; omega))) _ _ _⟩
              · have HTXT := Lib.hid htx
                clear htx
                go_wp2_with (first | (go_at_call 101; refine HIP.out.mono ?_; rintro e w7 ⟨r, rfl, hr, hb7⟩; obtain rfl : r = true := hr.2 HVL.out) | (go_at_call 102; refine (HTX.out _ hb7).mono ?_; rintro e w8 ⟨s8, rfl, hs8, hb8⟩; have hcmp : (s8.toList == s.toList) = false := (NumD.beqF fun e => HTXT.out (by rw [← hs8, e])); have HB8 := Lib.hid (Below.step' hb7 hb8); have HB9 := Lib.hid (HBr.out.trans (HB8.out.mono HBr.out.size)); obtain ⟨⟨e0, e1, e2⟩, f0, f1, f2⟩ := row3f (HR.out w8 HB9.out); have hgl8 : g0 < w8.heap.size := (Array.getElem?_eq_some_iff.1 (HR.out w8 HB9.out)).1; clear hb7 hb8 hr) | fail)
                obtain ⟨⟨z0, z1, z2⟩, -⟩ := row3f (put3 (x := nilS) (y := nilS) (z := nilS) (HR.out _ HB9.out))
                exact bodyPost_ret (v := .tuple #[.agg #[nilS, nilS, nilS], .bool false]) (by simp [results, Tryz.results82, go_sem, z0, z1, z2]) rfl ⟨_, _, _, _, rfl, ⟨.inr ⟨rfl, readI_some HRI.out fun h => HTXT.out h.2⟩, fun _ => ⟨rfl, rfl, rfl⟩⟩, res_below HG0.out.symm (HB1.out.trans (HB9.out.mono (by rw [HS1.out, HG0.out]; omega))) _ _ _⟩
            · have HVN := Lib.hid hval
              clear hval
              go_wp2_with (first | (go_at_call 101; refine HIP.out.mono ?_; rintro e w7 ⟨r, rfl, hr, hb7⟩; obtain rfl : r = false := (by cases r; exact rfl; exact absurd (hr.1 rfl) HVN.out); have HB9 := Lib.hid (HBr.out.trans (hb7.mono HBr.out.size)); obtain ⟨⟨e0, e1, e2⟩, f0, f1, f2⟩ := row3f (HR.out w7 HB9.out); have hgl8 : g0 < w7.heap.size := (Array.getElem?_eq_some_iff.1 (HR.out w7 HB9.out)).1; clear hb7 hr) | fail)
              obtain ⟨⟨z0, z1, z2⟩, -⟩ := row3f (put3 (x := nilS) (y := nilS) (z := nilS) (HR.out _ HB9.out))
              exact bodyPost_ret (v := .tuple #[.agg #[nilS, nilS, nilS], .bool false]) (by simp [results, Tryz.results82, go_sem, z0, z1, z2]) rfl ⟨_, _, _, _, rfl, ⟨.inr ⟨rfl, readI_some HRI.out fun h => HVN.out h.1⟩, fun _ => ⟨rfl, rfl, rfl⟩⟩, res_below HG0.out.symm (HB1.out.trans (HB9.out.mono (by rw [HS1.out, HG0.out]; omega))) _ _ _⟩
end Go.Proofs.YtbamkklhkhglnaaGreatDoor.TrB
