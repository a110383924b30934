import Derived.Test.YtabkibmnghbahaaGreatImplPQ
namespace Go.Proofs.YtabkibmnghbahaaGreat.ImplR
open Go.RowKit Go.Proofs.YtabkibmnghbahaaGreat Go.Proofs.YtabkibmnghbahaaGreat.Tow Go.Proofs.YtabkibmnghbahaaGreat.NumT Go.Proofs.YtabkibmnghbahaaGreat.ImplN Go.Proofs.YtabkibmnghbahaaGreat.ImplP Go.Proofs.YtabkibmnghbahaaGreat.ImplQ
set_option linter.unusedVariables false
set_option linter.unusedSimpArgs false

theorem sl_one (g x : Nat) (o : World) (h : o.cell? ⟨g, 0, none⟩ = some (.int .i64 (x : Int))) (hs : g < o.heap.size) : SlI Any o (.slice (some ⟨g, 0, none⟩) 1 1) (ints [x]) := by
  refine ⟨some ⟨g, 0, none⟩, 1, rfl, by simp [ints], by simp [maxLen], by simp, fun i y hy => ?_⟩
  match i, hy with
  | 0, hy => simp [ints] at hy; subst hy; exact ⟨g, 0, rfl, trivial, hs, _, h, rfl⟩
  | i + 1, hy => simp [ints] at hy

theorem TabG.mono {S S' : Nat → Prop} {w : World} {bg : Nat} {T : Tw} (h : TabG S w bg T) (hS : ∀ k, S k → S' k) : TabG S' w bg T := by
  obtain ⟨h1, h2, v, hc, hs⟩ := h
  exact ⟨hS _ h1, h2, v, hc, hs.mono hS⟩

set_option maxRecDepth 100000 in
set_option maxHeartbeats 1000000 in
theorem power_any (T : Tw) (hT : Wf T) (hz : sz T ≤ 729) (w : World) (bg : Nat) (hG : TabG Any w bg T) (x k : Nat) (hx : x < sz T) (hk : k ≤ 1000) :
    Calls Tryz.prog 139 #[.pointer (some ⟨bg, 0, none⟩), .int .i64 (x : Int), .int .i64 (k : Int)] w (IntR (it (fun z => pr T z x) k 0) w) := by
  have HP := Lib.hid (fun W vx ve hG h1 h2 => product_any T hT hz Any W bg hG vx ve [x] [k] h1 h2 rfl (by simp) (by simpa using hx) (by simpa using hk))
  have HG := Lib.hid hG
  clear hG hx hk hz
  go_enter Tryz.func139, Tryz.ntmps139
  go_wp2_with fail
  have hA : ((w.alloc (.cells #[.int .i64 (x : Int)] 3)).alloc (.cells #[.int .i64 (k : Int)] 2)).heap[w.heap.size]? = some (.cells #[.int .i64 (x : Int)] 3) := (heap_alloc_old _ _ (by simp)).trans (heap_alloc_new w _)
  have hB : ((w.alloc (.cells #[.int .i64 (x : Int)] 3)).alloc (.cells #[.int .i64 (k : Int)] 2)).heap[w.heap.size + 1]? = some (.cells #[.int .i64 (k : Int)] 2) := by
    have h := heap_alloc_new (w.alloc (.cells #[.int .i64 (x : Int)] 3)) (.cells #[.int .i64 (k : Int)] 2)
    have e : (w.alloc (.cells #[.int .i64 (x : Int)] 3)).heap.size = w.heap.size + 1 := by simp
    rw [e] at h
    exact h
  have h1 := sl_one w.heap.size x _ ((cell_of_row _ w.heap.size 0 _ _ (0, 0) hA).trans rfl) (by simp; omega)
  have h2 := sl_one (w.heap.size + 1) k _ ((cell_of_row _ (w.heap.size + 1) 0 _ _ (0, 0) hB).trans rfl) (by simp)
  refine (HP.out _ _ _ (HG.out.keep (((Keep.refl _ w).alloc _).alloc _)) h1 h2).mono ?_
  clear hA hB h1 h2
  rintro e w1 ⟨rfl, m, rfl⟩
  go_wp2_with fail
  go_ret
  exact ⟨rfl, below_drewN (((Below.refl _ _).alloc (Nat.le_refl _) _).alloc (by simp) _) m⟩

/-- the set of the products of the powers of x below k and a set -/
def ExtR (T : Tw) (M x k : Nat) (w : World) (e : Ending) (w' : World) : Prop :=
  ∃ O : Nat, e = .returned (.int .u64 (O : Int)) ∧ O < 2 ^ 32 ∧ (∀ c, O.testBit c = true ↔ ∃ j, j < k ∧ ∃ s, s < sz T ∧ M.testBit s = true ∧ it (pr T x) j s = c) ∧ w' = w

set_option maxHeartbeats 4000000 in
theorem extend_any (T : Tw) (hT : Wf T) (hz : sz T ≤ 27) (w : World) (bg : Nat) (hG : TabG Any w bg T) (M x k : Nat) (hM : M < 2 ^ 32 ∧ ∀ c, M.testBit c = true → c < sz T) (hx : x < sz T) (hk : k ≤ 1000) :
    Calls Tryz.prog 100 #[.pointer (some ⟨bg, 0, none⟩), .int .u64 (M : Int), .int .i64 (x : Int), .int .i64 (k : Int)] w (ExtR T M x k w) := by
  have hpos := sz_pos hT
  obtain ⟨gt, ot, ct, hbg, hct, hc0, HR⟩ := hG.open hpos
  obtain ⟨gr, or, cr, hcr, hcr1, HR2⟩ := HR x hx
  have HRR := Lib.hid HR2
  have HM := Lib.hid hM
  have HPL := Lib.hid (pr_lt hT)
  clear HR HR2 hG hM hT
  go_enter Tryz.func100, Tryz.ntmps100
  go_wp2_with fail
  go_loop [1, 9, 14] (fun mv ov i => ∃ q : Nat, q ≤ k ∧ i = .int .i64 (q : Int) ∧ ∃ M' O : Nat, mv = .int .u64 (M' : Int) ∧ ov = .int .u64 (O : Int) ∧
    Hid (M' < 2 ^ 32 ∧ O < 2 ^ 32 ∧ (∀ c, M'.testBit c = true → c < sz T) ∧ (∀ c, c < sz T → (M'.testBit c = true ↔ ∃ s, s < sz T ∧ M.testBit s = true ∧ it (pr T x) q s = c)) ∧ (∀ c, O.testBit c = true ↔ ∃ j, j < q ∧ ∃ s, s < sz T ∧ M.testBit s = true ∧ it (pr T x) j s = c))) (fun _ _ i => k - (intOf i).toNat)
  case atStart => exact ⟨0, Nat.zero_le _, rfl, M, 0, rfl, rfl, Lib.hid ⟨HM.out.1, by decide, HM.out.2, fun c hc => ⟨fun h => ⟨c, hc, h, rfl⟩, fun ⟨s, _, h, e⟩ => by rw [← e]; exact h⟩, fun c => by simp⟩⟩
  case round =>
    obtain ⟨q, hq, rfl, M', O', rfl, rfl, hR⟩ := hrel
    by_cases hlt : q < k
    · have hd : decide ((q : Int) < (k : Int)) = true := by simp; omega
      go_wp2_with fail
      go_loop [9, 21] (fun ov i => ∃ a : Nat, a ≤ sz T ∧ i = .int .i64 (a : Int) ∧ ∃ O : Nat, ov = .int .u64 (O : Int) ∧ Hid (O < 2 ^ 32 ∧ ∀ c, O.testBit c = (O'.testBit c || (decide (c < a) && M'.testBit c)))) (fun _ i => sz T - (intOf i).toNat)
      case atStart => exact ⟨0, Nat.zero_le _, rfl, O', rfl, Lib.hid ⟨hR.out.2.1, fun c => by simp⟩⟩
      case round =>
        obtain ⟨a, ha, rfl, O, rfl, hO⟩ := hrel
        by_cases halt : a < sz T
        · have hd2 : decide ((a : Int) < (sz T : Int)) = true := by simp; omega
          have h1 := Mask.test_eq M' a (by omega) hR.out.1
          have h2 := Mask.set_eq O a (by omega) hO.out.1
          have H2 := Lib.hid (Mask.set_lt O a (by omega) hO.out.1)
          cases hb : M'.testBit a with
          | true =>
            have HBB := Lib.hid hb
            rw [hb] at h1
            clear hb
            go_wp2_with fail
            go_round
            case rel => exact ⟨a + 1, by omega, by go_num, O ||| 2 ^ a, rfl, Lib.hid ⟨H2.out, fun c => by
              rw [Mask.set_test, hO.out.2 c]
              by_cases hca : a = c
              · subst hca; simp [HBB.out]
              · have : decide (c < a + 1) = decide (c < a) := by apply decide_eq_decide.2; omega
                simp [hca, this]⟩⟩
            case measure => simp [intOf]; omega
          | false =>
            have HBB := Lib.hid hb
            rw [hb] at h1
            clear hb
            go_wp2_with fail
            go_round
            case rel => exact ⟨a + 1, by omega, by go_num, O, rfl, Lib.hid ⟨hO.out.1, fun c => by
              rw [hO.out.2 c]
              by_cases hca : a = c
              · subst hca; simp [HBB.out]
              · have : decide (c < a + 1) = decide (c < a) := by apply decide_eq_decide.2; omega
                simp [this]⟩⟩
            case measure => simp [intOf]; omega
        · obtain rfl : a = sz T := by omega
          have hd2 : decide ((sz T : Int) < (sz T : Int)) = false := by simp
          have HO2 : Hid (O < 2 ^ 32 ∧ ∀ c, O.testBit c = true ↔ ∃ j, j < q + 1 ∧ ∃ s, s < sz T ∧ M.testBit s = true ∧ it (pr T x) j s = c) := Lib.hid ⟨hO.out.1, fun c => by
            rw [hO.out.2 c]
            constructor
            · intro h
              rw [Bool.or_eq_true] at h
              rcases h with h | h
              · obtain ⟨j, hj, s, hs⟩ := (hR.out.2.2.2.2 c).1 h
                exact ⟨j, by omega, s, hs⟩
              · rw [Bool.and_eq_true] at h
                obtain ⟨s, hs⟩ := (hR.out.2.2.2.1 c (by simpa using h.1)).1 h.2
                exact ⟨q, by omega, s, hs⟩
            · rintro ⟨j, hj, s, hs⟩
              rw [Bool.or_eq_true]
              rcases Nat.lt_or_ge j q with h | h
              · exact .inl ((hR.out.2.2.2.2 c).2 ⟨j, h, s, hs⟩)
              · obtain rfl : j = q := by omega
                have hc : c < sz T := by
                  rw [← hs.2.2]
                  cases j with
                  | zero => exact hs.1
                  | succ j => rw [it_succ']; exact HPL.out _ _
                rw [Bool.and_eq_true]
                exact .inr ⟨by simpa using hc, (hR.out.2.2.2.1 c hc).2 ⟨s, hs⟩⟩⟩
          clear hO
          go_wp2_with fail
          go_loop [11, 39] (fun ov i => ∃ a : Nat, a ≤ sz T ∧ i = .int .i64 (a : Int) ∧ ∃ N : Nat, ov = .int .u64 (N : Int) ∧ Hid (N < 2 ^ 32 ∧ ∀ c, N.testBit c = true ↔ ∃ d, d < a ∧ M'.testBit d = true ∧ pr T x d = c)) (fun _ i => sz T - (intOf i).toNat)
          case atStart => exact ⟨0, Nat.zero_le _, rfl, 0, rfl, Lib.hid ⟨by decide, fun c => by simp⟩⟩
          case round =>
            obtain ⟨a, ha, rfl, N, rfl, hN⟩ := hrel
            by_cases halt : a < sz T
            · have hd2 : decide ((a : Int) < (sz T : Int)) = true := by simp; omega
              have h1 := Mask.test_eq M' a (by omega) hR.out.1
              have hpl := HPL.out x a
              have h2 := Mask.set_eq N (pr T x a) (by omega) hN.out.1
              have H2 := Lib.hid (Mask.set_lt N (pr T x a) (by omega) hN.out.1)
              have hcc := HRR.out a halt
              cases hb : M'.testBit a with
              | true =>
                have HBB := Lib.hid hb
                rw [hb] at h1
                clear hb
                go_wp2_with fail
                go_round
                case rel => exact ⟨a + 1, by omega, by go_num, N ||| 2 ^ pr T x a, rfl, Lib.hid ⟨H2.out, fun c => by
                  rw [Mask.set_test, Bool.or_eq_true, hN.out.2 c]
                  constructor
                  · rintro (⟨d, hd, h⟩ | h)
                    · exact ⟨d, by omega, h⟩
                    · exact ⟨a, by omega, HBB.out, by simpa using h⟩
                  · rintro ⟨d, hd, h⟩
                    rcases Nat.lt_or_ge d a with hda | hda
                    · exact .inl ⟨d, hda, h⟩
                    · obtain rfl : d = a := by omega
                      exact .inr (by simpa using h.2)⟩⟩
                case measure => simp [intOf]; omega
              | false =>
                have HBB := Lib.hid hb
                rw [hb] at h1
                clear hb
                go_wp2_with fail
                go_round
                case rel => exact ⟨a + 1, by omega, by go_num, N, rfl, Lib.hid ⟨hN.out.1, fun c => by
                  rw [hN.out.2 c]
                  constructor
                  · rintro ⟨d, hd, h⟩
                    exact ⟨d, by omega, h⟩
                  · rintro ⟨d, hd, h⟩
                    rcases Nat.lt_or_ge d a with hda | hda
                    · exact ⟨d, hda, h⟩
                    · obtain rfl : d = a := by omega
                      exact absurd (HBB.out.symm.trans h.1) (by decide)⟩⟩
                case measure => simp [intOf]; omega
            · obtain rfl : a = sz T := by omega
              have hd2 : decide ((sz T : Int) < (sz T : Int)) = false := by simp
              go_wp2_with fail
              go_round
              case rel => exact ⟨q + 1, by omega, by go_num, N, O, rfl, rfl, Lib.hid ⟨hN.out.1, HO2.out.1, fun c h => by
                  obtain ⟨d, hd, h⟩ := (hN.out.2 c).1 h
                  rw [← h.2]; exact HPL.out _ _, fun c hc => by
                  rw [hN.out.2 c]
                  constructor
                  · rintro ⟨d, hd, h, h'⟩
                    obtain ⟨s, hs, hm, e⟩ := (hR.out.2.2.2.1 d hd).1 h
                    exact ⟨s, hs, hm, by rw [it_succ', e, h']⟩
                  · rintro ⟨s, hs, hm, e⟩
                    rw [it_succ'] at e
                    have hlt : it (pr T x) q s < sz T := by
                      cases q with
                      | zero => exact hs
                      | succ q => rw [it_succ']; exact HPL.out _ _
                    exact ⟨it (pr T x) q s, hlt, (hR.out.2.2.2.1 _ hlt).2 ⟨s, hs, hm, rfl⟩, e⟩, HO2.out.2⟩⟩
              case measure => simp [intOf]; omega
    · obtain rfl : q = k := by omega
      have hd : decide ((q : Int) < (q : Int)) = false := by simp
      go_wp2_with fail
      go_ret
      exact ⟨O', rfl, hR.out.2.1, hR.out.2.2.2.2, rfl⟩
end Go.Proofs.YtabkibmnghbahaaGreat.ImplR

namespace Go.Proofs.YtabkibmnghbahaaGreat.ImplS
open Go.RowKit Go.Proofs.YtabkibmnghbahaaGreat Go.Proofs.YtabkibmnghbahaaGreat.Tow Go.Proofs.YtabkibmnghbahaaGreat.NumT Go.Proofs.YtabkibmnghbahaaGreat.ImplN Go.Proofs.YtabkibmnghbahaaGreat.ImplP Go.Proofs.YtabkibmnghbahaaGreat.ImplQ Go.Proofs.YtabkibmnghbahaaGreat.ImplR Go.Proofs.YtabkibmnghbahaaGreat.ImplW
set_option linter.unusedVariables false
set_option linter.unusedSimpArgs false

/-- the relations of a level hold for an image x, with the images im of the levels behind it -/
def Fits (Q : Tw) (L : Lv) (im : List Nat) (x : Nat) : Prop :=
  it (fun z => pr Q z x) L.o 0 = prodL (pr Q) 0 im L.w ∧ ∀ k y, L.c[k]? = some y → pr Q (im.getD k 0) x = pr Q x (prodL (pr Q) 0 im y)

/-- the struct of a search -/
structure IsoS (w : World) (bs bp op bg gi ci : Nat) (T Q : Tw) (ims : List Nat) : Prop where
  lt : bs < w.heap.size
  p : w.cell? ⟨bs, 0, none⟩ = some (.pointer (some ⟨bp, op, none⟩))
  g : w.cell? ⟨bs, 1, none⟩ = some (.pointer (some ⟨bg, 0, none⟩))
  im : w.cell? ⟨bs, 2, none⟩ = some (.slice (some ⟨gi, 0, none⟩) T.length ci)
  pre : PtrP Any w bp op (ofTw T)
  tab : TabG Any w bg Q
  len : ims.length = T.length
  ims : SlI Any w (.slice (some ⟨gi, 0, none⟩) T.length ci) (ints ims)
theorem IsoS.keep {w w' : World} {bs bp op bg gi ci : Nat} {T Q : Tw} {ims : List Nat} (h : IsoS w bs bp op bg gi ci T Q ims) (hb : Below w.heap.size w w') : IsoS w' bs bp op bg gi ci T Q ims :=
  have hk : Keep Any w w' := Keep.of_below hb
  ⟨Nat.lt_of_lt_of_le h.lt hb.size, by rw [hk.cell trivial h.lt]; exact h.p, by rw [hk.cell trivial h.lt]; exact h.g, by rw [hk.cell trivial h.lt]; exact h.im, h.pre.keep hk, h.tab.keep hk, h.len, h.ims.keep hk⟩

set_option maxRecDepth 100000 in
set_option maxHeartbeats 4000000 in
theorem fits_any (T Q : Tw) (hT : Wf T) (hs : Small T) (hQ : Wf Q) (hz : sz Q ≤ 729) (w : World) (bs bp op bg gi ci : Nat) (ims : List Nat) (i x : Nat) (L : Lv) (hL : T[i]? = some L) (h : IsoS w bs bp op bg gi ci T Q ims) (hx : x < sz Q) (hin : ∀ y ∈ ims, y < sz Q) :
    Calls Tryz.prog 99 #[.pointer (some ⟨bs, 0, none⟩), .int .i64 (i : Int), .int .i64 (x : Int)] w (ExB (Fits Q L (ims.drop (i + 1)) x) w) := by
  have hil := (List.getElem?_eq_some_iff.1 hL).1
  have hs6 := hs.1
  obtain ⟨_, hbl, vO, vP, vC, hp0, hp1, hp2, hV⟩ := h.pre
  obtain ⟨aO, cO, aP, cP, aC, cC, rfl, rfl, rfl, hO1, hP1, hC1⟩ := hV.open
  obtain ⟨bO, oO, rfl, _, hbO, hcO⟩ := hV.ord hL
  obtain ⟨bP, oP, uP, rfl, _, hbP, hcP, huP⟩ := hV.pow hL
  obtain ⟨bC, oC, a2, c2, rfl, _, hbC, hcC, hc2, hcy⟩ := hV.con hL
  have hpos := sz_pos hQ
  obtain ⟨gt, ot, ct, hgl, hct, hct0, HRT⟩ := h.tab.open hpos
  obtain ⟨_, _, vt, hvt, hslt⟩ := h.tab
  have q : ∀ (b o : Nat) (v : Value), b < w.heap.size → w.cell? ⟨b, o, none⟩ = some v → ∀ x : BW w.heap.size w, x.1.cell? ⟨b, o, none⟩ = some v := fun b o v hb hc x => (x.2.cell (p := ⟨b, o, none⟩) hb).trans hc
  have q0 := q _ _ _ h.lt h.p
  have q1 := q _ _ _ h.lt h.g
  have q2 := q _ _ _ h.lt h.im
  have q3 := q _ _ _ hbl hp0
  have q4 := q _ _ _ hbl hp1
  have q5 := q _ _ _ hbl hp2
  have q6 := q _ _ _ hbO hcO
  have q7 := q _ _ _ hbP hcP
  have q8 := q _ _ _ hbC hcC
  have q9 := q _ _ _ hgl hct0
  have HTR : Hid (∀ a, a < sz Q → ∃ gr or cr, sz Q ≤ cr ∧ (∀ x1 : BW w.heap.size w, x1.1.cell? ⟨gt, ot + a, none⟩ = some (.slice (some ⟨gr, or, none⟩) (sz Q) cr)) ∧ ∀ j, j < sz Q → ∀ x1 : BW w.heap.size w, x1.1.cell? ⟨gr, or + j, none⟩ = some (.int .i64 (pr Q a j : Int))) := Lib.hid (fun a ha => by
    obtain ⟨gr, or, cr, h1, h2, h3⟩ := HRT a ha
    exact ⟨gr, or, cr, h1, q _ _ _ (World.block_lt_of_cell? w _ h2) h2, fun j hj => q _ _ _ (World.block_lt_of_cell? w _ (h3 j hj)) (h3 j hj)⟩)
  have HIM : Hid (∀ (j a : Nat), ims[j]? = some a → ∀ x1 : BW w.heap.size w, x1.1.cell? ⟨gi, j, none⟩ = some (.int .i64 (a : Int))) := Lib.hid (fun j a hj => by
    obtain ⟨b, o, he, _, hb, hc⟩ := h.ims.at hj
    obtain ⟨rfl, rfl⟩ : gi = b ∧ 0 = o := by simpa using he
    rw [Nat.zero_add] at hc
    exact q _ _ _ hb hc)
  have HPD : Hid (∀ y, prodL (pr Q) 0 (ims.drop (i + 1)) y < sz Q) := Lib.hid (fun y => prodL_inv (· < sz Q) (pr Q) (fun _ _ _ _ => pr_lt hQ _ _) _ (fun c hc => hin c (List.mem_of_mem_drop hc)) y 0 hpos)
  have HIN := Lib.hid hin
  have hlenI := h.len
  have hxx := hx
  have HI := Lib.hid h
  have hLv := lvl' hT hL
  have hcl : L.c.length = T.length - (i + 1) := hLv.2.1
  have HPW := Lib.hid (fun (x1 : BW w.heap.size w) => power_any Q hQ hz x1.1 bg (h.tab.keep (Keep.of_below x1.2)) x L.o hx (by have := hs.2 L (List.mem_of_getElem? hL); omega))
  have hOL := Nat.le_of_lt_succ (Nat.lt_succ_of_le (hs.2 L (List.mem_of_getElem? hL)))
  have HPR : Hid (∀ (x1 : BW w.heap.size w) (y : List Nat) (vy : Value), El (T.drop (i + 1)) y → SlI Any w vy (ints (pad (i + 1) y)) → Calls Tryz.prog 140 #[.pointer (some ⟨bg, 0, none⟩), .slice (some ⟨gi, 0, none⟩) T.length ci, vy] x1.1 (NumD (prodL (pr Q) 0 (ims.drop (i + 1)) y) x1.1)) :=
    Lib.hid (fun x1 y vy hy hv => by
      have hp := product_any Q hQ hz Any x1.1 bg (h.tab.keep (Keep.of_below x1.2)) _ vy ims (pad (i + 1) y) (h.ims.keep (Keep.of_below x1.2)) (hv.keep (Keep.of_below x1.2)) (by rw [h.len, pad_length, El_length hy, List.length_drop]; omega) (by rw [pad_length, El_length hy, List.length_drop]; omega) hin (by
        intro e he
        simp only [pad, List.mem_append, List.mem_replicate] at he
        rcases he with ⟨_, rfl⟩ | he
        · omega
        · obtain ⟨j, hj, rfl⟩ := List.getElem_of_mem he
          obtain ⟨M, hM, hlt⟩ := El_lt hy (List.getElem?_eq_getElem hj)
          have := hs.2 M (List.mem_of_mem_drop (List.mem_of_getElem? hM))
          omega)
      rwa [prodL_pad _ _ _ _ _ (by rw [h.len]; omega)] at hp)
  have HUP := Lib.hid huP
  have HLV := Lib.hid hLv
  have HCY := Lib.hid hcy
  clear q hcO hcP hcC huP hp0 hp1 hp2 hV h hLv hcy hL hin hT hs hQ hz hx HRT hvt hslt hct0
  go_enter Tryz.func99, Tryz.ntmps99
  go_upto_region 1 with fail
  refine wp_region_below w.heap.size w (Below.refl _ _) (by kernel_rfl) (by kernel_rfl) ?_
  repeat (go_big_quiet_step ((first | (go_at_call 139; exact calls_below (Nat.le_refl _) (HPW.out _)) | (go_at_call 140; exact calls_drawn (HPR.out _ L.w _ HLV.out.2.2.2.1 HUP.out)))))
  refine wpQuiet_nil ?_
  intro wx hw'
  have hbx : Below w.heap.size w wx := by obtain ⟨x1, rfl⟩ := hw'; exact x1.2
  clear hw'
  have HBX := Lib.hid hbx
  have r0 : wx.cell? ⟨bs, 0, none⟩ = _ := q0 ⟨wx, hbx⟩
  have r3 : wx.cell? ⟨bp, op + 2, none⟩ = _ := q5 ⟨wx, hbx⟩
  have r8 : wx.cell? ⟨bC, oC + i, none⟩ = _ := q8 ⟨wx, hbx⟩
  clear hbx
  by_cases h1 : it (fun z => pr Q z x) L.o 0 = prodL (pr Q) 0 (ims.drop (i + 1)) L.w
  · have hd : (((it (fun z => pr Q z x) L.o 0 : Nat) : Int) != ((prodL (pr Q) 0 (ims.drop (i + 1)) L.w : Nat) : Int)) = false := by rw [h1]; simp
    have H1 := Lib.hid h1
    clear h1
    go_wp2_with fail
    go_loopw [56] (fun iv wr => ∃ k : Nat, k ≤ L.c.length ∧ iv = .int .i64 (k : Int) ∧ Hid (∀ j y, j < k → L.c[j]? = some y → pr Q ((ims.drop (i + 1)).getD j 0) x = pr Q x (prodL (pr Q) 0 (ims.drop (i + 1)) y)) ∧ Below w.heap.size w wr) (fun iv _ => L.c.length - (intOf iv).toNat)
    case atStart => exact ⟨0, Nat.zero_le _, rfl, Lib.hid (fun j y h => absurd h (Nat.not_lt_zero _)), HBX.out⟩
    case round =>
      obtain ⟨k, hk, rfl, hR, hb⟩ := hrel
      have HB := Lib.hid hb
      by_cases hlt : k < L.c.length
      · obtain ⟨y, hy⟩ : ∃ y, L.c[k]? = some y := ⟨_, List.getElem?_eq_getElem hlt⟩
        obtain ⟨b2, o2, uy, rfl, _, hb2, hcy2, huy⟩ := HCY.out k y hy
        have r10 : wr.cell? ⟨b2, o2 + k, none⟩ = some uy := (hb.cell (p := ⟨b2, o2 + k, none⟩) hb2).trans hcy2
        obtain ⟨a, ha⟩ : ∃ a, ims[i + 1 + k]? = some a := ⟨_, List.getElem?_eq_getElem (by omega)⟩
        have hgetD : (ims.drop (i + 1)).getD k 0 = a := by rw [List.getD_eq_getElem?_getD, List.getElem?_drop, ha]; rfl
        have halt := HIN.out a (List.mem_of_getElem? ha)
        have HYE := Lib.hid (HLV.out.2.2.1 y (List.mem_of_getElem? hy))
        have q10 := HIM.out _ _ ha
        obtain ⟨gr, or, cr, hcr, q11, q12'⟩ := HTR.out a halt
        have q12 := q12' x hxx
        obtain ⟨gr2, or2, cr2, hcr2, q13, q14'⟩ := HTR.out x hxx
        have hpd := HPD.out y
        have q14 := q14' _ hpd
        have HUY := Lib.hid huy
        have HY := Lib.hid hy
        have HGD := Lib.hid hgetD
        have hd2 : decide ((k : Int) < (L.c.length : Int)) = true := by simp; omega
        have w1 : IntKind.i64.wrap ((i : Int) + 1) = (i : Int) + 1 := IntWalk.i64_in _ (by omega)
        have w2 : IntKind.i64.wrap ((i : Int) + 1 + (k : Int)) = (i : Int) + 1 + (k : Int) := IntWalk.i64_in _ (by omega)
        have w9 : (i : Int) + 1 + (k : Int) < (T.length : Int) := by omega
        have w10 : (0 : Int) ≤ (i : Int) + 1 + (k : Int) := by omega
        have w11 : ((i : Int) + 1 + (k : Int)).toNat = i + 1 + k := by omega
        clear hb ha hgetD q12' q14' huy hy hcy2
        go_upto_region 6 with fail
        refine wp_region_below w.heap.size w HB.out (by kernel_rfl) (by kernel_rfl) ?_
        repeat (go_big_quiet_step ((first | (go_at_call 140; exact calls_drawn (HPR.out _ y _ HYE.out HUY.out)))))
        refine wpQuiet_nil ?_
        intro wy hw'
        have hby : Below w.heap.size w wy := by obtain ⟨x1, rfl⟩ := hw'; exact x1.2
        clear hw'
        have HBY := Lib.hid hby
        clear hby
        by_cases h2 : pr Q a x = pr Q x (prodL (pr Q) 0 (ims.drop (i + 1)) y)
        · have hd3 : ((pr Q a x : Int) != (pr Q x (prodL (pr Q) 0 (ims.drop (i + 1)) y) : Int)) = false := by rw [h2]; simp
          have H2 := Lib.hid h2
          clear h2
          go_wp2_with fail
          go_roundw
          case rel => exact ⟨k + 1, by omega, by go_num, Lib.hid (fun j y' hj hy' => by
            rcases Nat.lt_or_ge j k with h | h
            · exact hR.out j y' h hy'
            · obtain rfl : j = k := by omega
              obtain rfl : y = y' := Option.some.inj (HY.out.symm.trans hy')
              rw [HGD.out]; exact H2.out), HBY.out⟩
          case measure => simp [intOf]; omega
        · have hd3 : ((pr Q a x : Int) != (pr Q x (prodL (pr Q) 0 (ims.drop (i + 1)) y) : Int)) = true := by
            have : (pr Q a x : Int) ≠ (pr Q x (prodL (pr Q) 0 (ims.drop (i + 1)) y) : Int) := fun h => h2 (by exact_mod_cast h)
            simpa using this
          have H2 := Lib.hid h2
          clear h2
          go_wp2_with fail
          go_ret
          exact ExB_false (fun h => H2.out (by have := h.2 k y HY.out; rwa [HGD.out] at this)) HBY.out
      · obtain rfl : k = L.c.length := by omega
        have hd2 : decide ((L.c.length : Int) < (L.c.length : Int)) = false := by simp
        go_wp2_with fail
        go_ret
        exact ExB_true ⟨H1.out, fun j y hy => hR.out j y (List.getElem?_eq_some_iff.1 hy).1 hy⟩ HB.out
  · have hd : (((it (fun z => pr Q z x) L.o 0 : Nat) : Int) != ((prodL (pr Q) 0 (ims.drop (i + 1)) L.w : Nat) : Int)) = true := by
      have : ((it (fun z => pr Q z x) L.o 0 : Nat) : Int) ≠ ((prodL (pr Q) 0 (ims.drop (i + 1)) L.w : Nat) : Int) := fun h => h1 (by exact_mod_cast h)
      simpa using this
    have H1 := Lib.hid h1
    clear h1
    go_wp2_with fail
    go_ret
    exact ExB_false (fun h => H1.out h.1) HBX.out
end Go.Proofs.YtabkibmnghbahaaGreat.ImplS

/-
  Plain: the search for isomorphisms, on numbers.
-/
namespace Go.Proofs.YtabkibmnghbahaaGreat.Grow
open Go.Proofs.YtabkibmnghbahaaGreat Go.Proofs.YtabkibmnghbahaaGreat.Tow Go.Proofs.YtabkibmnghbahaaGreat.NumT Go.Proofs.YtabkibmnghbahaaGreat.ImplP Go.Proofs.YtabkibmnghbahaaGreat.ImplQ Go.Proofs.YtabkibmnghbahaaGreat.ImplS
set_option linter.unusedVariables false
set_option linter.unusedSimpArgs false

/-- a number lies in what images generate -/
def inS (Q : Tw) : Tw → List Nat → Nat → Prop
  | L :: T, x :: im, c => ∃ j, j < L.o ∧ ∃ s, inS Q T im s ∧ it (pr Q x) j s = c
  | _, _, c => c = 0
theorem inS_lt {Q : Tw} (hQ : Wf Q) : ∀ {T : Tw} {im : List Nat} {c : Nat}, inS Q T im c → c < sz Q
  | [], _, c, h => by simp only [inS] at h; rw [h]; exact sz_pos hQ
  | _ :: _, [], c, h => by simp only [inS] at h; rw [h]; exact sz_pos hQ
  | L :: T, x :: im, c, ⟨j, hj, s, hs, e⟩ => by
    cases j with
    | zero => rw [← e]; exact inS_lt hQ hs
    | succ j => rw [← e, it_succ']; exact pr_lt hQ _ _

open Classical in
/-- all ways to choose the images of the first k generators -/
noncomputable def grow (Q T : Tw) : Nat → List Nat → List (List Nat)
  | 0, im => [im]
  | k + 1, im => (List.range (sz Q)).flatMap fun x => if ¬ inS Q (T.drop (k + 1)) im x ∧ Fits Q (T.getD k ⟨0, [], []⟩) im x then grow Q T k (x :: im) else []

open Classical in
/-- the ways whose first new image is below n -/
noncomputable def growTo (Q T : Tw) (k : Nat) (im : List Nat) (n : Nat) : List (List Nat) :=
  (List.range n).flatMap fun x => if ¬ inS Q (T.drop (k + 1)) im x ∧ Fits Q (T.getD k ⟨0, [], []⟩) im x then grow Q T k (x :: im) else []
theorem growTo_zero (Q T : Tw) (k : Nat) (im : List Nat) : growTo Q T k im 0 = [] := rfl
theorem growTo_end (Q T : Tw) (k : Nat) (im : List Nat) : growTo Q T k im (sz Q) = grow Q T (k + 1) im := rfl
theorem growTo_yes {Q T : Tw} {k : Nat} {im : List Nat} {x : Nat} (h : ¬ inS Q (T.drop (k + 1)) im x ∧ Fits Q (T.getD k ⟨0, [], []⟩) im x) : growTo Q T k im (x + 1) = growTo Q T k im x ++ grow Q T k (x :: im) := by
  simp only [growTo, List.range_succ, List.flatMap_append, List.flatMap_cons, List.flatMap_nil, List.append_nil]
  rw [if_pos h]
theorem growTo_no {Q T : Tw} {k : Nat} {im : List Nat} {x : Nat} (h : ¬ (¬ inS Q (T.drop (k + 1)) im x ∧ Fits Q (T.getD k ⟨0, [], []⟩) im x)) : growTo Q T k im (x + 1) = growTo Q T k im x := by
  simp only [growTo, List.range_succ, List.flatMap_append, List.flatMap_cons, List.flatMap_nil, List.append_nil]
  rw [if_neg h, List.append_nil]
theorem growTo_pre (Q T : Tw) (k : Nat) (im : List Nat) {m n : Nat} (h : m ≤ n) : ∃ r, growTo Q T k im n = growTo Q T k im m ++ r := by
  induction n with
  | zero => obtain rfl : m = 0 := by omega
            exact ⟨[], by simp⟩
  | succ n ih =>
    rcases Nat.lt_or_ge n m with h' | h'
    · obtain rfl : m = n + 1 := by omega
      exact ⟨[], by simp⟩
    · obtain ⟨r, hr⟩ := ih h'
      by_cases hc : ¬ inS Q (T.drop (k + 1)) im n ∧ Fits Q (T.getD k ⟨0, [], []⟩) im n
      · rw [growTo_yes hc, hr]; exact ⟨r ++ grow Q T k (n :: im), by simp⟩
      · rw [growTo_no hc]; exact ⟨r, hr⟩
/-- all of them, or the first alone -/
def cutB (b : Bool) (l : List (List Nat)) : List (List Nat) := if b then l.take 1 else l
theorem cutB_false (l : List (List Nat)) : cutB false l = l := rfl
theorem cutB_true (l : List (List Nat)) : cutB true l = l.take 1 := rfl
theorem growTo_length (Q T : Tw) (hz : sz Q ≤ 27) (k : Nat) (hk : ∀ im, (grow Q T k im).length ≤ 27 ^ k) (im : List Nat) (n : Nat) : (growTo Q T k im n).length ≤ n * 27 ^ k := by
  induction n with
  | zero => simp [growTo_zero]
  | succ n ih =>
    by_cases hc : ¬ inS Q (T.drop (k + 1)) im n ∧ Fits Q (T.getD k ⟨0, [], []⟩) im n
    · rw [growTo_yes hc, List.length_append, Nat.add_mul, Nat.one_mul]; exact Nat.add_le_add ih (hk _)
    · rw [growTo_no hc]; exact Nat.le_trans ih (Nat.mul_le_mul_right _ (by omega))
theorem grow_length (Q T : Tw) (hz : sz Q ≤ 27) (k : Nat) : ∀ im, (grow Q T k im).length ≤ 27 ^ k := by
  induction k with
  | zero => intro im; simp [grow]
  | succ k ih =>
    intro im
    rw [← growTo_end]
    refine Nat.le_trans (growTo_length Q T hz k ih im (sz Q)) ?_
    rw [Nat.pow_succ, Nat.mul_comm]
    exact Nat.mul_le_mul_left _ hz
theorem cutB_length (b : Bool) (l : List (List Nat)) : (cutB b l).length ≤ l.length := by
  cases b
  · simp [cutB]
  · simp [cutB]
    exact Nat.min_le_right _ _
end Go.Proofs.YtabkibmnghbahaaGreat.Grow
