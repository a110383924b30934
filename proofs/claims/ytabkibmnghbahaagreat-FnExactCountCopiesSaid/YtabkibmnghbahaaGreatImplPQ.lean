import Derived.Test.YtabkibmnghbahaaGreatImplIO
import Derived.Laws.BitsLemmas
import Derived.Laws.Bits64
namespace Go.Proofs.YtabkibmnghbahaaGreat.ImplP
open Go.RowKit Go.Proofs.YtabkibmnghbahaaGreat Go.Proofs.YtabkibmnghbahaaGreat.Tow Go.Proofs.YtabkibmnghbahaaGreat.NumT Go.Proofs.YtabkibmnghbahaaGreat.ImplN Go.Proofs.YtabkibmnghbahaaGreat.ImplO
set_option linter.unusedVariables false
set_option linter.unusedSimpArgs false

/-- the table of products -/
def pr (T : Tw) (i j : Nat) : Nat := num T (mul T (at_ T i) (at_ T j))
def trow (T : Tw) (i k : Nat) : List Nat := (List.range k).map (pr T i)
def tabl (T : Tw) (k : Nat) : List (List Nat) := (List.range k).map fun i => trow T i (sz T)
theorem trow_succ (T : Tw) (i k : Nat) : trow T i (k + 1) = trow T i k ++ [pr T i k] := by simp [trow, List.range_succ]
theorem tabl_succ (T : Tw) (k : Nat) : tabl T (k + 1) = tabl T k ++ [trow T k (sz T)] := by simp [tabl, List.range_succ]
theorem trow_length (T : Tw) (i k : Nat) : (trow T i k).length = k := by simp [trow]
theorem tabl_length (T : Tw) (k : Nat) : (tabl T k).length = k := by simp [tabl]
theorem allE_get {T : Tw} {n i : Nat} (h : i < n) : (allE T n)[i]? = some (at_ T i) := by simp [allE, h]

/-- a row of numbers that the call made, nil while it is empty -/
def OwnN (e : TypeId) (B : Nat) (w : World) (v : Value) (x : List Nat) : Prop := w.ownsRow B e 1 v x.length (vals (ints x)) ∧ (v = .slice none 0 0 ↔ x = [])
theorem OwnN.row {e : TypeId} {B : Nat} {w : World} {v : Value} {x : List Nat} (h : OwnN e B w v x) (hx : 0 < x.length) : RowOk e B w v x := by
  refine ⟨?_, h.1⟩
  rcases h.1.2 with ⟨_, hn⟩ | ⟨g, cap, cur, e, _⟩
  · omega
  · exact ⟨g, cap, e⟩
theorem OwnN.keep {e : TypeId} {B : Nat} {S : Nat → Prop} {w w' : World} {v : Value} {x : List Nat} (h : OwnN e B w v x) (hk : Keep S w w') (hS : ∀ k, B ≤ k → S k) : OwnN e B w' v x := ⟨ownsRow_keep h.1 hk hS, h.2⟩

set_option maxRecDepth 100000 in
set_option maxHeartbeats 2000000 in
theorem table_any (T : Tw) (hT : Wf T) (hs : Small T) (hg : Tow.Good T) (hz : sz T ≤ 729) (w : World) (b o : Nat) (hP : PtrP Any w b o (ofTw T)) :
    Calls Tryz.prog 46 #[.pointer (some ⟨b, o, none⟩)] w (New2 78 3 (tabl T (sz T)) w) := by
  obtain ⟨i0, hi, hz0, hz1, hz2⟩ := info_parts infoM
  obtain ⟨j0, hj, hj0, hj1, hj2⟩ := info_parts infoN
  have HE := Lib.hid (fun W h => all_any T hT hs.1 hz W b o h)
  have HM : Hid (∀ W va vb x y, PtrP Any W b o (ofTw T) → SlI Any W va (ints x) → ImplD.NN va → SlI Any W vb (ints y) → El T x → El T y → Calls Tryz.prog 80 #[.pointer (some ⟨b, o, none⟩), va, vb] W (NewS (ints (mul T x y)) W)) :=
    Lib.hid (fun W va vb x y hP ha hn hb hx hy => ImplD.multiply_any T hT hs 0 (Nat.zero_le _) hg W b o va vb x y hP ha hn hb hx hy)
  have HN := Lib.hid (fun W vx x hP hx hE => number_any T hT hs.1 hz W b o vx x hP hx hE)
  have HP := Lib.hid hP
  have HZ := Lib.hid hz
  have HT := Lib.hid hT
  have HG := Lib.hid hg
  clear hP hT hz hs hg
  go_enter Tryz.func46, Tryz.ntmps46
  go_wp2_with fail
  refine (HE.out _ HP.out).mono ?_
  rintro e w0 ⟨v3, rfl, hE, hb0⟩
  obtain ⟨a3, c3, rfl, hl3, hm3⟩ := hE.form
  rw [allE_length] at hl3 ⊢
  rw [allE_length] at hE
  have HB0 := Lib.hid hb0
  have HEL := Lib.hid hE
  clear hb0 hE hm3 hl3
  go_wp2_with fail
  go_loopw [4, 14] (fun ov i wr => ∃ k : Nat, k ≤ sz T ∧ i = .int .i64 (k : Int) ∧ Hid (Own2 78 3 w0.heap.size wr ov (tabl T k)) ∧ Below w0.heap.size w0 wr) (fun _ i _ => sz T - (intOf i).toNat)
  case atStart => exact ⟨0, Nat.zero_le _, rfl, Lib.hid (Own2.nil _ _ _ _), Below.refl _ _⟩
  case round =>
    obtain ⟨k, hk, rfl, ho2, hb⟩ := hrel
    rename World => wo
    have HB := Lib.hid hb
    clear hb
    by_cases hlt : k < sz T
    · have hd : decide ((k : Int) < (sz T : Int)) = true := by simp; omega
      obtain ⟨gE, cE, ux, he, hbE, hgE, hcx, hrx⟩ := (HEL.out.of_below HB.out).at (allE_get hlt)
      obtain ⟨rfl, _, rfl⟩ : a3 = some ⟨gE, 0, none⟩ ∧ True ∧ c3 = cE := by have h := he; simp [allE_length] at h; exact ⟨h.1, trivial, h.2⟩
      have HRX := Lib.hid hrx
      obtain ⟨⟨gx, cx, rfl⟩, hrx⟩ := hrx
      clear hrx he
      go_wp2_with fail
      go_loopw [7, 20] (fun rv j wq => ∃ m : Nat, m ≤ sz T ∧ j = .int .i64 (m : Int) ∧ Hid (OwnN 3 wo.heap.size wq rv (trow T k m)) ∧ Below wo.heap.size wo wq) (fun _ j _ => sz T - (intOf j).toNat)
      case atStart => exact ⟨0, Nat.zero_le _, rfl, Lib.hid ⟨World.ownsRow_nil _ _ _ _, by simp [trow]⟩, Below.refl _ _⟩
      case round =>
        obtain ⟨m, hm, rfl, hrow, hbq⟩ := hrel
        have HBQ := Lib.hid hbq
        have HBW := Lib.hid (HB.out.trans (hbq.mono HB.out.size))
        clear hbq
        by_cases hmt : m < sz T
        · have hd2 : decide ((m : Int) < (sz T : Int)) = true := by simp; omega
          obtain ⟨gE', cE', uy, he, hbE', hgE', hcy, hry⟩ := (HEL.out.of_below HBW.out).at (allE_get hmt)
          obtain ⟨rfl, _, rfl⟩ : gE = gE' ∧ True ∧ c3 = cE' := by have h := he; simp [allE_length] at h; exact ⟨h.1, trivial, h.2⟩
          have HRY := Lib.hid hry
          obtain ⟨⟨gy, cy, rfl⟩, hry⟩ := hry
          clear hry he hbE' hgE'
          go_wp2_with fail
          refine (HM.out _ _ _ _ _ (HP.out.keep (Keep.of_below (HB0.out.trans (HBW.out.mono HB0.out.size)))) ((HRX.out.keep (S := fun _ => True) (Keep.of_below HBQ.out) (fun _ _ => trivial)).sl.mono (fun _ _ => trivial)) (fun n c => by simp) (HRY.out.sl.mono (fun _ _ => trivial)) (at_El HT.out k) (at_El HT.out m)).mono ?_
          rintro e w1 ⟨g1, c1, rfl, ho1, hb1⟩
          have HO1 := Lib.hid (ho1.sl.mono (S' := fun _ => True) (fun _ _ => trivial))
          have HBQ1 := Lib.hid (HBQ.out.trans (hb1.mono HBQ.out.size))
          have HBW1 := Lib.hid (HBW.out.trans (hb1.mono HBW.out.size))
          have HR1 := Lib.hid (hrow.out.keep (S := fun _ => True) (Keep.of_below hb1) (fun _ _ => trivial))
          clear ho1 hb1 hrow HRY HBQ HBW
          go_wp2_with fail
          refine (HN.out _ _ _ (HP.out.keep (Keep.of_below (HB0.out.trans (HBW1.out.mono HB0.out.size)))) HO1.out (El_mul HT.out (at_El HT.out k) (at_El HT.out m))).mono ?_
          rintro e w2 ⟨rfl, hb2⟩
          have HBQ2 := Lib.hid (HBQ1.out.trans (hb2.mono HBQ1.out.size))
          have HBW2 := Lib.hid (HBW1.out.trans (hb2.mono HBW1.out.size))
          have HR2 := Lib.hid (HR1.out.keep (S := fun _ => True) (Keep.of_below hb2) (fun _ _ => trivial))
          have h1 := HR2.out.1
          rw [trow_length] at h1
          clear hb2 HR1 HBQ1 HBW1 HO1
          go_wp2_with (at_builtin; refine wpList_append_own _ rfl _ _ 78 rfl wo.heap.size 3 j0 (.int .i64 0) 1 8 Tryz.underlying78 hj hj0 hj1 hj2 rfl (by decide) _ _ _ rfl (h1.alloc _) ⟨w2.heap.size, 0, none⟩ 1 1 [.int .i64 ((pr T k m : Nat) : Int)] rfl rfl ?c1 ?c2 ?c3 ?c4 ?c5 ?_)
          case c1 =>
            intro j u hj
            match j, hj with
            | 0, hj => simp at hj; subst hj; simp [Addr.add, pr]
          case c2 => intro u hu; simp at hu; subst hu; rfl
          case c3 => have := HZ.out; unfold maxLen; omega
          case c4 => have := HZ.out; omega
          case c5 => have := HBQ2.out.size; simp; omega
          · intro v' w3 hown hgrow hnil
            have HNR := Lib.hid (show OwnN 3 wo.heap.size w3 v' (trow T k (m + 1)) from by
              refine ⟨?_, ?_⟩
              · rw [trow_length, trow_succ]; simpa [ints, vals] using hown
              · rw [trow_succ]; simp; simpa using hnil)
            have HB3 := Lib.hid (show Below wo.heap.size wo w3 from (HBQ2.out.alloc (by have := HBQ2.out.size; omega) _).grown hgrow (by simp; have := HBQ2.out.size; omega) (fun g hg => (World.ownsRow.lt h1 g hg).1))
            have hk729 : (m : Int) ≤ 729 := by have := HZ.out; omega
            clear hown hgrow h1 HR2 hnil HBQ2 HBW2
            go_wp2_with fail
            go_roundw
            case rel => exact ⟨m + 1, by omega, by go_num, HNR, HB3.out⟩
            case measure => simp [intOf]; omega
        · obtain rfl : m = sz T := by omega
          have hd2 : decide ((sz T : Int) < (sz T : Int)) = false := by simp
          have HRR := Lib.hid ((hrow.out.row (by rw [trow_length]; omega)))
          obtain ⟨⟨gr, cr, rfl⟩, _⟩ := hrow.out.row (by rw [trow_length]; omega)
          obtain ⟨us, h1, h2, h4⟩ := ho2.out.of_below HBQ.out
          rw [tabl_length] at h1
          have HU := Lib.hid (And.intro h2 h4)
          clear h2 h4 hrow
          go_wp2_with (at_builtin; refine wpList_append_own _ rfl _ _ 64 rfl w0.heap.size 78 i0 (.slice none 0 0) 1 24 Tryz.underlying64 hi hz0 hz1 hz2 rfl (by decide) _ _ _ rfl (h1.alloc _) ⟨wr.heap.size, 0, none⟩ 1 1 [.slice (some ⟨gr, 0, none⟩) (trow T k (sz T)).length cr] rfl rfl ?c1 ?c2 ?c3 ?c4 ?c5 ?_)
          case c1 =>
            intro j u hj
            match j, hj with
            | 0, hj => simp at hj; subst hj; simp [Addr.add]
          case c2 => intro u hu; simp at hu; subst hu; rfl
          case c3 => have := HZ.out; unfold maxLen; omega
          case c4 => have := HZ.out; omega
          case c5 => have := HBW.out.size; simp; omega
          · intro v' w2 hown hgrow _
            have HN2 := Lib.hid (show Own2 78 3 w0.heap.size w2 v' (tabl T (k + 1)) from by
              rw [tabl_succ]
              exact Own2.push (w := wr.alloc _) (us := us) (by decide) (tabl_length T k) (h1.alloc _) HU.out.1 (fun i r u hr hu => (HU.out.2 i r u hr hu).keep (S := fun _ => True) ((Keep.refl _ _).alloc _) (fun _ _ => trivial)) (⟨HRR.out.1, ownsRow_mono (HRR.out.keep (S := fun _ => True) ((Keep.refl _ _).alloc _) (fun _ _ => trivial)).2 HB.out.size⟩) hown hgrow)
            have HB2 := Lib.hid (show Below w0.heap.size w0 w2 from (HBW.out.alloc (by have := HBW.out.size; omega) _).grown hgrow (by simp; have := HBW.out.size; omega) (fun g hg => (World.ownsRow.lt h1 g hg).1))
            have hk729 : (k : Int) ≤ 729 := by have := HZ.out; omega
            clear hown hgrow h1 HU HRR
            go_wp2_with fail
            go_roundw
            case rel => exact ⟨k + 1, by omega, by go_num, HN2, HB2.out⟩
            case measure => simp [intOf]; omega
    · obtain rfl : k = sz T := by omega
      have hd : decide ((sz T : Int) < (sz T : Int)) = false := by simp
      go_wp2_with fail
      go_ret
      exact ⟨_, rfl, ho2.out.mono HB0.out.size, HB0.out.trans (HB.out.mono HB0.out.size)⟩
end Go.Proofs.YtabkibmnghbahaaGreat.ImplP

namespace Go.Proofs.YtabkibmnghbahaaGreat.ImplQ
open Go.RowKit Go.Proofs.YtabkibmnghbahaaGreat Go.Proofs.YtabkibmnghbahaaGreat.Tow Go.Proofs.YtabkibmnghbahaaGreat.NumT Go.Proofs.YtabkibmnghbahaaGreat.ImplN Go.Proofs.YtabkibmnghbahaaGreat.ImplP
set_option linter.unusedVariables false
set_option linter.unusedSimpArgs false

/-- a pointer to a group with its table -/
def TabG (S : Nat → Prop) (w : World) (bg : Nat) (T : Tw) : Prop := S bg ∧ bg < w.heap.size ∧ ∃ v, w.cell? ⟨bg, 0, none⟩ = some v ∧ Sl2 S w v ((tabl T (sz T)).map ints)
theorem TabG.keep {S : Nat → Prop} {w w' : World} {bg : Nat} {T : Tw} (h : TabG S w bg T) (hk : Keep S w w') : TabG S w' bg T := by
  obtain ⟨h1, h2, v, hc, hs⟩ := h
  exact ⟨h1, Nat.lt_of_lt_of_le h2 hk.size, v, by rw [hk.cell h1 h2]; exact hc, hs.keep hk⟩
theorem tabl_get {T : Tw} {i : Nat} (h : i < sz T) : (tabl T (sz T))[i]? = some (trow T i (sz T)) := by simp [tabl, h]
theorem trow_get {T : Tw} {i j : Nat} (h : j < sz T) : (trow T i (sz T))[j]? = some (pr T i j) := by simp [trow, h]
theorem TabG.open {S : Nat → Prop} {w : World} {bg : Nat} {T : Tw} (h : TabG S w bg T) (hz : 0 < sz T) : ∃ gt ot ct, bg < w.heap.size ∧ sz T ≤ ct ∧ w.cell? ⟨bg, 0, none⟩ = some (.slice (some ⟨gt, ot, none⟩) (sz T) ct) ∧
    ∀ i, i < sz T → ∃ gr or cr, sz T ≤ cr ∧ w.cell? ⟨gt, ot + i, none⟩ = some (.slice (some ⟨gr, or, none⟩) (sz T) cr) ∧ ∀ j, j < sz T → w.cell? ⟨gr, or + j, none⟩ = some (.int .i64 (pr T i j : Int)) := by
  obtain ⟨h1, h2, v, hc, a, cap, rfl, hl, hm, hn, hx⟩ := h
  have hl' : ((tabl T (sz T)).map ints).length = sz T := by simp [tabl_length]
  rw [hl'] at hc hl
  obtain ⟨gt, ot, rfl, hS, hlt, u, hu, hsl⟩ := hx 0 (ints (trow T 0 (sz T))) (by rw [List.getElem?_map, tabl_get hz]; rfl)
  refine ⟨gt, ot, cap, h2, hl, hc, fun i hi => ?_⟩
  obtain ⟨gt', ot', he, hS', hlt', u, hu, hsl⟩ := hx i (ints (trow T i (sz T))) (by rw [List.getElem?_map, tabl_get hi]; rfl)
  obtain ⟨rfl, rfl⟩ : gt = gt' ∧ ot = ot' := by simpa using he
  obtain ⟨a2, c2, rfl, hl2, hm2, hn2, hx2⟩ := hsl
  have hr' : (ints (trow T i (sz T))).length = sz T := by rw [ints_length, trow_length]
  rw [hr'] at hu hl2
  obtain ⟨gr, or, rfl, _, _, u, hu', rfl⟩ := hx2 0 (pr T i 0 : Int) (by rw [ints_get, trow_get hz]; rfl)
  refine ⟨gr, or, c2, hl2, hu, fun j hj => ?_⟩
  obtain ⟨gr', or', he', _, _, u, hu'', rfl⟩ := hx2 j (pr T i j : Int) (by rw [ints_get, trow_get hj]; rfl)
  obtain ⟨rfl, rfl⟩ : gr = gr' ∧ or = or' := by simpa using he'
  exact hu''

theorem pr_lt {T : Tw} (hT : Wf T) (i j : Nat) : pr T i j < sz T := num_lt (El_mul hT (at_El hT i) (at_El hT j)) hT

/-- an answer that is a number, and memory as it was -/
def NumD (n : Nat) (w : World) (e : Ending) (w' : World) : Prop := e = .returned (.int .i64 (n : Int)) ∧ ∃ k, w' = w.drewN k

set_option maxHeartbeats 2000000 in
theorem product_any (T : Tw) (hT : Wf T) (hz : sz T ≤ 729) (S : Nat → Prop) (w : World) (bg : Nat) (hG : TabG S w bg T) (vx ve : Value) (xs es : List Nat) (hx : SlI S w vx (ints xs)) (he : SlI S w ve (ints es)) (hl : xs.length = es.length) (hl6 : es.length ≤ 1000)
    (hxn : ∀ x ∈ xs, x < sz T) (hen : ∀ e ∈ es, e ≤ 1000) :
    Calls Tryz.prog 140 #[.pointer (some ⟨bg, 0, none⟩), vx, ve] w (NumD (prodL (pr T) 0 xs es) w) := by
  have hpos := sz_pos hT
  obtain ⟨gt, ot, ct, hbg, hct, hc0, HR⟩ := hG.open hpos
  obtain ⟨aX, cX, rfl, hcx⟩ := hx.open
  obtain ⟨aE, cE, rfl, hce⟩ := he.open
  rw [hl] at hcx hx ⊢
  have HX := Lib.hid hx
  have HE := Lib.hid he
  have HRR := Lib.hid HR
  have HL := Lib.hid hl
  have HXN := Lib.hid hxn
  have HEN := Lib.hid hen
  have HT := Lib.hid hT
  have HZ := Lib.hid hz
  have HIN : Hid (∀ j k, prR (pr T) 0 0 xs es j k < sz T) := Lib.hid (fun j k => prR_inv (· < sz T) (pr T) (fun _ _ _ _ => pr_lt hT _ _) 0 0 xs es hpos hpos hxn j k)
  clear hx he HR hl hxn hen hT hG
  go_enter Tryz.func140, Tryz.ntmps140
  go_wp2_with fail
  go_loopw [7, 12] (fun ov i wr => ∃ k : Nat, k ≤ es.length ∧ i = .int .i64 (k : Int) ∧ ∃ z : Nat, ov = .int .i64 (z : Int) ∧ Hid (z = prR (pr T) 0 0 xs es k 0 ∧ ∃ m, wr = w.drewN m)) (fun _ i _ => es.length - (intOf i).toNat)
  case atStart => exact ⟨0, Nat.zero_le _, rfl, 0, rfl, Lib.hid ⟨(prR_zero _ _ _ _ _).symm, 0, rfl⟩⟩
  case round =>
    obtain ⟨k, hk, rfl, z, rfl, hR⟩ := hrel
    obtain ⟨m0, hw0⟩ := hR.out.2
    subst hw0
    by_cases hlt : k < es.length
    · obtain ⟨e, hek⟩ : ∃ e, es[k]? = some e := ⟨_, List.getElem?_eq_getElem hlt⟩
      obtain ⟨x, hxk⟩ : ∃ x, xs[k]? = some x := ⟨_, List.getElem?_eq_getElem (by rw [HL.out]; exact hlt)⟩
      obtain ⟨bE, oE, rfl, _, hbE, hcE⟩ := HE.out.at hek
      obtain ⟨bX, oX, rfl, _, hbX, hcX⟩ := HX.out.at hxk
      have hxlt := HXN.out x (List.mem_of_getElem? hxk)
      have helt := HEN.out e (List.mem_of_getElem? hek)
      have hd : decide ((k : Int) < (es.length : Int)) = true := by simp; omega
      have HXK := Lib.hid hxk
      have HEK := Lib.hid hek
      clear hxk hek
      go_wp2_with fail
      go_loopw [7, 18] (fun ov j wr => ∃ q : Nat, q ≤ e ∧ j = .int .i64 (q : Int) ∧ ∃ z : Nat, ov = .int .i64 (z : Int) ∧ Hid (z = prR (pr T) 0 0 xs es k q ∧ ∃ m, wr = w.drewN m)) (fun _ j _ => e - (intOf j).toNat)
      case atStart => exact ⟨0, Nat.zero_le _, rfl, z, rfl, Lib.hid ⟨hR.out.1, m0, rfl⟩⟩
      case round =>
        obtain ⟨q, hq, rfl, z, rfl, hR2⟩ := hrel
        obtain ⟨m1, hw1⟩ := hR2.out.2
        subst hw1
        by_cases hqe : q < e
        · have hd2 : decide ((q : Int) < (e : Int)) = true := by simp; omega
          have hzlt : z < sz T := by rw [hR2.out.1]; exact HIN.out _ _
          obtain ⟨gr, or, cr, hcr, hcr1, hcr2⟩ := HRR.out z hzlt
          have hcr3 := hcr2 x hxlt
          have hgD : xs.getD k 0 = x := by rw [List.getD_eq_getElem?_getD, HXK.out]; rfl
          have HGD := Lib.hid hgD
          clear hcr2 hgD
          go_wp2_with fail
          go_quiet (fail)
          go_wp2_with fail
          go_roundw
          case rel => exact ⟨q + 1, by omega, by go_num, pr T z x, rfl, Lib.hid ⟨by rw [prR_step, HGD.out, ← hR2.out.1], m1 + nq, by first | rfl | rw [World.drewN_drewN]⟩⟩
          case measure => simp [intOf]; omega
        · obtain rfl : q = e := by omega
          have hd2 : decide ((q : Int) < (q : Int)) = false := by simp
          go_wp2_with fail
          go_roundw
          case rel => exact ⟨k + 1, by omega, by go_num, z, rfl, Lib.hid ⟨by rw [hR2.out.1, prR_next _ _ _ _ _ _ _ (by rw [HL.out]; exact hlt) HEK.out], m1, rfl⟩⟩
          case measure => simp [intOf]; omega
    · obtain rfl : k = es.length := by omega
      have hd : decide ((es.length : Int) < (es.length : Int)) = false := by simp
      go_wp2_with fail
      go_ret
      refine ⟨ret_i ?_, m0, rfl⟩
      rw [hR.out.1, prR_end _ _ _ _ _ _ (by rw [HL.out]; exact Nat.le_refl _) (Nat.le_refl _)]
end Go.Proofs.YtabkibmnghbahaaGreat.ImplQ

/-
  Plain facts: sets of small numbers as bits of a word.
-/
namespace Go.Proofs.YtabkibmnghbahaaGreat.Mask
open Go
theorem wraps63 (n : Int) (h0 : 0 ≤ n) (h1 : n < 2 ^ 63) : IntKind.u64.wrap n = n := by rw [IntKind.wrap_u64]; omega
theorem test_eq (M a : Nat) (_ha : a ≤ 31) (hM : M < 2 ^ 32) : (bits .and .u64 ((M : Int) / 2 ^ a) 1 == 1) = M.testBit a := by
  have e1 : ((M : Int) / 2 ^ a) = ((M / 2 ^ a : Nat) : Int) := by push_cast; rfl
  have hlt : M / 2 ^ a < 2 ^ 63 := Nat.lt_of_le_of_lt (Nat.div_le_self _ _) (Nat.lt_of_lt_of_le hM (by decide))
  have h := (bits_nat .u64 63 (by decide) wraps63 (M / 2 ^ a) 1 hlt (by decide)).1
  rw [e1]
  have e2 : bits .and .u64 ((M / 2 ^ a : Nat) : Int) 1 = ((M / 2 ^ a &&& 1 : Nat) : Int) := h
  rw [e2, Nat.testBit, Nat.shiftRight_eq_div_pow, Nat.and_comm 1]
  have h01 := Nat.and_one_is_mod (M / 2 ^ a)
  rw [h01]
  rcases Nat.mod_two_eq_zero_or_one (M / 2 ^ a) with h | h <;> rw [h] <;> rfl
theorem pow_lt (a : Nat) (ha : a ≤ 31) : 2 ^ a < 2 ^ 32 := Nat.pow_lt_pow_right (by decide) (by omega)
theorem set_eq (O a : Nat) (ha : a ≤ 31) (hO : O < 2 ^ 32) : bits .or .u64 (O : Int) (IntKind.u64.wrap (2 ^ a)) = ((O ||| 2 ^ a : Nat) : Int) := by
  have e1 : ((2 : Int) ^ a) = ((2 ^ a : Nat) : Int) := by push_cast; rfl
  have hp := pow_lt a ha
  have h63 : (2 : Nat) ^ 32 < 2 ^ 63 := by decide
  rw [e1, wraps63 _ (Int.natCast_nonneg _) (by have : ((2 ^ a : Nat) : Int) < ((2 ^ 63 : Nat) : Int) := Int.ofNat_lt.2 (Nat.lt_trans hp h63)
                                               simpa using this)]
  exact (bits_nat .u64 63 (by decide) wraps63 O (2 ^ a) (Nat.lt_trans hO h63) (Nat.lt_trans hp h63)).2
theorem set_lt (O a : Nat) (ha : a ≤ 31) (hO : O < 2 ^ 32) : O ||| 2 ^ a < 2 ^ 32 := Nat.or_lt_two_pow hO (pow_lt a ha)
theorem set_test (O a c : Nat) : (O ||| 2 ^ a).testBit c = (O.testBit c || decide (a = c)) := by rw [Nat.testBit_or, Nat.testBit_two_pow]
end Go.Proofs.YtabkibmnghbahaaGreat.Mask
