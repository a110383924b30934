import Derived.Test.YtabkibmnghbahaaGreatImplRS
import Derived.Laws.AppendOwnNone
import Derived.Deep.RegionHeld3
import Derived.Deep.AppendLies
import Derived.Deep.RegionLaw
namespace Go.Proofs.YtabkibmnghbahaaGreat.ImplT
open Go.RowKit Go.Proofs.YtabkibmnghbahaaGreat Go.Proofs.YtabkibmnghbahaaGreat.Tow Go.Proofs.YtabkibmnghbahaaGreat.NumT Go.Proofs.YtabkibmnghbahaaGreat.ImplN Go.Proofs.YtabkibmnghbahaaGreat.ImplP Go.Proofs.YtabkibmnghbahaaGreat.ImplQ Go.Proofs.YtabkibmnghbahaaGreat.ImplR Go.Proofs.YtabkibmnghbahaaGreat.ImplS Go.Proofs.YtabkibmnghbahaaGreat.ImplW
set_option linter.unusedVariables false
set_option linter.unusedSimpArgs false

/-- an answer that is a row that the call made -/
def NewN (e : TypeId) (x : List Nat) (w : World) (e' : Ending) (w' : World) : Prop := ∃ v, e' = .returned v ∧ RowOk e w.heap.size w' v x ∧ Below w.heap.size w w'

set_option maxHeartbeats 400000 in
theorem cloneN_any (w : World) (ad : Addr) (n c : Nat) (l : List Nat) (hv : SlI Any w (.slice (some ad) n c) (ints l)) (hl : l.length ≤ 1000000) :
    Calls Tryz.prog 98 #[.slice (some ad) n c] w (NewN 3 l w) := by
  obtain ⟨i0, hi, hz0, hz1, hz2⟩ := info_parts infoN
  have hnl : n = l.length := by obtain ⟨_, _, e, _⟩ := hv; simp only [Value.slice.injEq] at e; rw [e.2.1, ints_length]
  subst hnl
  have HL := Lib.hid hl
  clear hl
  have HS := Lib.hid hv
  have h00 := World.ownsRow_made (base := w.heap.size) (e := 3) (size := 1) w #[] 0 (Nat.le_refl _) (Nat.zero_le _) rfl
  have hen := fun (w : World) (a : Option Addr) (n c n' c' : Nat) => Lib.run_eql_slice_nil (P := Tryz.prog) w 78 3 a n c n' c' Tryz.underlying78
  have hv' : SlI Any w (.slice (some ad) (ints l).length c) (ints l) := by rw [ints_length]; exact hv
  have C1 := Lib.hid (SlI.src (w' := w.alloc (.cells #[] 3)) hv' ((Keep.refl _ _).alloc _))
  have C2 := Lib.hid (vals_one (ints l))
  have C3 := Lib.hid (show 0 + l.length ≤ maxLen from by have := HL.out; unfold maxLen; omega)
  have C4 := Lib.hid (show (0 + l.length) * 8 ≤ 140737488355328 from by have := HL.out; omega)
  have C5 := Lib.hid (show (vals (ints l)).length = l.length * 1 by simp [vals, ints])
  clear hv hv'
  go_enter Tryz.func98, Tryz.ntmps98
  go_wp2_with (at_builtin; refine wpList_append_own _ rfl _ _ 78 rfl w.heap.size 3 i0 (.int .i64 0) 1 8 Tryz.underlying78 hi hz0 hz1 hz2 rfl (by decide) _ _ _ rfl h00 ad l.length c (vals (ints l)) rfl C5.out C1.out C2.out C3.out C4.out (by simp) ?_)
  intro v' w1 hown' hgrow hnil
  have hne : v' ≠ .slice none 0 0 := by first | exact hnil | (intro e; have := hnil.1 e; simp at this)
  have hO : w1.ownsRow w.heap.size 3 1 v' l.length (vals (ints l)) := by simpa using hown'
  have hB : Below w.heap.size w w1 := ((Below.refl _ _).alloc (Nat.le_refl _) _).grown hgrow (by simp) (by intro k hk; simp [Value.ownBlock] at hk; omega)
  clear hown' hgrow hnil
  go_wp2_with fail
  go_ret
  refine ⟨_, rfl, ⟨?_, hO⟩, hB⟩
  rcases hO.2 with ⟨e, _⟩ | ⟨g, cap, cur, e, _⟩
  · exact absurd e hne
  · exact ⟨g, cap, e⟩
end Go.Proofs.YtabkibmnghbahaaGreat.ImplT

namespace Go.Proofs.YtabkibmnghbahaaGreat.ImplU
open Go.RowKit Go.Proofs.YtabkibmnghbahaaGreat Go.Proofs.YtabkibmnghbahaaGreat.Tow Go.Proofs.YtabkibmnghbahaaGreat.NumT Go.Proofs.YtabkibmnghbahaaGreat.ImplN Go.Proofs.YtabkibmnghbahaaGreat.ImplP Go.Proofs.YtabkibmnghbahaaGreat.ImplQ Go.Proofs.YtabkibmnghbahaaGreat.ImplR Go.Proofs.YtabkibmnghbahaaGreat.ImplS Go.Proofs.YtabkibmnghbahaaGreat.ImplT Go.Proofs.YtabkibmnghbahaaGreat.ImplW Go.Proofs.YtabkibmnghbahaaGreat.Grow
set_option linter.unusedVariables false
set_option linter.unusedSimpArgs false

def Sx (B bs gi : Nat) : Nat → Prop := fun k => k < B ∧ k ≠ bs ∧ k ≠ gi
/-- a search in the making: its struct, its images and what it has found -/
structure Iso (w : World) (bs bp op bg gi ci B : Nat) (T Q : Tw) (b : Bool) (ims : List Nat) (F : List (List Nat)) (vF : Value) : Prop where
  hbs : bs < B
  hgi : gi < B
  hne : bs ≠ gi
  hB : B ≤ w.heap.size
  row : w.heap[bs]? = some (.cells #[.pointer (some ⟨bp, op, none⟩), .pointer (some ⟨bg, 0, none⟩), .slice (some ⟨gi, 0, none⟩) T.length ci, .bool b, vF] 106)
  pre : PtrP (Sx B bs gi) w bp op (ofTw T)
  tab : TabG (Sx B bs gi) w bg Q
  len : ims.length = T.length
  ims : w.ownsRow 0 3 1 (.slice (some ⟨gi, 0, none⟩) T.length ci) T.length (vals (ints ims))
  fnd : Own2 78 3 B w vF F
theorem Iso.slI {w : World} {bs bp op bg gi ci B : Nat} {T Q : Tw} {b : Bool} {ims : List Nat} {F : List (List Nat)} {vF : Value} (h : Iso w bs bp op bg gi ci B T Q b ims F vF) : SlI Any w (.slice (some ⟨gi, 0, none⟩) T.length ci) (ints ims) := by
  have hl := h.len
  have : RowOk 3 0 w (.slice (some ⟨gi, 0, none⟩) T.length ci) ims := ⟨⟨gi, ci, by rw [hl]⟩, by rw [hl]; exact h.ims⟩
  exact this.sl.mono (fun _ _ => trivial)
theorem Iso.cells {w : World} {bs bp op bg gi ci B : Nat} {T Q : Tw} {b : Bool} {ims : List Nat} {F : List (List Nat)} {vF : Value} (h : Iso w bs bp op bg gi ci B T Q b ims F vF) :
    w.cell? ⟨bs, 0, none⟩ = some (.pointer (some ⟨bp, op, none⟩)) ∧ w.cell? ⟨bs, 1, none⟩ = some (.pointer (some ⟨bg, 0, none⟩)) ∧ w.cell? ⟨bs, 2, none⟩ = some (.slice (some ⟨gi, 0, none⟩) T.length ci) ∧ w.cell? ⟨bs, 3, none⟩ = some (.bool b) ∧ w.cell? ⟨bs, 4, none⟩ = some vF := by
  refine ⟨?_, ?_, ?_, ?_, ?_⟩ <;> exact (cell_of_row w bs _ _ _ (0, 0) h.row).trans rfl
theorem Iso.isoS {w : World} {bs bp op bg gi ci B : Nat} {T Q : Tw} {b : Bool} {ims : List Nat} {F : List (List Nat)} {vF : Value} (h : Iso w bs bp op bg gi ci B T Q b ims F vF) : IsoS w bs bp op bg gi ci T Q ims :=
  ⟨Nat.lt_of_lt_of_le h.hbs h.hB, h.cells.1, h.cells.2.1, h.cells.2.2.1, h.pre.mono (fun _ _ => trivial), TabG.mono h.tab (fun _ _ => trivial), h.len, h.slI⟩
theorem Iso.below {w w' : World} {bs bp op bg gi ci B : Nat} {T Q : Tw} {b : Bool} {ims : List Nat} {F : List (List Nat)} {vF : Value} (h : Iso w bs bp op bg gi ci B T Q b ims F vF) (hb : Below w.heap.size w w') : Iso w' bs bp op bg gi ci B T Q b ims F vF :=
  ⟨h.hbs, h.hgi, h.hne, Nat.le_trans h.hB hb.size, by rw [hb.block _ (Nat.lt_of_lt_of_le h.hbs h.hB)]; exact h.row, h.pre.keep (Keep.of_below hb), h.tab.keep (Keep.of_below hb), h.len, ownsRow_keep h.ims (S := Any) (Keep.of_below hb) (fun _ _ => trivial), h.fnd.of_below hb⟩

/-- what a search may change -/
def Chg (A B bs gi : Nat) (w w' : World) : Prop := Below A w w' ∧ Keep (Sx B bs gi) w w'

/-- the end of a search -/
def ChR (A bs bp op bg gi ci B : Nat) (T Q : Tw) (b : Bool) (F G : List (List Nat)) (k : Nat) (im : List Nat) (w : World) (e : Ending) (w' : World) : Prop :=
  e = .returned (.tuple #[]) ∧ ∃ ims' vF', Iso w' bs bp op bg gi ci B T Q b ims' (F ++ G) vF' ∧ ims'.drop k = im ∧ (∀ y ∈ ims', y < sz Q) ∧ Chg A B bs gi w w'

theorem kb_mk {B bs : Nat} {w w' : World} (hb : bs < B ∧ B ≤ w.heap.size) (h : Keep (· < B) w w') : (∀ o, w'.cell? ⟨bs, o, none⟩ = w.cell? ⟨bs, o, none⟩) ∧ (∀ o, w'.frozen? ⟨bs, o, none⟩ = w.frozen? ⟨bs, o, none⟩) ∧ Keep (· < B) w w' :=
  ⟨fun o => h.cell hb.1 (Nat.lt_of_lt_of_le hb.1 hb.2), fun o => World.frozen?_of_block (h.block bs hb.1 (Nat.lt_of_lt_of_le hb.1 hb.2)), h⟩

theorem row_set {w : World} {bs : Nat} {cs : Array Value} {t : TypeId} (h : w.heap[bs]? = some (.cells cs t)) (j : Nat) (v : Value) : (w.setCell ⟨bs, j, none⟩ v).heap[bs]? = some (.cells (cs.setIfInBounds j v) t) := by
  rw [heap_setCell_same w bs j cs t v h]
theorem row_keep {w w' : World} {e : TypeId} {B g n c : Nat} {xs : List Value} (h : w.ownsRow B e 1 (.slice (some ⟨g, 0, none⟩) n c) n xs) (hb : w'.heap[g]? = w.heap[g]?) : w'.ownsRow B e 1 (.slice (some ⟨g, 0, none⟩) n c) n xs := by
  refine ⟨h.1, ?_⟩
  rcases h.2 with hn | ⟨g', cap, cur, he, hb', hgg, rest⟩
  · exact .inl hn
  · obtain ⟨rfl, rfl⟩ : g = g' ∧ c = cap := by simpa using he
    exact .inr ⟨g, c, cur, rfl, hb', by rw [hb]; exact hgg, rest⟩
theorem choose_fin {A : Nat} {T Q : Tw} {w w6 : World} {bs bp op bg gi ci B : Nat} {b : Bool} {ims : List Nat} {F : List (List Nat)} {vF v' : Value} (h : Iso w bs bp op bg gi ci B T Q b ims F vF) (hA : A ≤ bs ∧ A ≤ gi) (hin : ∀ y ∈ ims, y < sz Q)
    (hB6 : Below A w w6) (hN : Own2 78 3 B w6 v' (F ++ [ims])) (hk : Keep (· < B) w w6) : ChR A bs bp op bg gi ci B T Q b F [ims] 0 ims w (.returned (.tuple #[])) (w6.setCell ⟨bs, 4, none⟩ v') := by
  have hbs := Nat.lt_of_lt_of_le h.hbs h.hB
  have hkS : Keep (Sx B bs gi) w (w6.setCell ⟨bs, 4, none⟩ v') := (hk.mono (fun k (hk : Sx B bs gi k) => hk.1)).setCell (by simp [Sx]) _
  refine ⟨rfl, ims, v', ⟨h.hbs, h.hgi, h.hne, by have := hk.size; have := h.hB; simp; omega, ?_, h.pre.keep hkS, h.tab.keep hkS, h.len, ?_, ?_⟩, rfl, hin, hB6.setCell (by simp; exact hA.1) _, hkS⟩
  · have h1 : w6.heap[bs]? = _ := (hk.block bs h.hbs hbs).trans h.row
    exact row_set h1 4 v'
  · refine row_keep h.ims ?_
    have h2 : (w6.setCell ⟨bs, 4, none⟩ v').heap[gi]? = w6.heap[gi]? := Below.heap_setCell _ _ _ gi (fun e => h.hne e.symm)
    rw [h2]
    exact hk.block gi h.hgi (Nat.lt_of_lt_of_le h.hgi h.hB)
  · exact hN.keep (S := (B ≤ ·)) ((Keep.refl _ _).setCell (by simp; exact h.hbs) _) (fun k hk => hk)

set_option maxRecDepth 100000 in
set_option maxHeartbeats 4000000 in
theorem choose_zero (A : Nat) (T Q : Tw) (hs : T.length ≤ 6) (hQ : Wf Q) (hz : sz Q ≤ 27) (w : World) (bs bp op bg gi ci B : Nat) (b : Bool) (ims : List Nat) (F : List (List Nat)) (vF : Value) (M : Nat)
    (h : Iso w bs bp op bg gi ci B T Q b ims F vF) (hA : A ≤ bs ∧ A ≤ gi) (hF : F.length ≤ 1000000000) (hin : ∀ y ∈ ims, y < sz Q) :
    Calls Tryz.prog 60 #[.pointer (some ⟨bs, 0, none⟩), .int .i64 (-1), .int .u64 (M : Int)] w (ChR A bs bp op bg gi ci B T Q b F [ims] 0 ims w) := by
  obtain ⟨i0, hi, hz0, hz1, hz2⟩ := info_parts infoM
  obtain ⟨q0, q1, q2, q3, q4⟩ := h.cells
  have z4 : w.frozen? ⟨bs, 4, none⟩ = false := frozen_of_row w bs 4 _ _ h.row
  have HI := Lib.hid h
  have hbw := Nat.lt_of_lt_of_le h.hbs h.hB
  have HCL := Lib.hid (fun W (hW : SlI Any W (.slice (some ⟨gi, 0, none⟩) T.length ci) (ints ims)) => cloneN_any W ⟨gi, 0, none⟩ T.length ci ims hW (by rw [h.len]; omega))
  have HIN := Lib.hid hin
  have HA := Lib.hid hA
  have HF := Lib.hid hF
  obtain ⟨us, hu1, hu2, hu4⟩ := h.fnd
  have HU := Lib.hid (And.intro hu1 (And.intro hu2 hu4))
  have hBw := h.hB
  have hbs2 : bs < B ∧ B ≤ w.heap.size := ⟨h.hbs, h.hB⟩
  have hvB : ∀ k, k < B → some k ≠ vF.ownBlock := fun k hk e => by have := (World.ownsRow.lt hu1 k e.symm).1; omega
  clear h hin hA hF hz hu1 hu2 hu4
  go_enter Tryz.func60, Tryz.ntmps60
  go_upto_region 1 with fail
  go_region_law
    (first | (go_simp; go_at_call 98; refine (HCL.out _ (HI.out.slI.keep (by first | exact (Keep.refl _ _).drew | exact Keep.refl _ _))).mono ?_; rintro e w5 ⟨v5, rfl, ⟨⟨g5, c5, rfl⟩, hr5⟩, hb5⟩; obtain ⟨kc5, kf5, kk5⟩ := kb_mk hbs2 (by first | exact Keep.trans ((Keep.refl _ _).drew) (Keep.of_below hb5) | exact Keep.of_below hb5 : Keep (· < B) w w5); have k45 := (kc5 4).trans q4; have hbw5 : bs < w5.heap.size := Nat.lt_of_lt_of_le hbw (by exact hb5.size)) | (refine step_append_lies _ (by rfl) _ _ _ (by rfl) B 78 i0 (.slice none 0 0) 1 24 Tryz.underlying64 hi hz0 hz1 hz2 rfl (by omega) vF F.length us (by rfl) ((ownsRow_keep HU.out.1 (S := Any) (by first | exact Keep.trans ((Keep.refl _ _).drew) (Keep.of_below hb5) | exact Keep.of_below hb5) (fun _ _ => trivial)).alloc _) ⟨w5.heap.size, 0, none⟩ 1 1 [.slice (some ⟨g5, 0, none⟩) ims.length c5] (by rfl) (by rfl) (World.news_of_block (cs := #[.slice (some ⟨g5, 0, none⟩) ims.length c5]) (t := 78) (fr := (0, 0)) (heap_alloc_new w5 _)) (by simp [Value.oneCell']) (by omega) (by have := HF.out; unfold maxLen; omega) (by have := HF.out; omega) (by have := hb5.size; simp; exact Nat.le_succ_of_le (Nat.le_trans hBw hb5.size)) _ rfl ?_; intro gg cap w6 hown6 hgrow6 hat6 hlt6; obtain ⟨kc6, kf6, kk6⟩ := kb_mk hbs2 (Keep.trans ((by first | exact Keep.trans ((Keep.refl _ _).drew) (Keep.of_below hb5) | exact Keep.of_below hb5 : Keep (· < B) w w5).alloc _) (Keep.grown hgrow6 hvB)); have k46 := (kc6 4).trans q4; have z46 := (kf6 4).trans z4))
  all_goals
    have hb5' : Below w.heap.size w w5 := by first | exact hb5 | exact ((Below.refl _ _).drew).trans hb5
    have hbb5 := hb5'.size
    have hA1 := HA.out.1
    have HB6 := Lib.hid (show Below A w w6 from ((hb5'.mono (by omega)).alloc (by omega) _).grown hgrow6 (by simp; omega) (fun k hk => by have := (World.ownsRow.lt HU.out.1 k hk).1; omega))
    have HN6 := Lib.hid (show Own2 78 3 B w6 (.slice (some ⟨gg, 0, none⟩) (F.length + 1) cap) (F ++ [ims]) from
      Own2.push (w := w5.alloc _) (us := us) (by decide) rfl ((ownsRow_keep HU.out.1 (S := Any) (Keep.of_below hb5') (fun _ _ => trivial)).alloc _) HU.out.2.1 (fun i r u hr hu => (HU.out.2.2 i r u hr hu).keep (S := Any) ((Keep.of_below hb5').alloc _) (fun _ _ => trivial)) (RowOk.keep (S := Any) ⟨⟨g5, c5, rfl⟩, ownsRow_mono hr5 (by first | exact hBw | exact Nat.le_trans hBw (Nat.le_refl _))⟩ ((Keep.refl _ _).alloc _) (fun _ _ => trivial)) hown6 hgrow6)
    have HK6 := Lib.hid kk6
    clear hown6 hgrow6 hr5 hb5 kc5 kf5 kk5 kc6 kf6 kk6 k45 hb5' k46 z46
    go_wp2_with fail
    exact bodyPost_ret (v := .tuple #[]) (by simp [results, Tryz.results60, go_sem]) rfl (choose_fin HI.out HA.out HIN.out HB6.out HN6.out HK6.out)
end Go.Proofs.YtabkibmnghbahaaGreat.ImplU
