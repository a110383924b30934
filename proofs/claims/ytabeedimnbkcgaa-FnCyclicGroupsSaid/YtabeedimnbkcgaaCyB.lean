import Derived.Test.YtabeedimnbkcgaaCyA
import Derived.Laws.AppendOwnNone
/-
  spec.l01From, l01Next, l01Pick, l01Number, DrawCyclicPresentation: they return.
-/
namespace Go.Proofs.Ytabeedimnbkcgaa.CyB
open Go.RowKit Go.Proofs.Ytabeedimnbkcgaa Go.Proofs.Ytabeedimnbkcgaa.Tow Go.Proofs.Ytabeedimnbkcgaa.CyA
set_option linter.unusedVariables false
set_option linter.unusedSimpArgs false

/-- a source of numbers -/
def SrcA (w : World) (g : Nat) (a : Option Addr) (len cap k s : Nat) : Prop := w.heap[g]? = some (.cells #[.slice a len cap, .int .i64 (k : Int), .int .i64 (s : Int)] 68 (0, 0))
def Src (w : World) (g : Nat) (a : Option Addr) (len cap : Nat) : Prop := ∃ k s : Nat, SrcA w g a len cap k s ∧ k ≤ len ∧ s < 2147483647 ∧ len ≤ 4096
/-- the code can be read -/
def Rd (w : World) (g : Nat) (a : Option Addr) (len : Nat) : Prop := ∀ i, i < len → ∃ b o, ∃ z : Nat, a = some ⟨b, o, none⟩ ∧ b ≠ g ∧ b < w.heap.size ∧ w.cell? ⟨b, o + i, none⟩ = some (.int .u8 (z : Int)) ∧ z < 256
theorem Rd.keep {w w' : World} {g : Nat} {a : Option Addr} {len : Nat} (h : Rd w g a len) (hk : Keep (fun k => k ≠ g) w w') : Rd w' g a len := fun i hi => by
  obtain ⟨b, o, z, h1, h2, h3, h4, h5⟩ := h i hi
  exact ⟨b, o, z, h1, h2, Nat.lt_of_lt_of_le h3 hk.size, by rw [hk.cell h2 h3]; exact h4, h5⟩
theorem Rd.grown {w w' : World} {g : Nat} {a : Option Addr} {len : Nat} (h : Rd w g a len) (hg : w.grownBy w' (some g)) : Rd w' g a len := h.keep (Keep.grown hg fun k hk e => hk (by injection e))
theorem SrcA.set1 {w : World} {g : Nat} {a : Option Addr} {len cap k s : Nat} (h : SrcA w g a len cap k s) (k' : Nat) : SrcA (w.setCell ⟨g, 1, none⟩ (.int .i64 (k' : Int))) g a len cap k' s := heap_setCell_same w g 1 _ _ _ h
theorem SrcA.set2 {w : World} {g : Nat} {a : Option Addr} {len cap k s : Nat} (h : SrcA w g a len cap k s) (s' : Nat) : SrcA (w.setCell ⟨g, 2, none⟩ (.int .i64 (s' : Int))) g a len cap k s' := heap_setCell_same w g 2 _ _ _ h
theorem SrcA.drew {w : World} {g : Nat} {a : Option Addr} {len cap k s : Nat} (h : SrcA w g a len cap k s) : SrcA w.drew g a len cap k s := h
theorem SrcA.cells {w : World} {g : Nat} {a : Option Addr} {len cap k s : Nat} (h : SrcA w g a len cap k s) : (w.cell? ⟨g, 0, none⟩ = some (.slice a len cap) ∧ w.cell? ⟨g, 1, none⟩ = some (.int .i64 (k : Int)) ∧ w.cell? ⟨g, 2, none⟩ = some (.int .i64 (s : Int))) ∧
    w.frozen? ⟨g, 1, none⟩ = false ∧ w.frozen? ⟨g, 2, none⟩ = false ∧ g < w.heap.size := ⟨row3' h, by simp [World.frozen?, show w.heap[g]? = _ from h], by simp [World.frozen?, show w.heap[g]? = _ from h], (Array.getElem?_eq_some_iff.1 h).1⟩
theorem gr_set {w w' : World} {g i : Nat} (h : w.grownBy w' (some g)) (u : Value) : w.grownBy (w'.setCell ⟨g, i, none⟩ u) (some g) :=
  ⟨h.os, h.tape, h.output, by simpa using h.size, fun k hk hne => (heap_setCell_other w' ⟨g, i, none⟩ k u (fun e => hne (by rw [e]))).trans (h.block k hk hne)⟩
theorem gr_refl (w : World) (row : Option Nat) : w.grownBy w row := ⟨rfl, rfl, rfl, Nat.le_refl _, fun _ _ _ => rfl⟩
theorem gr_drew {w w' : World} {row : Option Nat} (h : w.grownBy w' row) : w.grownBy w'.drew row := ⟨h.os, h.tape, h.output, h.size, h.block⟩
theorem gr_tr {a b c : World} {row : Option Nat} (h1 : a.grownBy b row) (h2 : b.grownBy c row) : a.grownBy c row :=
  ⟨h2.os.trans h1.os, h2.tape.trans h1.tape, h2.output.trans h1.output, Nat.le_trans h1.size h2.size, fun k hk hr => (h2.block k (Nat.lt_of_lt_of_le hk h1.size) hr).trans (h1.block k hk hr)⟩
def NextR (n g : Nat) (a : Option Addr) (len cap : Nat) (w : World) (e : Ending) (w' : World) : Prop := ∃ r : Nat, e = .returned (.int .i64 (r : Int)) ∧ r < n ∧ Src w' g a len cap ∧ w.grownBy w' (some g)
theorem tmod_nat (x n : Nat) : ((x : Int)).tmod (n : Int) = ((x % n : Nat) : Int) := by rw [Int.tmod_eq_emod_of_nonneg (by omega)]; rfl
theorem tdiv_nat (x n : Nat) : ((x : Int)).tdiv (n : Int) = ((x / n : Nat) : Int) := by rw [Int.tdiv_eq_ediv_of_nonneg (by omega)]; rfl

set_option maxRecDepth 100000 in
set_option maxHeartbeats 4000000 in
theorem next_any (n : Nat) (h2 : 2 ≤ n) (hn : n ≤ 1000000) (w : World) (g : Nat) (a : Option Addr) (len cap : Nat) (hS : Src w g a len cap) (hR : Rd w g a len) :
    Calls Try.prog 15 #[.pointer (some ⟨g, 0, none⟩), .int .i64 (n : Int)] w (NextR n g a len cap w) := by
  obtain ⟨k, s, hA, hk, hs, hl⟩ := hS
  have HR := Lib.hid hR
  have HN := Lib.hid hn
  have HH2 := Lib.hid h2
  obtain ⟨s2, hs2⟩ : ∃ s2, (s * 48271 + 71) % 2147483647 = s2 := ⟨_, rfl⟩
  have HS2 := Lib.hid (show s2 < 2147483647 by omega)
  obtain ⟨q, hq⟩ : ∃ q, s2 / 47 = q := ⟨_, rfl⟩
  have HQ := Lib.hid (show q ≤ 45691142 by omega)
  have hw1 : IntKind.i64.wrap ((s : Int) * 48271) = (s : Int) * 48271 := IntWalk.i64_in _ (by omega)
  have hw2 : IntKind.i64.wrap ((s : Int) * 48271 + 71) = (s : Int) * 48271 + 71 := IntWalk.i64_in _ (by omega)
  have hr1 : ((s : Int) * 48271 + 71).tmod 2147483647 = (s2 : Int) := by
    have := tmod_nat (s * 48271 + 71) 2147483647
    rw [hs2, Int.natCast_add, Int.natCast_mul] at this
    exact this
  have hr2 : ((s2 : Int)).tdiv 47 = (q : Int) := by
    have := tdiv_nat s2 47
    rw [hq] at this
    exact this
  have hle : ¬ (n : Int) ≤ 1 := by omega
  have hw3 : IntKind.i64.wrap (s2 : Int) = (s2 : Int) := IntWalk.i64_in _ (by omega)
  have hw4 : IntKind.i64.wrap (q : Int) = (q : Int) := IntWalk.i64_in _ (by omega)
  obtain ⟨⟨c0, c1, c2⟩, f1, f2, hgl⟩ := hA.cells
  have HA := Lib.hid hA
  have HL := Lib.hid hl
  have HK := Lib.hid hk
  clear hA hs hs2 hq hR hn h2 hl
  go_enter Try.func15, Try.ntmps15
  go_upto_region 4 with fail
  obtain ⟨wa, hwa⟩ : ∃ wa, w.setCell ⟨g, 2, none⟩ (.int .i64 (s2 : Int)) = wa := ⟨_, rfl⟩
  simp only [hwa]
  have HA_wa := Lib.hid (show SrcA wa g a len cap k s2 by rw [← hwa]; exact HA.out.set2 s2)
  have HG_wa := Lib.hid (show w.grownBy wa (some g) by rw [← hwa]; exact gr_set (gr_refl _ _) _)
  clear hwa c0 c1 c2 f1 f2 hgl hr1 hw1 hw2 hw3
  obtain ⟨⟨c0, c1, c2⟩, f1, f2, hgl⟩ := HA_wa.out.cells
  go_wp2_with fail
  go_region_held3 (fun w' => (∀ b o, b < wa.heap.size → w'.cell? ⟨b, o, none⟩ = wa.cell? ⟨b, o, none⟩) ∧ Keep (fun _ => True) wa w')
    (first | exact ks_mk (by repeat (first | exact (Keep.refl _ _).drew | exact Keep.refl _ _)))
    (fail)
  rename_i hHd
  clear hHd
  obtain ⟨wb, hwb⟩ : ∃ wb, wa.drew = wb := ⟨_, rfl⟩
  simp only [hwb]
  have HA_wb := Lib.hid (show SrcA wb g a len cap k s2 by rw [← hwb]; exact HA_wa.out.drew)
  have HG_wb := Lib.hid (show w.grownBy wb (some g) by rw [← hwb]; exact gr_drew HG_wa.out)
  clear hwb c0 c1 c2 f1 f2 hgl
  obtain ⟨⟨c0, c1, c2⟩, f1, f2, hgl⟩ := HA_wb.out.cells
  have HMOD := Lib.hid (show ∀ x : Nat, ∃ r : Nat, ((x : Int)).tmod (n : Int) = (r : Int) ∧ r < n from fun x => ⟨x % n, tmod_nat x n, Nat.mod_lt _ (by have := HH2.out; omega)⟩)
  have hn0 : ¬ (n : Int) = 0 := by have := HH2.out; omega
  by_cases hkl : k < len
  · obtain ⟨b, o, z, rfl, hbg, hbl, hcz, hz⟩ := HR.out.grown HG_wb.out k hkl
    have hki : (k : Int) < (len : Int) := by omega
    have hki0 : (0 : Int) ≤ (k : Int) := by omega
    have hwz : IntKind.i64.wrap ((q : Int) + (z : Int)) = (q : Int) + (z : Int) := IntWalk.i64_in _ (by have := HQ.out; omega)
    have hzw : IntKind.i64.wrap (z : Int) = (z : Int) := IntWalk.i64_in _ (by omega)
    have hwk : IntKind.i64.wrap ((k : Int) + 1) = (k : Int) + 1 := IntWalk.i64_in _ (by have := HL.out; omega)
    go_wp2_with fail
    go_region_held3 (fun w' => (∀ b o, b < wb.heap.size → w'.cell? ⟨b, o, none⟩ = wb.cell? ⟨b, o, none⟩) ∧ Keep (fun _ => True) wb w')
      (first | exact ks_mk (by repeat (first | exact (Keep.refl _ _).drew | exact Keep.refl _ _)))
      (fail)
    rename_i hHd
    clear hHd
    obtain ⟨wc, hwc⟩ : ∃ wc, wb.drew = wc := ⟨_, rfl⟩
    simp only [hwc]
    have HA_wc := Lib.hid (show SrcA wc g (some ⟨b, o, none⟩) len cap k s2 by rw [← hwc]; exact HA_wb.out.drew)
    have HG_wc := Lib.hid (show w.grownBy wc (some g) by rw [← hwc]; exact gr_drew HG_wb.out)
    clear hwc c0 c1 c2 f1 f2 hgl
    obtain ⟨⟨c0, c1, c2⟩, f1, f2, hgl⟩ := HA_wc.out.cells
    go_upto_region 8 with fail
    obtain ⟨wd, hwd⟩ : ∃ wd, wc.setCell ⟨g, 1, none⟩ (.int .i64 ((k : Int) + 1)) = wd := ⟨_, rfl⟩
    simp only [hwd]
    have HA_wd := Lib.hid (show SrcA wd g (some ⟨b, o, none⟩) len cap (k + 1) s2 by rw [← hwd]; exact HA_wc.out.set1 (k + 1))
    have HG_wd := Lib.hid (show w.grownBy wd (some g) by rw [← hwd]; exact gr_set HG_wc.out _)
    have hczd := (Keep.grown HG_wd.out (S := fun k => k ≠ g) (fun k hk e => hk (by injection e))).cell (b := b) (o := o + k) hbg (by
      obtain ⟨b', o', z', e, _, h3, _⟩ := HR.out k hkl
      simp only [Option.some.injEq, Addr.mk.injEq] at e
      rw [e.1]; exact h3)
    have hczw : w.cell? ⟨b, o + k, none⟩ = some (.int .u8 (z : Int)) := by
      obtain ⟨b', o', z', e, _, h3, h4, _⟩ := HR.out k hkl
      simp only [Option.some.injEq, Addr.mk.injEq, and_true] at e
      obtain ⟨rfl, rfl⟩ := e
      have := (Keep.grown HG_wb.out (S := fun k => k ≠ g) (fun k hk e => hk (by injection e))).cell (b := b) (o := o + k) hbg h3
      rw [← this]; exact hcz
    rw [hczw] at hczd
    have hbld : b < wd.heap.size := by
      obtain ⟨b', o', z', e, _, h3, _⟩ := HR.out k hkl
      simp only [Option.some.injEq, Addr.mk.injEq] at e
      rw [e.1]; exact Nat.lt_of_lt_of_le h3 HG_wd.out.size
    obtain ⟨k1, hk1⟩ : ∃ k1, k + 1 = k1 := ⟨_, rfl⟩
    rw [hk1] at HA_wd
    have HK1 := Lib.hid (show k1 = k + 1 ∧ k < len by omega)
    have hsub : IntKind.i64.wrap ((k1 : Int) - 1) = (k : Int) := by rw [IntWalk.i64_in _ (by have := HL.out; omega)]; omega
    clear hwd c0 c1 c2 f1 f2 hgl hcz hbl hwk hczw hk1
    obtain ⟨⟨c0, c1, c2⟩, f1, f2, hgl⟩ := HA_wd.out.cells
    obtain ⟨p, hp⟩ : ∃ p, k1 % 2 = p := ⟨_, rfl⟩
    have hpm : ((k1 : Int)).tmod 2 = (p : Int) := by
      have := tmod_nat k1 2
      rw [hp] at this
      exact this
    have hwp : IntKind.i64.wrap (p : Int) = (p : Int) := IntWalk.i64_in _ (by omega)
    clear hp
    by_cases h256 : n ≤ 256
    · have h256i : (n : Int) ≤ 256 := by omega
      by_cases hp0 : p = 0
      · subst hp0
        go_wp2_with fail
        go_region_held3 (fun w' => (∀ b o, b < wd.heap.size → w'.cell? ⟨b, o, none⟩ = wd.cell? ⟨b, o, none⟩) ∧ Keep (fun _ => True) wd w')
          (first | exact ks_mk (by repeat (first | exact (Keep.refl _ _).drew | exact Keep.refl _ _)))
          (fail)
        rename_i hHd
        clear hHd
        obtain ⟨we, hwe⟩ : ∃ we, wd.drew = we := ⟨_, rfl⟩
        simp only [hwe]
        have HA_we := Lib.hid (show SrcA we g (some ⟨b, o, none⟩) len cap k1 s2 by rw [← hwe]; exact HA_wd.out.drew)
        have HG_we := Lib.hid (show w.grownBy we (some g) by rw [← hwe]; exact gr_drew HG_wd.out)
        clear hwe c0 c1 c2 f1 f2 hgl
        obtain ⟨⟨c0, c1, c2⟩, f1, f2, hgl⟩ := HA_we.out.cells
        obtain ⟨r, hr, hrn⟩ := HMOD.out (z)
        skip
        have hwr : IntKind.i64.wrap (r : Int) = (r : Int) := IntWalk.i64_in _ (by have := HN.out; omega)
        have HRR := Lib.hid (show NextR n g (some ⟨b, o, none⟩) len cap w (.returned (.int .i64 (r : Int))) we from ⟨r, rfl, hrn, ⟨k1, s2, HA_we.out, by have := HK1.out; omega, HS2.out, HL.out⟩, HG_we.out⟩)
        clear hrn
        go_wp2_with fail
        go_ret
        exact HRR.out
      · have hpi : ((p : Int) == 0) = false := by simp; omega
        obtain ⟨r, hr, hrn⟩ := HMOD.out (q + z)
        rw [Int.natCast_add] at hr
        have hwr : IntKind.i64.wrap (r : Int) = (r : Int) := IntWalk.i64_in _ (by have := HN.out; omega)
        have HRR := Lib.hid (show NextR n g (some ⟨b, o, none⟩) len cap w (.returned (.int .i64 (r : Int))) wd from ⟨r, rfl, hrn, ⟨k1, s2, HA_wd.out, by have := HK1.out; omega, HS2.out, HL.out⟩, HG_wd.out⟩)
        clear hrn
        go_wp2_with fail
        go_ret
        exact HRR.out
    · have h256i : ¬ (n : Int) ≤ 256 := by omega
      obtain ⟨r, hr, hrn⟩ := HMOD.out (q + z)
      rw [Int.natCast_add] at hr
      have hwr : IntKind.i64.wrap (r : Int) = (r : Int) := IntWalk.i64_in _ (by have := HN.out; omega)
      have HRR := Lib.hid (show NextR n g (some ⟨b, o, none⟩) len cap w (.returned (.int .i64 (r : Int))) wd from ⟨r, rfl, hrn, ⟨k1, s2, HA_wd.out, by have := HK1.out; omega, HS2.out, HL.out⟩, HG_wd.out⟩)
      clear hrn
      go_wp2_with fail
      go_ret
      exact HRR.out
  · have hki : ¬ (k : Int) < (len : Int) := by omega
    obtain ⟨r, hr, hrn⟩ := HMOD.out q
    have hwr : IntKind.i64.wrap (r : Int) = (r : Int) := IntWalk.i64_in _ (by have := HN.out; omega)
    have HRR := Lib.hid (show NextR n g a len cap w (.returned (.int .i64 (r : Int))) wb from ⟨r, rfl, hrn, ⟨k, s2, HA_wb.out, hk, HS2.out, HL.out⟩, HG_wb.out⟩)
    clear hrn
    go_wp2_with fail
    go_ret
    exact HRR.out
theorem Src.alloc {w : World} {g : Nat} {a : Option Addr} {len cap : Nat} (h : Src w g a len cap) (o : Obj) : Src (w.alloc o) g a len cap := by
  obtain ⟨k, s, h1, h2, h3, h4⟩ := h
  exact ⟨k, s, (Below.heap_alloc w o g (Array.getElem?_eq_some_iff.1 h1).1).trans h1, h2, h3, h4⟩
theorem Src.lt {w : World} {g : Nat} {a : Option Addr} {len cap : Nat} (h : Src w g a len cap) : g < w.heap.size := by
  obtain ⟨k, s, h1, _⟩ := h
  exact (Array.getElem?_eq_some_iff.1 h1).1
theorem Rd.alloc {w : World} {g : Nat} {a : Option Addr} {len : Nat} (h : Rd w g a len) (o : Obj) : Rd (w.alloc o) g a len := h.keep ((Keep.refl _ _).alloc o)
end Go.Proofs.Ytabeedimnbkcgaa.CyB
