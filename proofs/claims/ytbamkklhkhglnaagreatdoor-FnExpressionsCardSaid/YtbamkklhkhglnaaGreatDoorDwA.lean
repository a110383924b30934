import Derived.Test.YtbamkklhkhglnaaGreatDoorOwn2
import Derived.Laws.AppendOwnNone
import Derived.Deep.RegionLaw
/-
  The source of the draws: spec.l01Next, l01From, l01Pick.
-/
namespace Go.Proofs.YtbamkklhkhglnaaGreatDoor.CyA
open Go.RowKit Go.Proofs.YtbamkklhkhglnaaGreatDoor Go.Proofs.YtbamkklhkhglnaaGreatDoor.Tow
set_option linter.unusedVariables false
set_option linter.unusedSimpArgs false

theorem slg_form {α : Type} {E : World → Value → α → Prop} {S : Nat → Prop} {w : World} {v : Value} {l : List α} (h : SlG E S w v l) : ∃ a c, v = .slice a l.length c ∧ l.length ≤ c ∧ c ≤ maxLen := by
  obtain ⟨a, c, h1, h2, h3, _⟩ := h
  exact ⟨a, c, h1, h2, h3⟩
theorem slg_get {α : Type} {E : World → Value → α → Prop} {S : Nat → Prop} {w : World} {a : Option Addr} {n c : Nat} {l : List α} (h : SlG E S w (.slice a n c) l) {k : Nat} {x : α} (hx : l[k]? = some x) :
    ∃ b o u, a = some ⟨b, o, none⟩ ∧ S b ∧ b < w.heap.size ∧ w.cell? ⟨b, o + k, none⟩ = some u ∧ E w u x := by
  obtain ⟨ao, c', e, _, _, _, h4⟩ := h
  obtain ⟨rfl, _, _⟩ : a = ao ∧ n = l.length ∧ c = c' := by simpa using e
  obtain ⟨b, o, e1, e2, e3, u, e4, e5⟩ := h4 k x hx
  exact ⟨b, o, u, e1, e2, e3, e4, e5⟩
theorem blk' {w w' : World} {o : Obj} {B g : Nat} (hb : Below B w w') (hg : g < B) (h : w.heap[g]? = some o) : w'.heap[g]? = some o := (hb.block g hg).trans h
theorem row3' {w : World} {g : Nat} {a b c : Value} {t : TypeId} (h : w.heap[g]? = some (.cells #[a, b, c] t (0, 0))) :
    w.cell? ⟨g, 0, none⟩ = some a ∧ w.cell? ⟨g, 1, none⟩ = some b ∧ w.cell? ⟨g, 2, none⟩ = some c :=
  ⟨(cell_of_row _ _ _ _ _ _ h).trans rfl, (cell_of_row _ _ _ _ _ _ h).trans rfl, (cell_of_row _ _ _ _ _ _ h).trans rfl⟩
end Go.Proofs.YtbamkklhkhglnaaGreatDoor.CyA
namespace Go.Proofs.YtbamkklhkhglnaaGreatDoor.CyB
open Go.RowKit Go.Proofs.YtbamkklhkhglnaaGreatDoor Go.Proofs.YtbamkklhkhglnaaGreatDoor.Tow Go.Proofs.YtbamkklhkhglnaaGreatDoor.CyA
set_option linter.unusedVariables false
set_option linter.unusedSimpArgs false

/-- a source of numbers -/
def SrcA (w : World) (g : Nat) (a : Option Addr) (len cap k s : Nat) : Prop := w.heap[g]? = some (.cells #[.slice a len cap, .int .i64 (k : Int), .int .i64 (s : Int)] 72 (0, 0))
def Src (w : World) (g : Nat) (a : Option Addr) (len cap : Nat) : Prop := ∃ k s : Nat, SrcA w g a len cap k s ∧ k ≤ len ∧ s < 2147483647 ∧ len ≤ 4096
/-- the code can be read -/
def Rd (w : World) (g : Nat) (a : Option Addr) (len : Nat) : Prop := ∀ i, i < len → ∃ b o, ∃ z : Nat, a = some ⟨b, o, none⟩ ∧ b ≠ g ∧ b < w.heap.size ∧ w.cell? ⟨b, o + i, none⟩ = some (.int .u8 (z : Int)) ∧ z < 256
theorem Rd.keep {w w' : World} {g : Nat} {a : Option Addr} {len : Nat} (h : Rd w g a len) (hk : Keep (fun k => k ≠ g) w w') : Rd w' g a len := fun i hi => by
  obtain ⟨b, o, z, h1, h2, h3, h4, h5⟩ := h i hi
  exact ⟨b, o, z, h1, h2, Nat.lt_of_lt_of_le h3 hk.size, by rw [hk.cell h2 h3]; exact h4, h5⟩
theorem Rd.grown {w w' : World} {g : Nat} {a : Option Addr} {len : Nat} (h : Rd w g a len) (hg : w.grownBy w' (some g)) : Rd w' g a len := h.keep (Keep.grown hg fun k hk e => hk (by injection e))
theorem SrcA.set1 {w : World} {g : Nat} {a : Option Addr} {len cap k s : Nat} (h : SrcA w g a len cap k s) (k' : Nat) : SrcA (w.setCell ⟨g, 1, none⟩ (.int .i64 (k' : Int))) g a len cap k' s := heap_setCell_same w g 1 _ _ _ h
theorem SrcA.set2 {w : World} {g : Nat} {a : Option Addr} {len cap k s : Nat} (h : SrcA w g a len cap k s) (s' : Nat) : SrcA (w.setCell ⟨g, 2, none⟩ (.int .i64 (s' : Int))) g a len cap k s' := heap_setCell_same w g 2 _ _ _ h
theorem SrcA.drew {w : World} {g : Nat} {a : Option Addr} {len cap k s : Nat} (h : SrcA w g a len cap k s) : SrcA w.drew g a len cap k s := h
theorem SrcA.cells {w : World} {g : Nat} {a : Option Addr} {len cap k s : Nat} (h : SrcA w g a len cap k s) : (w.cell? ⟨g, 0, none⟩ = some (.slice a len cap) ∧ w.cell? ⟨g, 1, none⟩ = some (.int .i64 (k : Int)) ∧ w.cell? ⟨g, 2, none⟩ = some (.int .i64 (s : Int))) ∧
    w.frozen? ⟨g, 1, none⟩ = false ∧ w.frozen? ⟨g, 2, none⟩ = false ∧ g < w.heap.size := ⟨row3' h, by simp [World.frozen?, show w.heap[g]? = _ from h], by simp [World.frozen?, show w.heap[g]? = _ from h], (Array.getElem?_eq_some_iff.1 h).1⟩
theorem gr_set {w w' : World} {g i : Nat} (h : w.grownBy w' (some g)) (u : Value) : w.grownBy (w'.setCell ⟨g, i, none⟩ u) (some g) :=
  ⟨h.os, h.tape, h.output, by simpa using h.size, fun k hk hne => (heap_setCell_other w' ⟨g, i, none⟩ k u (fun e => hne (by rw [e]))).trans (h.block k hk hne)⟩
theorem gr_refl (w : World) (row : Option Nat) : w.grownBy w row := ⟨rfl, rfl, rfl, Nat.le_refl _, fun _ _ _ => rfl⟩
theorem gr_drew {w w' : World} {row : Option Nat} (h : w.grownBy w' row) : w.grownBy w'.drew row := ⟨h.os, h.tape, h.output, h.size, h.block⟩
theorem gr_tr {a b c : World} {row : Option Nat} (h1 : a.grownBy b row) (h2 : b.grownBy c row) : a.grownBy c row :=
  ⟨h2.os.trans h1.os, h2.tape.trans h1.tape, h2.output.trans h1.output, Nat.le_trans h1.size h2.size, fun k hk hr => (h2.block k (Nat.lt_of_lt_of_le hk h1.size) hr).trans (h1.block k hk hr)⟩
def NextR (n g : Nat) (a : Option Addr) (len cap : Nat) (w : World) (e : Ending) (w' : World) : Prop := ∃ r : Nat, e = .returned (.int .i64 (r : Int)) ∧ r < n ∧ Src w' g a len cap ∧ w.grownBy w' (some g)
theorem tmod_nat (x n : Nat) : ((x : Int)).tmod (n : Int) = ((x % n : Nat) : Int) := by rw [Int.tmod_eq_emod_of_nonneg (by omega)]; rfl
theorem tdiv_nat (x n : Nat) : ((x : Int)).tdiv (n : Int) = ((x / n : Nat) : Int) := by rw [Int.tdiv_eq_ediv_of_nonneg (by omega)]; rfl
set_option maxRecDepth 100000 in
set_option maxHeartbeats 4000000 in
theorem next_any (n : Nat) (h2 : 2 ≤ n) (hn : n ≤ 1000000) (w : World) (g : Nat) (a : Option Addr) (len cap : Nat) (hS : Src w g a len cap) (hR : Rd w g a len) :
    Calls Tryz.prog 27 #[.pointer (some ⟨g, 0, none⟩), .int .i64 (n : Int)] w (NextR n g a len cap w) := by
  obtain ⟨k, s, hA, hk, hs, hl⟩ := hS
  have HR := Lib.hid hR
  have HN := Lib.hid hn
  have HH2 := Lib.hid h2
  obtain ⟨s2, hs2⟩ : ∃ s2, (s * 48271 + 71) % 2147483647 = s2 := ⟨_, rfl⟩
  have HS2 := Lib.hid (show s2 < 2147483647 by omega)
  obtain ⟨q, hq⟩ : ∃ q, s2 / 47 = q := ⟨_, rfl⟩
  have HQ := Lib.hid (show q ≤ 45691142 by omega)
  have hw1 : IntKind.i64.wrap ((s : Int) * 48271) = (s : Int) * 48271 := IntWalk.i64_in _ (by omega)
  have hw2 : IntKind.i64.wrap ((s : Int) * 48271 + 71) = (s : Int) * 48271 + 71 := IntWalk.i64_in _ (by omega)
  have hr1 : ((s : Int) * 48271 + 71).tmod 2147483647 = (s2 : Int) := by
    have := tmod_nat (s * 48271 + 71) 2147483647
    rw [hs2, Int.natCast_add, Int.natCast_mul] at this
    exact this
  have hr2 : ((s2 : Int)).tdiv 47 = (q : Int) := by
    have := tdiv_nat s2 47
    rw [hq] at this
    exact this
  have hle : ¬ (n : Int) ≤ 1 := by omega
  have hw3 : IntKind.i64.wrap (s2 : Int) = (s2 : Int) := IntWalk.i64_in _ (by omega)
  have hw4 : IntKind.i64.wrap (q : Int) = (q : Int) := IntWalk.i64_in _ (by omega)
  obtain ⟨⟨c0, c1, c2⟩, f1, f2, hgl⟩ := hA.cells
  have HA := Lib.hid hA
  have HL := Lib.hid hl
  have HK := Lib.hid hk
  clear hA hs hs2 hq hR hn h2 hl
  go_enter Tryz.func27, Tryz.ntmps27
  go_upto_region 4 with fail
  obtain ⟨wa, hwa⟩ : ∃ wa, w.setCell ⟨g, 2, none⟩ (.int .i64 (s2 : Int)) = wa := ⟨_, rfl⟩
  simp only [hwa]
  have HA_wa := Lib.hid (show SrcA wa g a len cap k s2 by rw [← hwa]; exact HA.out.set2 s2)
  have HG_wa := Lib.hid (show w.grownBy wa (some g) by rw [← hwa]; exact gr_set (gr_refl _ _) _)
  clear hwa c0 c1 c2 f1 f2 hgl hr1 hw1 hw2 hw3
  obtain ⟨⟨c0, c1, c2⟩, f1, f2, hgl⟩ := HA_wa.out.cells
  go_wp2_with fail
  go_region_held3 (fun w' => (∀ b o, b < wa.heap.size → w'.cell? ⟨b, o, none⟩ = wa.cell? ⟨b, o, none⟩) ∧ Keep (fun _ => True) wa w')
    (first | exact ks_mk (by repeat (first | exact (Keep.refl _ _).drew | exact Keep.refl _ _)))
    (fail)
  rename_i hHd
  clear hHd
  obtain ⟨wb, hwb⟩ : ∃ wb, wa.drew = wb := ⟨_, rfl⟩
  simp only [hwb]
  have HA_wb := Lib.hid (show SrcA wb g a len cap k s2 by rw [← hwb]; exact HA_wa.out.drew)
  have HG_wb := Lib.hid (show w.grownBy wb (some g) by rw [← hwb]; exact gr_drew HG_wa.out)
  clear hwb c0 c1 c2 f1 f2 hgl
  obtain ⟨⟨c0, c1, c2⟩, f1, f2, hgl⟩ := HA_wb.out.cells
  have HMOD := Lib.hid (show ∀ x : Nat, ∃ r : Nat, ((x : Int)).tmod (n : Int) = (r : Int) ∧ r < n from fun x => ⟨x % n, tmod_nat x n, Nat.mod_lt _ (by have := HH2.out; omega)⟩)
  have hn0 : ¬ (n : Int) = 0 := by have := HH2.out; omega
  by_cases hkl : k < len
  · obtain ⟨b, o, z, rfl, hbg, hbl, hcz, hz⟩ := HR.out.grown HG_wb.out k hkl
    have hki : (k : Int) < (len : Int) := by omega
    have hki0 : (0 : Int) ≤ (k : Int) := by omega
    have hwz : IntKind.i64.wrap ((q : Int) + (z : Int)) = (q : Int) + (z : Int) := IntWalk.i64_in _ (by have := HQ.out; omega)
    have hzw : IntKind.i64.wrap (z : Int) = (z : Int) := IntWalk.i64_in _ (by omega)
    have hwk : IntKind.i64.wrap ((k : Int) + 1) = (k : Int) + 1 := IntWalk.i64_in _ (by have := HL.out; omega)
    go_wp2_with fail
    go_region_held3 (fun w' => (∀ b o, b < wb.heap.size → w'.cell? ⟨b, o, none⟩ = wb.cell? ⟨b, o, none⟩) ∧ Keep (fun _ => True) wb w')
      (first | exact ks_mk (by repeat (first | exact (Keep.refl _ _).drew | exact Keep.refl _ _)))
      (fail)
    rename_i hHd
    clear hHd
    obtain ⟨wc, hwc⟩ : ∃ wc, wb.drew = wc := ⟨_, rfl⟩
    simp only [hwc]
    have HA_wc := Lib.hid (show SrcA wc g (some ⟨b, o, none⟩) len cap k s2 by rw [← hwc]; exact HA_wb.out.drew)
    have HG_wc := Lib.hid (show w.grownBy wc (some g) by rw [← hwc]; exact gr_drew HG_wb.out)
    clear hwc c0 c1 c2 f1 f2 hgl
    obtain ⟨⟨c0, c1, c2⟩, f1, f2, hgl⟩ := HA_wc.out.cells
    go_upto_region 8 with fail
    obtain ⟨wd, hwd⟩ : ∃ wd, wc.setCell ⟨g, 1, none⟩ (.int .i64 ((k : Int) + 1)) = wd := ⟨_, rfl⟩
    simp only [hwd]
    have HA_wd := Lib.hid (show SrcA wd g (some ⟨b, o, none⟩) len cap (k + 1) s2 by rw [← hwd]; exact HA_wc.out.set1 (k + 1))
    have HG_wd := Lib.hid (show w.grownBy wd (some g) by rw [← hwd]; exact gr_set HG_wc.out _)
    have hczd := (Keep.grown HG_wd.out (S := fun k => k ≠ g) (fun k hk e => hk (by injection e))).cell (b := b) (o := o + k) hbg (by
      obtain ⟨b', o', z', e, _, h3, _⟩ := HR.out k hkl
      simp only [Option.some.injEq, Addr.mk.injEq] at e
      rw [e.1]; exact h3)
    have hczw : w.cell? ⟨b, o + k, none⟩ = some (.int .u8 (z : Int)) := by
      obtain ⟨b', o', z', e, _, h3, h4, _⟩ := HR.out k hkl
      simp only [Option.some.injEq, Addr.mk.injEq, and_true] at e
      obtain ⟨rfl, rfl⟩ := e
      have := (Keep.grown HG_wb.out (S := fun k => k ≠ g) (fun k hk e => hk (by injection e))).cell (b := b) (o := o + k) hbg h3
      rw [← this]; exact hcz
    rw [hczw] at hczd
    have hbld : b < wd.heap.size := by
      obtain ⟨b', o', z', e, _, h3, _⟩ := HR.out k hkl
      simp only [Option.some.injEq, Addr.mk.injEq] at e
      rw [e.1]; exact Nat.lt_of_lt_of_le h3 HG_wd.out.size
    obtain ⟨k1, hk1⟩ : ∃ k1, k + 1 = k1 := ⟨_, rfl⟩
    rw [hk1] at HA_wd
    have HK1 := Lib.hid (show k1 = k + 1 ∧ k < len by omega)
    have hsub : IntKind.i64.wrap ((k1 : Int) - 1) = (k : Int) := by rw [IntWalk.i64_in _ (by have := HL.out; omega)]; omega
    clear hwd c0 c1 c2 f1 f2 hgl hcz hbl hwk hczw hk1
    obtain ⟨⟨c0, c1, c2⟩, f1, f2, hgl⟩ := HA_wd.out.cells
    obtain ⟨p, hp⟩ : ∃ p, k1 % 2 = p := ⟨_, rfl⟩
    have hpm : ((k1 : Int)).tmod 2 = (p : Int) := by
      have := tmod_nat k1 2
      rw [hp] at this
      exact this
    have hwp : IntKind.i64.wrap (p : Int) = (p : Int) := IntWalk.i64_in _ (by omega)
    clear hp
    by_cases h256 : n ≤ 256
    · have h256i : (n : Int) ≤ 256 := by omega
      by_cases hp0 : p = 0
      · subst hp0
        go_wp2_with fail
        go_region_held3 (fun w' => (∀ b o, b < wd.heap.size → w'.cell? ⟨b, o, none⟩ = wd.cell? ⟨b, o, none⟩) ∧ Keep (fun _ => True) wd w')
          (first | exact ks_mk (by repeat (first | exact (Keep.refl _ _).drew | exact Keep.refl _ _)))
          (fail)
        rename_i hHd
        clear hHd
        obtain ⟨we, hwe⟩ : ∃ we, wd.drew = we := ⟨_, rfl⟩
        simp only [hwe]
        have HA_we := Lib.hid (show SrcA we g (some ⟨b, o, none⟩) len cap k1 s2 by rw [← hwe]; exact HA_wd.out.drew)
        have HG_we := Lib.hid (show w.grownBy we (some g) by rw [← hwe]; exact gr_drew HG_wd.out)
        clear hwe c0 c1 c2 f1 f2 hgl
        obtain ⟨⟨c0, c1, c2⟩, f1, f2, hgl⟩ := HA_we.out.cells
        obtain ⟨r, hr, hrn⟩ := HMOD.out (z)
        skip
        have hwr : IntKind.i64.wrap (r : Int) = (r : Int) := IntWalk.i64_in _ (by have := HN.out; omega)
        have HRR := Lib.hid (show NextR n g (some ⟨b, o, none⟩) len cap w (.returned (.int .i64 (r : Int))) we from ⟨r, rfl, hrn, ⟨k1, s2, HA_we.out, by have := HK1.out; omega, HS2.out, HL.out⟩, HG_we.out⟩)
        clear hrn
        go_wp2_with fail
        go_ret
        exact HRR.out
      · have hpi : ((p : Int) == 0) = false := by simp; omega
        obtain ⟨r, hr, hrn⟩ := HMOD.out (q + z)
        rw [Int.natCast_add] at hr
        have hwr : IntKind.i64.wrap (r : Int) = (r : Int) := IntWalk.i64_in _ (by have := HN.out; omega)
        have HRR := Lib.hid (show NextR n g (some ⟨b, o, none⟩) len cap w (.returned (.int .i64 (r : Int))) wd from ⟨r, rfl, hrn, ⟨k1, s2, HA_wd.out, by have := HK1.out; omega, HS2.out, HL.out⟩, HG_wd.out⟩)
        clear hrn
        go_wp2_with fail
        go_ret
        exact HRR.out
    · have h256i : ¬ (n : Int) ≤ 256 := by omega
      obtain ⟨r, hr, hrn⟩ := HMOD.out (q + z)
      rw [Int.natCast_add] at hr
      have hwr : IntKind.i64.wrap (r : Int) = (r : Int) := IntWalk.i64_in _ (by have := HN.out; omega)
      have HRR := Lib.hid (show NextR n g (some ⟨b, o, none⟩) len cap w (.returned (.int .i64 (r : Int))) wd from ⟨r, rfl, hrn, ⟨k1, s2, HA_wd.out, by have := HK1.out; omega, HS2.out, HL.out⟩, HG_wd.out⟩)
      clear hrn
      go_wp2_with fail
      go_ret
      exact HRR.out
  · have hki : ¬ (k : Int) < (len : Int) := by omega
    obtain ⟨r, hr, hrn⟩ := HMOD.out q
    have hwr : IntKind.i64.wrap (r : Int) = (r : Int) := IntWalk.i64_in _ (by have := HN.out; omega)
    have HRR := Lib.hid (show NextR n g a len cap w (.returned (.int .i64 (r : Int))) wb from ⟨r, rfl, hrn, ⟨k, s2, HA_wb.out, hk, HS2.out, HL.out⟩, HG_wb.out⟩)
    clear hrn
    go_wp2_with fail
    go_ret
    exact HRR.out
theorem Src.alloc {w : World} {g : Nat} {a : Option Addr} {len cap : Nat} (h : Src w g a len cap) (o : Obj) : Src (w.alloc o) g a len cap := by
  obtain ⟨k, s, h1, h2, h3, h4⟩ := h
  exact ⟨k, s, (Below.heap_alloc w o g (Array.getElem?_eq_some_iff.1 h1).1).trans h1, h2, h3, h4⟩
theorem Src.lt {w : World} {g : Nat} {a : Option Addr} {len cap : Nat} (h : Src w g a len cap) : g < w.heap.size := by
  obtain ⟨k, s, h1, _⟩ := h
  exact (Array.getElem?_eq_some_iff.1 h1).1
theorem Rd.alloc {w : World} {g : Nat} {a : Option Addr} {len : Nat} (h : Rd w g a len) (o : Obj) : Rd (w.alloc o) g a len := h.keep ((Keep.refl _ _).alloc o)
end Go.Proofs.YtbamkklhkhglnaaGreatDoor.CyB
namespace Go.Proofs.YtbamkklhkhglnaaGreatDoor.CyC
open Go.RowKit Go.Proofs.YtbamkklhkhglnaaGreatDoor Go.Proofs.YtbamkklhkhglnaaGreatDoor.Tow Go.Proofs.YtbamkklhkhglnaaGreatDoor.CyA Go.Proofs.YtbamkklhkhglnaaGreatDoor.CyB
set_option linter.unusedVariables false
set_option linter.unusedSimpArgs false

def Rd0 (w : World) (a : Option Addr) (len : Nat) : Prop := ∀ i, i < len → ∃ b o, ∃ z : Nat, a = some ⟨b, o, none⟩ ∧ b < w.heap.size ∧ w.cell? ⟨b, o + i, none⟩ = some (.int .u8 (z : Int)) ∧ z < 256
theorem Rd0.rd {w w' : World} {a : Option Addr} {len g : Nat} (h : Rd0 w a len) (hb : Below w.heap.size w w') (hg : w.heap.size ≤ g) : Rd w' g a len := fun i hi => by
  obtain ⟨b, o, z, h1, h3, h4, h5⟩ := h i hi
  exact ⟨b, o, z, h1, by omega, Nat.lt_of_lt_of_le h3 hb.size, by rw [(Keep.of_below (S := fun _ => True) hb).cell trivial h3]; exact h4, h5⟩
def FromR (a : Option Addr) (len cap : Nat) (w : World) (e : Ending) (w' : World) : Prop := ∃ g, e = .returned (.pointer (some ⟨g, 0, none⟩)) ∧ w.heap.size ≤ g ∧ Src w' g a len cap ∧ Below w.heap.size w w'
set_option maxRecDepth 100000 in
set_option maxHeartbeats 2000000 in
theorem from_any (w : World) (a : Option Addr) (len cap : Nat) (hl : len ≤ 4096) (hR : Rd0 w a len) : Calls Tryz.prog 24 #[.slice a len cap] w (FromR a len cap w) := by
  have HR := Lib.hid hR
  obtain ⟨g, hg⟩ : ∃ g, w.heap.size = g := ⟨_, rfl⟩
  obtain ⟨w1, hw1⟩ : ∃ w1, w1 = w.alloc (.cells #[.slice a len cap, .int .i64 0, .int .i64 76001] 72) := ⟨_, rfl⟩
  have HA := Lib.hid (show SrcA w1 g a len cap 0 76001 by rw [hw1, ← hg]; exact heap_alloc_new _ _)
  have HB := Lib.hid (show Below w.heap.size w w1 by rw [hw1]; exact (Below.refl _ _).alloc (Nat.le_refl _) _)
  have HL := Lib.hid hl
  have HGG := Lib.hid hg
  have hl63 : (len : Int) ≤ 9223372036854775807 := by omega
  clear hR hg
  go_enter Tryz.func24, Tryz.ntmps24
  go_upto_region 2 with fail
  rw [← hw1]
  rw [HGG.out]
  clear hw1
  go_wp2_with fail
  go_loopw [4] (fun iv wr => ∃ i s : Nat, i ≤ len ∧ iv = .int .i64 (i : Int) ∧ Hid (SrcA wr g a len cap 0 s) ∧ Hid (s < 2147483647) ∧ Hid (Below w.heap.size w wr)) (fun iv _ => len - (intOf iv).toNat)
  case atStart => exact ⟨0, 76001, Nat.zero_le _, rfl, HA, Lib.hid (by decide), HB⟩
  case round =>
    obtain ⟨i, s, hi, rfl, hA, hs, hB⟩ := hrel
    by_cases hlt : i < len
    · have hii : (i : Int) < (len : Int) := by omega
      have hii0 : (0 : Int) ≤ (i : Int) := by omega
      by_cases h64 : i < 64
      · have h64i : (i : Int) < 64 := by omega
        obtain ⟨⟨c0, c1, c2⟩, f1, f2, hgl⟩ := hA.out.cells
        obtain ⟨b, o, z, rfl, hbl, hcz, hz⟩ := HR.out i hlt
        have hcz' := ((Keep.of_below (S := fun _ => True) hB.out).cell (b := b) (o := o + i) trivial hbl).trans hcz
        have hbl' := Nat.lt_of_lt_of_le hbl hB.out.size
        obtain ⟨s2, hs2⟩ : ∃ s2, (s * 71 + z) % 2147483647 = s2 := ⟨_, rfl⟩
        have HS2 := Lib.hid (show s2 < 2147483647 by omega)
        have hr1 : ((s : Int) * 71 + (z : Int)).tmod 2147483647 = (s2 : Int) := by
          have := tmod_nat (s * 71 + z) 2147483647
          rw [hs2, Int.natCast_add, Int.natCast_mul] at this
          exact this
        have hw1 : IntKind.i64.wrap ((s : Int) * 71) = (s : Int) * 71 := IntWalk.i64_in _ (by have := hs.out; omega)
        have hw2 : IntKind.i64.wrap ((s : Int) * 71 + (z : Int)) = (s : Int) * 71 + (z : Int) := IntWalk.i64_in _ (by have := hs.out; omega)
        have hw3 : IntKind.i64.wrap (s2 : Int) = (s2 : Int) := IntWalk.i64_in _ (by omega)
        have hw4 : IntKind.i64.wrap (z : Int) = (z : Int) := IntWalk.i64_in _ (by omega)
        have HA' := Lib.hid (show SrcA ((wr.setCell ⟨g, 2, none⟩ (.int .i64 (s2 : Int))).drew) g (some ⟨b, o, none⟩) len cap 0 s2 from (hA.out.set2 s2).drew)
        have HB' := Lib.hid (show Below w.heap.size w ((wr.setCell ⟨g, 2, none⟩ (.int .i64 (s2 : Int))).drew) from (hB.out.setCell (p := ⟨g, 2, none⟩) (by rw [HGG.out]; exact Nat.le_refl _) _).drew)
        clear hcz hbl hs2 hA hB hz
        go_wp2_with fail
        go_region_law (fail)
        all_goals
          go_wp2_with fail
          go_roundw
          case rel => exact ⟨i + 1, s2, by omega, by go_num, HA', HS2, HB'⟩
          case measure => simp [intOf] <;> omega
      · have h64i : ¬ (i : Int) < 64 := by omega
        have HRR := Lib.hid (show FromR a len cap w (.returned (.pointer (some ⟨g, 0, none⟩))) wr from ⟨g, rfl, by rw [HGG.out]; exact Nat.le_refl _, ⟨0, s, hA.out, Nat.zero_le _, hs.out, HL.out⟩, hB.out⟩)
        clear hA hB hs
        go_wp2_with fail
        go_ret
        exact HRR.out
    · obtain rfl : i = len := by omega
      have HRR := Lib.hid (show FromR a i cap w (.returned (.pointer (some ⟨g, 0, none⟩))) wr from ⟨g, rfl, by rw [HGG.out]; exact Nat.le_refl _, ⟨0, s, hA.out, Nat.zero_le _, hs.out, HL.out⟩, hB.out⟩)
      clear hA hB hs hlt
      go_wp2_with fail
      go_ret
      exact HRR.out
def PickR (L : List Int) (g : Nat) (a : Option Addr) (len cap : Nat) (w : World) (e : Ending) (w' : World) : Prop := ∃ x : Int, x ∈ L ∧ e = .returned (.int .i64 x) ∧ Src w' g a len cap ∧ w.grownBy w' (some g)
set_option maxRecDepth 100000 in
set_option maxHeartbeats 2000000 in
theorem pick_any (L : List Int) (m : Nat) (hm : L.length = m) (hm2 : 2 ≤ m) (hm8 : m ≤ 8) (w : World) (B g : Nat) (a : Option Addr) (len cap : Nat) (hB : SlI (fun k => k ≠ g) w (.slice (some ⟨B, 0, none⟩) m m) L) (hS : Src w g a len cap) (hR : Rd w g a len) :
    Calls Tryz.prog 46 #[.pointer (some ⟨g, 0, none⟩), .slice (some ⟨B, 0, none⟩) m m] w (PickR L g a len cap w) := by
  have HC := Lib.hid (next_any m hm2 (by omega) w g a len cap hS hR)
  have HB := Lib.hid hB
  have HM := Lib.hid hm
  clear hS hR hB hm
  go_enter Tryz.func46, Tryz.ntmps46
  go_wp2_with fail
  refine HC.out.mono ?_
  rintro e w1 ⟨r, rfl, hr, hS1, hg1⟩
  obtain ⟨x, hx⟩ : ∃ x, L[r]? = some x := ⟨_, List.getElem?_eq_getElem (by rw [HM.out]; exact hr)⟩
  obtain ⟨b', o', u, he, _, hbl, hcu, rfl⟩ := slg_get (HB.out.keep (Keep.grown hg1 fun k hk e => hk (by injection e))) hx
  obtain ⟨rfl, rfl⟩ : B = b' ∧ 0 = o' := by simpa using he
  rw [Nat.zero_add] at hcu
  have hri : (r : Int) < (m : Int) := by omega
  have hri0 : (0 : Int) ≤ (r : Int) := by omega
  have HR := Lib.hid (show PickR L g a len cap w (.returned (.int .i64 x)) w1 from ⟨x, List.mem_of_getElem? hx, rfl, hS1, hg1⟩)
  clear hS1 hg1 hx HC he
  go_wp2_with fail
  go_ret
  exact HR.out
/-- a new list of numbers -/
theorem lit_sl {w : World} {L : List Int} {g : Nat} (hg : g < w.heap.size) (hl : L.length ≤ 100) : SlI (fun k => k ≠ g) (w.alloc (.cells (L.map (Value.int .i64)).toArray 2)) (.slice (some ⟨w.heap.size, 0, none⟩) L.length L.length) L := by
  refine ⟨_, L.length, rfl, Nat.le_refl _, by unfold maxLen; omega, by simp, fun i x hx => ⟨w.heap.size, 0, rfl, by omega, by simp, .int .i64 x, ?_, rfl⟩⟩
  rw [cell_of_row _ _ _ _ _ (0, 0) (heap_alloc_new _ _), Nat.zero_add]
  simp [hx]
theorem gr_alloc (w : World) (o : Obj) (row : Option Nat) : w.grownBy (w.alloc o) row := ⟨rfl, rfl, rfl, by simp, fun k hk _ => Below.heap_alloc w o k hk⟩
end Go.Proofs.YtbamkklhkhglnaaGreatDoor.CyC
