import Derived.Test.YtpdjpiabbciajaaDoorConsWalks
import Derived.Deep.RegionHeld
import Derived.Handy
namespace Go.Proofs.YtpdjpiabbciajaaDoor.ReadCmd
open Go.RowKit Go.Proofs.YtpdjpiabbciajaaDoor.NumPlain Go.Proofs.YtpdjpiabbciajaaDoor.NumWalks Go.Proofs.YtpdjpiabbciajaaDoor.ConsPlain Go.Proofs.YtpdjpiabbciajaaDoor.ConsWalks
set_option linter.unusedVariables false
set_option linter.unusedSimpArgs false

def textOf (k : Nat) (r : ByteArray) : ByteArray := match k with
  | 1 => r
  | 2 => cutB r
  | 4 => cutB r
  | _ => ⟨#[]⟩
/-- what l38Read hands back -/
def ReadPost (line : ByteArray) (w : World) (e : Ending) (w' : World) : Prop :=
  ∃ (a b : ByteArray) (n : Int) (c : ByteArray), e = .returned (.tuple #[.agg #[.string a, .string b, .int .i64 n, .string c], .bool (cmdOk line)]) ∧
    (cmdOk line = true → a = cutA line ∧ b = letterOf (kind (cutA line).data.toList) (cutB line) ∧ n = numberOf (kind (cutA line).data.toList) (cutB line) ∧ c = textOf (kind (cutA line).data.toList) (cutB line)) ∧ Below w.heap.size w w'
theorem closeR {line A R : ByteArray} {f ok : Bool} {k : Nat} {w w' : World} {a b c : ByteArray} {n : Int} {e : Ending} (hA : cutA line = A) (hR : cutB line = R) (hF : cutF line = f) (hk : kind A.data.toList = k) (hok : okOf k R f = ok)
    (he : e = .returned (.tuple #[.agg #[.string a, .string b, .int .i64 n, .string c], .bool ok])) (hf : ok = true → a = A ∧ b = letterOf k R ∧ n = numberOf k R ∧ c = textOf k R) (hb : Below w.heap.size w w') : ReadPost line w e w' := by
  have hc : cmdOk line = ok := by rw [cmdOk, hA, hR, hF, hk, hok]
  refine ⟨a, b, n, c, by rw [hc]; exact he, fun h => ?_, hb⟩
  rw [hA, hR, hk]
  exact hf (hc.symm.trans h)
theorem kind_le (l : List UInt8) : kind l = 0 ∨ kind l = 1 ∨ kind l = 2 ∨ kind l = 3 ∨ kind l = 4 ∨ kind l = 5 := by
  unfold kind
  repeat' split
  all_goals simp

set_option maxHeartbeats 4000000 in
theorem read0 (s : ByteArray) (w : World) (hs : s.size ≤ 1000000000) (hk : kind (cutA s).data.toList = 0) :
    Calls Tryd.prog 21 #[.string s] w (ReadPost s w) := by
  have hsz := cutB_le s
  go_enter Tryd.func21, Tryd.ntmps21
  go_wp2_with fail
  refine (l38Cut_any s _ hs).mono ?_; rintro e w1 ⟨rfl, n1, rfl⟩
  generalize hA : cutA s = A at hsz hk ⊢
  generalize hB : cutB s = R at hsz ⊢
  generalize hF : cutF s = f
  have HA := Lib.hid hA
  have HR := Lib.hid hB
  have HFl := Lib.hid hF
  have HK := Lib.hid hk
  clear hA hB hF hk
  go_wp2_with fail
  refine (form_any A _).mono ?_; rintro e w1 ⟨rfl, hw1⟩
  obtain rfl := hw1
  rw [HK.out]
  clear hsz
  cases f
  · go_wp2_with fail
    exact bodyPost_ret (v := .tuple #[.agg #[.string ⟨#[]⟩, .string ⟨#[]⟩, .int .i64 0, .string ⟨#[]⟩], .bool false]) (by simp [results, Tryd.results21, go_sem]) rfl (closeR (k := 0) HA.out HR.out HFl.out HK.out rfl rfl (fun h => absurd h Bool.false_ne_true) (by repeat' (first | (with_reducible exact Below.refl _ _) | (with_reducible refine Below.setCell ?_ ?_ _) | (with_reducible refine Below.alloc ?_ ?_ _) | (with_reducible refine below_drewN ?_ _) | go_size)))
  · go_wp2_with fail
    exact bodyPost_ret (v := .tuple #[.agg #[.string ⟨#[]⟩, .string ⟨#[]⟩, .int .i64 0, .string ⟨#[]⟩], .bool false]) (by simp [results, Tryd.results21, go_sem]) rfl (closeR (k := 0) HA.out HR.out HFl.out HK.out rfl rfl (fun h => absurd h Bool.false_ne_true) (by repeat' (first | (with_reducible exact Below.refl _ _) | (with_reducible refine Below.setCell ?_ ?_ _) | (with_reducible refine Below.alloc ?_ ?_ _) | (with_reducible refine below_drewN ?_ _) | go_size)))

set_option maxHeartbeats 4000000 in
theorem read1 (s : ByteArray) (w : World) (hs : s.size ≤ 1000000000) (hk : kind (cutA s).data.toList = 1) :
    Calls Tryd.prog 21 #[.string s] w (ReadPost s w) := by
  have hsz := cutB_le s
  go_enter Tryd.func21, Tryd.ntmps21
  go_wp2_with fail
  refine (l38Cut_any s _ hs).mono ?_; rintro e w1 ⟨rfl, n1, rfl⟩
  generalize hA : cutA s = A at hsz hk ⊢
  generalize hB : cutB s = R at hsz ⊢
  generalize hF : cutF s = f
  have HA := Lib.hid hA
  have HR := Lib.hid hB
  have HFl := Lib.hid hF
  have HK := Lib.hid hk
  clear hA hB hF hk
  go_wp2_with fail
  refine (form_any A _).mono ?_; rintro e w1 ⟨rfl, hw1⟩
  obtain rfl := hw1
  rw [HK.out]
  cases f
  · clear hsz
    go_wp2_with fail
    exact bodyPost_ret (v := .tuple #[.agg #[.string ⟨#[]⟩, .string ⟨#[]⟩, .int .i64 0, .string ⟨#[]⟩], .bool false]) (by simp [results, Tryd.results21, go_sem]) rfl (closeR (k := 1) HA.out HR.out HFl.out HK.out rfl rfl (fun h => absurd h Bool.false_ne_true) (by repeat' (first | (with_reducible exact Below.refl _ _) | (with_reducible refine Below.setCell ?_ ?_ _) | (with_reducible refine Below.alloc ?_ ?_ _) | (with_reducible refine below_drewN ?_ _) | go_size)))
  · clear hsz
    go_wp2_with fail
    exact bodyPost_ret (v := .tuple #[.agg #[.string A, .string ⟨#[]⟩, .int .i64 0, .string R], .bool true]) (by simp [results, Tryd.results21, go_sem]) rfl (closeR (k := 1) HA.out HR.out HFl.out HK.out rfl rfl (fun _ => ⟨rfl, rfl, rfl, rfl⟩) (by repeat' (first | (with_reducible exact Below.refl _ _) | (with_reducible refine Below.setCell ?_ ?_ _) | (with_reducible refine Below.alloc ?_ ?_ _) | (with_reducible refine below_drewN ?_ _) | go_size)))

set_option maxHeartbeats 4000000 in
theorem read2 (s : ByteArray) (w : World) (hs : s.size ≤ 1000000000) (hk : kind (cutA s).data.toList = 2) :
    Calls Tryd.prog 21 #[.string s] w (ReadPost s w) := by
  have hsz := cutB_le s
  go_enter Tryd.func21, Tryd.ntmps21
  go_wp2_with fail
  refine (l38Cut_any s _ hs).mono ?_; rintro e w1 ⟨rfl, n1, rfl⟩
  generalize hA : cutA s = A at hsz hk ⊢
  generalize hB : cutB s = R at hsz ⊢
  generalize hF : cutF s = f
  have HA := Lib.hid hA
  have HR := Lib.hid hB
  have HFl := Lib.hid hF
  have HK := Lib.hid hk
  clear hA hB hF hk
  go_wp2_with fail
  refine (form_any A _).mono ?_; rintro e w1 ⟨rfl, hw1⟩
  obtain rfl := hw1
  rw [HK.out]
  cases f
  · clear hsz
    go_wp2_with fail
    exact bodyPost_ret (v := .tuple #[.agg #[.string ⟨#[]⟩, .string ⟨#[]⟩, .int .i64 0, .string ⟨#[]⟩], .bool false]) (by simp [results, Tryd.results21, go_sem]) rfl (closeR (k := 2) HA.out HR.out HFl.out HK.out rfl rfl (fun h => absurd h Bool.false_ne_true) (by repeat' (first | (with_reducible exact Below.refl _ _) | (with_reducible refine Below.setCell ?_ ?_ _) | (with_reducible refine Below.alloc ?_ ?_ _) | (with_reducible refine below_drewN ?_ _) | go_size)))
  · have hsz2 := cutB_le R
    go_wp2_with fail
    refine (l38Cut_any R _ (by omega)).mono ?_; rintro e w2 ⟨rfl, n2, rfl⟩
    generalize hA2 : cutA R = A2 at hsz2 ⊢
    generalize hB2 : cutB R = R2 at hsz2 ⊢
    generalize hF2 : cutF R = f2
    have HA2 := Lib.hid hA2
    have HR2 := Lib.hid hB2
    have HF2 := Lib.hid hF2
    have HZ := Lib.hid (show A2.size ≤ 1000000000 by omega)
    clear hA2 hB2 hF2 hsz hsz2
    cases f2
    · go_wp2_with fail
      exact bodyPost_ret (v := .tuple #[.agg #[.string ⟨#[]⟩, .string ⟨#[]⟩, .int .i64 0, .string ⟨#[]⟩], .bool false]) (by simp [results, Tryd.results21, go_sem]) rfl (closeR (k := 2) HA.out HR.out HFl.out HK.out (by simp [okOf, HF2.out]) rfl (fun h => absurd h Bool.false_ne_true) (by repeat' (first | (with_reducible exact Below.refl _ _) | (with_reducible refine Below.setCell ?_ ?_ _) | (with_reducible refine Below.alloc ?_ ?_ _) | (with_reducible refine below_drewN ?_ _) | go_size)))
    · go_wp2_with fail
      refine (letter_any A2 _ (by have := HZ.out; unfold maxLen; omega)).mono ?_; rintro e w' ⟨rfl, rfl⟩
      cases hl : isLet A2.data.toList
      · have HL := Lib.hid hl
        clear hl
        go_wp2_with fail
        exact bodyPost_ret (v := .tuple #[.agg #[.string A, .string A2, .int .i64 0, .string R2], .bool false]) (by simp [results, Tryd.results21, go_sem]) rfl (closeR (k := 2) HA.out HR.out HFl.out HK.out (by simp [okOf, HF2.out, HA2.out, HL.out]) rfl (fun h => absurd h Bool.false_ne_true) (by repeat' (first | (with_reducible exact Below.refl _ _) | (with_reducible refine Below.setCell ?_ ?_ _) | (with_reducible refine Below.alloc ?_ ?_ _) | (with_reducible refine below_drewN ?_ _) | go_size)))
      · have HL := Lib.hid hl
        clear hl
        go_wp2_with fail
        exact bodyPost_ret (v := .tuple #[.agg #[.string A, .string A2, .int .i64 0, .string R2], .bool true]) (by simp [results, Tryd.results21, go_sem]) rfl (closeR (k := 2) HA.out HR.out HFl.out HK.out (by simp [okOf, HF2.out, HA2.out, HL.out]) rfl (fun _ => ⟨rfl, HA2.out.symm, rfl, HR2.out.symm⟩) (by repeat' (first | (with_reducible exact Below.refl _ _) | (with_reducible refine Below.setCell ?_ ?_ _) | (with_reducible refine Below.alloc ?_ ?_ _) | (with_reducible refine below_drewN ?_ _) | go_size)))

set_option maxHeartbeats 4000000 in
theorem read3 (s : ByteArray) (w : World) (hs : s.size ≤ 1000000000) (hk : kind (cutA s).data.toList = 3) :
    Calls Tryd.prog 21 #[.string s] w (ReadPost s w) := by
  have hsz := cutB_le s
  go_enter Tryd.func21, Tryd.ntmps21
  go_wp2_with fail
  refine (l38Cut_any s _ hs).mono ?_; rintro e w1 ⟨rfl, n1, rfl⟩
  generalize hA : cutA s = A at hsz hk ⊢
  generalize hB : cutB s = R at hsz ⊢
  generalize hF : cutF s = f
  have HA := Lib.hid hA
  have HR := Lib.hid hB
  have HFl := Lib.hid hF
  have HK := Lib.hid hk
  clear hA hB hF hk
  go_wp2_with fail
  refine (form_any A _).mono ?_; rintro e w1 ⟨rfl, hw1⟩
  obtain rfl := hw1
  rw [HK.out]
  cases f
  · clear hsz
    go_wp2_with fail
    exact bodyPost_ret (v := .tuple #[.agg #[.string ⟨#[]⟩, .string ⟨#[]⟩, .int .i64 0, .string ⟨#[]⟩], .bool false]) (by simp [results, Tryd.results21, go_sem]) rfl (closeR (k := 3) HA.out HR.out HFl.out HK.out rfl rfl (fun h => absurd h Bool.false_ne_true) (by repeat' (first | (with_reducible exact Below.refl _ _) | (with_reducible refine Below.setCell ?_ ?_ _) | (with_reducible refine Below.alloc ?_ ?_ _) | (with_reducible refine below_drewN ?_ _) | go_size)))
  · have hsz2 := cutB_le R
    go_wp2_with fail
    refine (l38Cut_any R _ (by omega)).mono ?_; rintro e w2 ⟨rfl, n2, rfl⟩
    generalize hA2 : cutA R = A2 at hsz2 ⊢
    generalize hB2 : cutB R = R2 at hsz2 ⊢
    generalize hF2 : cutF R = f2
    have HA2 := Lib.hid hA2
    have HR2 := Lib.hid hB2
    have HF2 := Lib.hid hF2
    have HZ := Lib.hid (show A2.size ≤ 1000000000 by omega)
    clear hA2 hB2 hF2 hsz hsz2
    cases f2
    · have HE := Lib.hid (HA2.out.symm.trans (cut_false R HF2.out))
      have HE2 := Lib.hid (HR2.out.symm.trans (cutB_false R HF2.out))
      go_wp2_with fail
      refine (letter_any A2 _ (by have := HZ.out; unfold maxLen; omega)).mono ?_; rintro e w' ⟨rfl, rfl⟩
      cases hl : isLet A2.data.toList
      · have HL := Lib.hid hl
        clear hl
        go_wp2_with fail
        exact bodyPost_ret (v := .tuple #[.agg #[.string A, .string A2, .int .i64 0, .string R2], .bool false]) (by simp [results, Tryd.results21, go_sem]) rfl (closeR (k := 3) HA.out HR.out HFl.out HK.out (by rw [← HE.out]; simp [okOf, HL.out]) rfl (fun h => absurd h Bool.false_ne_true) (by repeat' (first | (with_reducible exact Below.refl _ _) | (with_reducible refine Below.setCell ?_ ?_ _) | (with_reducible refine Below.alloc ?_ ?_ _) | (with_reducible refine below_drewN ?_ _) | go_size)))
      · have HL := Lib.hid hl
        clear hl
        go_wp2_with fail
        exact bodyPost_ret (v := .tuple #[.agg #[.string A, .string A2, .int .i64 0, .string R2], .bool true]) (by simp [results, Tryd.results21, go_sem]) rfl (closeR (k := 3) HA.out HR.out HFl.out HK.out (by rw [← HE.out]; simp [okOf, HL.out]) rfl (fun _ => ⟨rfl, HE.out, rfl, HE2.out⟩) (by repeat' (first | (with_reducible exact Below.refl _ _) | (with_reducible refine Below.setCell ?_ ?_ _) | (with_reducible refine Below.alloc ?_ ?_ _) | (with_reducible refine below_drewN ?_ _) | go_size)))
    · go_wp2_with fail
      exact bodyPost_ret (v := .tuple #[.agg #[.string ⟨#[]⟩, .string ⟨#[]⟩, .int .i64 0, .string ⟨#[]⟩], .bool false]) (by simp [results, Tryd.results21, go_sem]) rfl (closeR (k := 3) HA.out HR.out HFl.out HK.out (by simp [okOf, (let_blank R HF2.out).1]) rfl (fun h => absurd h Bool.false_ne_true) (by repeat' (first | (with_reducible exact Below.refl _ _) | (with_reducible refine Below.setCell ?_ ?_ _) | (with_reducible refine Below.alloc ?_ ?_ _) | (with_reducible refine below_drewN ?_ _) | go_size)))

set_option maxHeartbeats 4000000 in
theorem read4 (s : ByteArray) (w : World) (hs : s.size ≤ 1000000000) (hk : kind (cutA s).data.toList = 4) :
    Calls Tryd.prog 21 #[.string s] w (ReadPost s w) := by
  have hsz := cutB_le s
  go_enter Tryd.func21, Tryd.ntmps21
  go_wp2_with fail
  refine (l38Cut_any s _ hs).mono ?_; rintro e w1 ⟨rfl, n1, rfl⟩
  generalize hA : cutA s = A at hsz hk ⊢
  generalize hB : cutB s = R at hsz ⊢
  generalize hF : cutF s = f
  have HA := Lib.hid hA
  have HR := Lib.hid hB
  have HFl := Lib.hid hF
  have HK := Lib.hid hk
  clear hA hB hF hk
  go_wp2_with fail
  refine (form_any A _).mono ?_; rintro e w1 ⟨rfl, hw1⟩
  obtain rfl := hw1
  rw [HK.out]
  cases f
  · clear hsz
    go_wp2_with fail
    exact bodyPost_ret (v := .tuple #[.agg #[.string ⟨#[]⟩, .string ⟨#[]⟩, .int .i64 0, .string ⟨#[]⟩], .bool false]) (by simp [results, Tryd.results21, go_sem]) rfl (closeR (k := 4) HA.out HR.out HFl.out HK.out rfl rfl (fun h => absurd h Bool.false_ne_true) (by repeat' (first | (with_reducible exact Below.refl _ _) | (with_reducible refine Below.setCell ?_ ?_ _) | (with_reducible refine Below.alloc ?_ ?_ _) | (with_reducible refine below_drewN ?_ _) | go_size)))
  · have hsz2 := cutB_le R
    go_wp2_with fail
    refine (l38Cut_any R _ (by omega)).mono ?_; rintro e w2 ⟨rfl, n2, rfl⟩
    generalize hA2 : cutA R = A2 at hsz2 ⊢
    generalize hB2 : cutB R = R2 at hsz2 ⊢
    generalize hF2 : cutF R = f2
    have HA2 := Lib.hid hA2
    have HR2 := Lib.hid hB2
    have HF2 := Lib.hid hF2
    have HZ := Lib.hid (show A2.size ≤ 1000000000 by omega)
    clear hA2 hB2 hF2 hsz hsz2
    cases f2
    · go_wp2_with fail
      exact bodyPost_ret (v := .tuple #[.agg #[.string ⟨#[]⟩, .string ⟨#[]⟩, .int .i64 0, .string ⟨#[]⟩], .bool false]) (by simp [results, Tryd.results21, go_sem]) rfl (closeR (k := 4) HA.out HR.out HFl.out HK.out (by simp [okOf, HF2.out]) rfl (fun h => absurd h Bool.false_ne_true) (by repeat' (first | (with_reducible exact Below.refl _ _) | (with_reducible refine Below.setCell ?_ ?_ _) | (with_reducible refine Below.alloc ?_ ?_ _) | (with_reducible refine below_drewN ?_ _) | go_size)))
    · go_wp2_with fail
      refine (number_any A2 _ (by have := HZ.out; unfold maxLen; omega)).mono ?_; rintro e w3 ⟨rfl, hb2⟩
      have z0 : w.heap.size < w3.heap.size := by have := hb2.size; simp at this; omega
      have z1 : w.heap.size + 1 < w3.heap.size := by have := hb2.size; simp at this; omega
      have c00 := (hb2.cell (p := ⟨w.heap.size, 0, none⟩) (by simp; try omega)).trans (show _ = some (Value.string ⟨#[]⟩) by simp [go_sem])
      have c01 := (hb2.cell (p := ⟨w.heap.size, 1, none⟩) (by simp; try omega)).trans (show _ = some (Value.string ⟨#[]⟩) by simp [go_sem])
      have c02 := (hb2.cell (p := ⟨w.heap.size, 2, none⟩) (by simp; try omega)).trans (show _ = some (Value.int .i64 0) by simp [go_sem])
      have c03 := (hb2.cell (p := ⟨w.heap.size, 3, none⟩) (by simp; try omega)).trans (show _ = some (Value.string ⟨#[]⟩) by simp [go_sem])
      have c10 := (hb2.cell (p := ⟨w.heap.size + 1, 0, none⟩) (by simp; try omega)).trans (show _ = some (Value.string A) by simp [go_sem])
      have c11 := (hb2.cell (p := ⟨w.heap.size + 1, 1, none⟩) (by simp; try omega)).trans (show _ = some (Value.string ⟨#[]⟩) by simp [go_sem])
      have c12 := (hb2.cell (p := ⟨w.heap.size + 1, 2, none⟩) (by simp; try omega)).trans (show _ = some (Value.int .i64 0) by simp [go_sem])
      have c13 := (hb2.cell (p := ⟨w.heap.size + 1, 3, none⟩) (by simp; try omega)).trans (show _ = some (Value.string R) by simp [go_sem])
      have f00 := (hb2.frozen (p := ⟨w.heap.size, 0, none⟩) (by simp; try omega)).trans (show _ = false by simp [go_sem])
      have f01 := (hb2.frozen (p := ⟨w.heap.size, 1, none⟩) (by simp; try omega)).trans (show _ = false by simp [go_sem])
      have f02 := (hb2.frozen (p := ⟨w.heap.size, 2, none⟩) (by simp; try omega)).trans (show _ = false by simp [go_sem])
      have f03 := (hb2.frozen (p := ⟨w.heap.size, 3, none⟩) (by simp; try omega)).trans (show _ = false by simp [go_sem])
      have f10 := (hb2.frozen (p := ⟨w.heap.size + 1, 0, none⟩) (by simp; try omega)).trans (show _ = false by simp [go_sem])
      have f11 := (hb2.frozen (p := ⟨w.heap.size + 1, 1, none⟩) (by simp; try omega)).trans (show _ = false by simp [go_sem])
      have f12 := (hb2.frozen (p := ⟨w.heap.size + 1, 2, none⟩) (by simp; try omega)).trans (show _ = false by simp [go_sem])
      have f13 := (hb2.frozen (p := ⟨w.heap.size + 1, 3, none⟩) (by simp; try omega)).trans (show _ = false by simp [go_sem])
      have HB2 := Lib.hid (show Below w.heap.size w w3 from Below.trans (by repeat' (first | (with_reducible exact Below.refl _ _) | (with_reducible refine Below.setCell ?_ ?_ _) | (with_reducible refine Below.alloc ?_ ?_ _) | (with_reducible refine below_drewN ?_ _) | go_size)) (hb2.mono (by simp; omega)))
      clear hb2
      cases hl : isNum A2.data.toList
      · have HL := Lib.hid hl
        have hn : numVal A2.data.toList = -1 := by rw [numVal, hl]; rfl
        clear hl
        rw [hn]
        clear hn
        go_wp2_with fail
        exact bodyPost_ret (v := .tuple #[.agg #[.string A, .string ⟨#[]⟩, .int .i64 (-1), .string R2], .bool false]) (by simp [results, Tryd.results21, go_sem, c00, c01, c02, c03, c10, c11, c12, c13]) rfl (closeR (k := 4) HA.out HR.out HFl.out HK.out (by simp [okOf, HF2.out, HA2.out, HL.out]) rfl (fun h => absurd h Bool.false_ne_true) (by repeat' (first | (with_reducible exact HB2.out) | (with_reducible refine Below.setCell ?_ ?_ _) | go_size)))
      · have HL := Lib.hid hl
        have hn : numVal A2.data.toList = (val A2.data.toList : Int) := by rw [numVal, hl]; rfl
        clear hl
        rw [hn]
        clear hn
        go_wp2_with fail
        exact bodyPost_ret (v := .tuple #[.agg #[.string A, .string ⟨#[]⟩, .int .i64 (val A2.data.toList : Int), .string R2], .bool true]) (by simp [results, Tryd.results21, go_sem, c00, c01, c02, c03, c10, c11, c12, c13]) rfl (closeR (k := 4) HA.out HR.out HFl.out HK.out (by simp [okOf, HF2.out, HA2.out, HL.out]) rfl (fun _ => ⟨rfl, rfl, by rw [← HA2.out]; rfl, HR2.out.symm⟩) (by repeat' (first | (with_reducible exact HB2.out) | (with_reducible refine Below.setCell ?_ ?_ _) | go_size)))

set_option maxHeartbeats 4000000 in
theorem read5 (s : ByteArray) (w : World) (hs : s.size ≤ 1000000000) (hk : kind (cutA s).data.toList = 5) :
    Calls Tryd.prog 21 #[.string s] w (ReadPost s w) := by
  have hsz := cutB_le s
  go_enter Tryd.func21, Tryd.ntmps21
  go_wp2_with fail
  refine (l38Cut_any s _ hs).mono ?_; rintro e w1 ⟨rfl, n1, rfl⟩
  generalize hA : cutA s = A at hsz hk ⊢
  generalize hB : cutB s = R at hsz ⊢
  generalize hF : cutF s = f
  have HA := Lib.hid hA
  have HR := Lib.hid hB
  have HFl := Lib.hid hF
  have HK := Lib.hid hk
  clear hA hB hF hk
  go_wp2_with fail
  refine (form_any A _).mono ?_; rintro e w1 ⟨rfl, hw1⟩
  obtain rfl := hw1
  rw [HK.out]
  cases f
  · clear hsz
    go_wp2_with fail
    exact bodyPost_ret (v := .tuple #[.agg #[.string ⟨#[]⟩, .string ⟨#[]⟩, .int .i64 0, .string ⟨#[]⟩], .bool false]) (by simp [results, Tryd.results21, go_sem]) rfl (closeR (k := 5) HA.out HR.out HFl.out HK.out rfl rfl (fun h => absurd h Bool.false_ne_true) (by repeat' (first | (with_reducible exact Below.refl _ _) | (with_reducible refine Below.setCell ?_ ?_ _) | (with_reducible refine Below.alloc ?_ ?_ _) | (with_reducible refine below_drewN ?_ _) | go_size)))
  · have hsz2 := cutB_le R
    go_wp2_with fail
    refine (l38Cut_any R _ (by omega)).mono ?_; rintro e w2 ⟨rfl, n2, rfl⟩
    generalize hA2 : cutA R = A2 at hsz2 ⊢
    generalize hB2 : cutB R = R2 at hsz2 ⊢
    generalize hF2 : cutF R = f2
    have HA2 := Lib.hid hA2
    have HR2 := Lib.hid hB2
    have HF2 := Lib.hid hF2
    have HZ := Lib.hid (show A2.size ≤ 1000000000 by omega)
    clear hA2 hB2 hF2 hsz hsz2
    cases f2
    · have HE := Lib.hid (HA2.out.symm.trans (cut_false R HF2.out))
      have HE2 := Lib.hid (HR2.out.symm.trans (cutB_false R HF2.out))
      go_wp2_with fail
      refine (number_any A2 _ (by have := HZ.out; unfold maxLen; omega)).mono ?_; rintro e w3 ⟨rfl, hb2⟩
      have z0 : w.heap.size < w3.heap.size := by have := hb2.size; simp at this; omega
      have z1 : w.heap.size + 1 < w3.heap.size := by have := hb2.size; simp at this; omega
      have c00 := (hb2.cell (p := ⟨w.heap.size, 0, none⟩) (by simp; try omega)).trans (show _ = some (Value.string ⟨#[]⟩) by simp [go_sem])
      have c01 := (hb2.cell (p := ⟨w.heap.size, 1, none⟩) (by simp; try omega)).trans (show _ = some (Value.string ⟨#[]⟩) by simp [go_sem])
      have c02 := (hb2.cell (p := ⟨w.heap.size, 2, none⟩) (by simp; try omega)).trans (show _ = some (Value.int .i64 0) by simp [go_sem])
      have c03 := (hb2.cell (p := ⟨w.heap.size, 3, none⟩) (by simp; try omega)).trans (show _ = some (Value.string ⟨#[]⟩) by simp [go_sem])
      have c10 := (hb2.cell (p := ⟨w.heap.size + 1, 0, none⟩) (by simp; try omega)).trans (show _ = some (Value.string A) by simp [go_sem])
      have c11 := (hb2.cell (p := ⟨w.heap.size + 1, 1, none⟩) (by simp; try omega)).trans (show _ = some (Value.string ⟨#[]⟩) by simp [go_sem])
      have c12 := (hb2.cell (p := ⟨w.heap.size + 1, 2, none⟩) (by simp; try omega)).trans (show _ = some (Value.int .i64 0) by simp [go_sem])
      have c13 := (hb2.cell (p := ⟨w.heap.size + 1, 3, none⟩) (by simp; try omega)).trans (show _ = some (Value.string R) by simp [go_sem])
      have f00 := (hb2.frozen (p := ⟨w.heap.size, 0, none⟩) (by simp; try omega)).trans (show _ = false by simp [go_sem])
      have f01 := (hb2.frozen (p := ⟨w.heap.size, 1, none⟩) (by simp; try omega)).trans (show _ = false by simp [go_sem])
      have f02 := (hb2.frozen (p := ⟨w.heap.size, 2, none⟩) (by simp; try omega)).trans (show _ = false by simp [go_sem])
      have f03 := (hb2.frozen (p := ⟨w.heap.size, 3, none⟩) (by simp; try omega)).trans (show _ = false by simp [go_sem])
      have f10 := (hb2.frozen (p := ⟨w.heap.size + 1, 0, none⟩) (by simp; try omega)).trans (show _ = false by simp [go_sem])
      have f11 := (hb2.frozen (p := ⟨w.heap.size + 1, 1, none⟩) (by simp; try omega)).trans (show _ = false by simp [go_sem])
      have f12 := (hb2.frozen (p := ⟨w.heap.size + 1, 2, none⟩) (by simp; try omega)).trans (show _ = false by simp [go_sem])
      have f13 := (hb2.frozen (p := ⟨w.heap.size + 1, 3, none⟩) (by simp; try omega)).trans (show _ = false by simp [go_sem])
      have HB2 := Lib.hid (show Below w.heap.size w w3 from Below.trans (by repeat' (first | (with_reducible exact Below.refl _ _) | (with_reducible refine Below.setCell ?_ ?_ _) | (with_reducible refine Below.alloc ?_ ?_ _) | (with_reducible refine below_drewN ?_ _) | go_size)) (hb2.mono (by simp; omega)))
      clear hb2
      cases hl : isNum A2.data.toList
      · have HL := Lib.hid hl
        have hn : numVal A2.data.toList = -1 := by rw [numVal, hl]; rfl
        clear hl
        rw [hn]
        clear hn
        go_wp2_with fail
        exact bodyPost_ret (v := .tuple #[.agg #[.string A, .string ⟨#[]⟩, .int .i64 (-1), .string R2], .bool false]) (by simp [results, Tryd.results21, go_sem, c00, c01, c02, c03, c10, c11, c12, c13]) rfl (closeR (k := 5) HA.out HR.out HFl.out HK.out (by rw [← HE.out]; simp [okOf, HL.out]) rfl (fun h => absurd h Bool.false_ne_true) (by repeat' (first | (with_reducible exact HB2.out) | (with_reducible refine Below.setCell ?_ ?_ _) | go_size)))
      · have HL := Lib.hid hl
        have hn : numVal A2.data.toList = (val A2.data.toList : Int) := by rw [numVal, hl]; rfl
        clear hl
        rw [hn]
        clear hn
        go_wp2_with fail
        exact bodyPost_ret (v := .tuple #[.agg #[.string A, .string ⟨#[]⟩, .int .i64 (val A2.data.toList : Int), .string R2], .bool true]) (by simp [results, Tryd.results21, go_sem, c00, c01, c02, c03, c10, c11, c12, c13]) rfl (closeR (k := 5) HA.out HR.out HFl.out HK.out (by rw [← HE.out]; simp [okOf, HL.out]) rfl (fun _ => ⟨rfl, rfl, by rw [HE.out]; rfl, HE2.out⟩) (by repeat' (first | (with_reducible exact HB2.out) | (with_reducible refine Below.setCell ?_ ?_ _) | go_size)))
    · go_wp2_with fail
      exact bodyPost_ret (v := .tuple #[.agg #[.string ⟨#[]⟩, .string ⟨#[]⟩, .int .i64 0, .string ⟨#[]⟩], .bool false]) (by simp [results, Tryd.results21, go_sem]) rfl (closeR (k := 5) HA.out HR.out HFl.out HK.out (by simp [okOf, (let_blank R HF2.out).2]) rfl (fun h => absurd h Bool.false_ne_true) (by repeat' (first | (with_reducible exact Below.refl _ _) | (with_reducible refine Below.setCell ?_ ?_ _) | (with_reducible refine Below.alloc ?_ ?_ _) | (with_reducible refine below_drewN ?_ _) | go_size)))

theorem read_any (s : ByteArray) (w : World) (hs : s.size ≤ 1000000000) :
    Calls Tryd.prog 21 #[.string s] w (ReadPost s w) := by
  rcases kind_le (cutA s).data.toList with h | h | h | h | h | h
  · exact read0 s w hs h
  · exact read1 s w hs h
  · exact read2 s w hs h
  · exact read3 s w hs h
  · exact read4 s w hs h
  · exact read5 s w hs h
end Go.Proofs.YtpdjpiabbciajaaDoor.ReadCmd
