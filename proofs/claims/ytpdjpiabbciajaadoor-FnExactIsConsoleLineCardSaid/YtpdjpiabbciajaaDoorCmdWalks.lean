import Derived.Test.YtpdjpiabbciajaaDoorConsWalks
import Derived.Deep.RegionHeld
import Derived.Handy
namespace Go.Proofs.YtpdjpiabbciajaaDoor.CmdWalks
open Go.RowKit Go.Proofs.YtpdjpiabbciajaaDoor.NumPlain Go.Proofs.YtpdjpiabbciajaaDoor.NumWalks Go.Proofs.YtpdjpiabbciajaaDoor.ConsPlain Go.Proofs.YtpdjpiabbciajaaDoor.ConsWalks
set_option linter.unusedVariables false
set_option linter.unusedSimpArgs false

/-- what readCommand hands back -/
def CmdPost (line : ByteArray) (w : World) (e : Ending) (w' : World) : Prop :=
  ∃ (a b : ByteArray) (n : Int) (c : ByteArray), e = .returned (.tuple #[.agg #[.string a, .string b, .int .i64 n, .string c], .bool (cmdOk line)]) ∧
    (cmdOk line = true → a = cutA line ∧ b = letterOf (kind (cutA line).data.toList) (cutB line) ∧ n = numberOf (kind (cutA line).data.toList) (cutB line) ∧ c = restOf (kind (cutA line).data.toList) (cutB line)) ∧ Below w.heap.size w w'
theorem close {line A R : ByteArray} {f ok : Bool} {k : Nat} {w w' : World} {b c : ByteArray} {n : Int} {e : Ending} (hA : cutA line = A) (hR : cutB line = R) (hF : cutF line = f) (hk : kind A.data.toList = k) (hok : okOf k R f = ok)
    (he : e = .returned (.tuple #[.agg #[.string A, .string b, .int .i64 n, .string c], .bool ok])) (hf : ok = true → b = letterOf k R ∧ n = numberOf k R ∧ c = restOf k R) (hb : Below w.heap.size w w') : CmdPost line w e w' := by
  have hc : cmdOk line = ok := by rw [cmdOk, hA, hR, hF, hk, hok]
  refine ⟨A, b, n, c, by rw [hc]; exact he, fun h => ?_, hb⟩
  rw [hA, hR, hk]
  exact ⟨rfl, hf (hc.symm.trans h)⟩

set_option maxHeartbeats 4000000 in
theorem cmd1_sOrder (s : ByteArray) (w : World) (hs : s.size ≤ 1000000000) (hv : Vars w) (hk : (cutA s).data.toList = sOrder) :
    Calls Tryd.prog 22 #[.string s] w (CmdPost s w) := by
  obtain ⟨m, hm⟩ := hv.len
  have hsz := cutB_le s
  have hmlt := World.block_lt_of_cell? w _ hm
  go_enter Tryd.func22, Tryd.ntmps22
  go_wp2_with fail
  refine (cut_any s m _ hs (by rw [World.cell?_alloc_some w _ _ (by rw [hm]; rfl)]; exact hm)).mono ?_; rintro e w1 ⟨rfl, n1, rfl⟩
  generalize hA : cutA s = A at hsz hk ⊢
  generalize hB : cutB s = R at hsz ⊢
  generalize hF : cutF s = f
  have HA := Lib.hid hA
  have HR := Lib.hid hB
  have HFl := Lib.hid hF
  have HV := Lib.hid hv
  have HM := Lib.hid hm
  clear hA hB hF hv hm
  obtain rfl := word_of A _ hk
  clear hk hsz
  cases f
  · go_wp2_with fail
    exact bodyPost_ret (v := .tuple #[.agg #[.string ⟨sOrder.toArray⟩, .string ⟨#[]⟩, .int .i64 0, .string R], .bool false]) (by simp [results, Tryd.results22, go_sem]) rfl (close (A := ⟨sOrder.toArray⟩) (k := 1) HA.out HR.out HFl.out (by decide) rfl rfl (fun h => absurd h Bool.false_ne_true) (by repeat' (first | (with_reducible exact Below.refl _ _) | (with_reducible refine Below.setCell ?_ ?_ _) | (with_reducible refine Below.alloc ?_ ?_ _) | (with_reducible refine below_drewN ?_ _) | go_size)))
  · go_wp2_with fail
    exact bodyPost_ret (v := .tuple #[.agg #[.string ⟨sOrder.toArray⟩, .string ⟨#[]⟩, .int .i64 0, .string R], .bool true]) (by simp [results, Tryd.results22, go_sem]) rfl (close (A := ⟨sOrder.toArray⟩) (k := 1) HA.out HR.out HFl.out (by decide) rfl rfl (fun _ => ⟨rfl, rfl, rfl⟩) (by repeat' (first | (with_reducible exact Below.refl _ _) | (with_reducible refine Below.setCell ?_ ?_ _) | (with_reducible refine Below.alloc ?_ ?_ _) | (with_reducible refine below_drewN ?_ _) | go_size)))

set_option maxHeartbeats 4000000 in
theorem cmd1_sText (s : ByteArray) (w : World) (hs : s.size ≤ 1000000000) (hv : Vars w) (hk : (cutA s).data.toList = sText) :
    Calls Tryd.prog 22 #[.string s] w (CmdPost s w) := by
  obtain ⟨m, hm⟩ := hv.len
  have hsz := cutB_le s
  have hmlt := World.block_lt_of_cell? w _ hm
  go_enter Tryd.func22, Tryd.ntmps22
  go_wp2_with fail
  refine (cut_any s m _ hs (by rw [World.cell?_alloc_some w _ _ (by rw [hm]; rfl)]; exact hm)).mono ?_; rintro e w1 ⟨rfl, n1, rfl⟩
  generalize hA : cutA s = A at hsz hk ⊢
  generalize hB : cutB s = R at hsz ⊢
  generalize hF : cutF s = f
  have HA := Lib.hid hA
  have HR := Lib.hid hB
  have HFl := Lib.hid hF
  have HV := Lib.hid hv
  have HM := Lib.hid hm
  clear hA hB hF hv hm
  obtain rfl := word_of A _ hk
  clear hk hsz
  cases f
  · go_wp2_with fail
    exact bodyPost_ret (v := .tuple #[.agg #[.string ⟨sText.toArray⟩, .string ⟨#[]⟩, .int .i64 0, .string R], .bool false]) (by simp [results, Tryd.results22, go_sem]) rfl (close (A := ⟨sText.toArray⟩) (k := 1) HA.out HR.out HFl.out (by decide) rfl rfl (fun h => absurd h Bool.false_ne_true) (by repeat' (first | (with_reducible exact Below.refl _ _) | (with_reducible refine Below.setCell ?_ ?_ _) | (with_reducible refine Below.alloc ?_ ?_ _) | (with_reducible refine below_drewN ?_ _) | go_size)))
  · go_wp2_with fail
    exact bodyPost_ret (v := .tuple #[.agg #[.string ⟨sText.toArray⟩, .string ⟨#[]⟩, .int .i64 0, .string R], .bool true]) (by simp [results, Tryd.results22, go_sem]) rfl (close (A := ⟨sText.toArray⟩) (k := 1) HA.out HR.out HFl.out (by decide) rfl rfl (fun _ => ⟨rfl, rfl, rfl⟩) (by repeat' (first | (with_reducible exact Below.refl _ _) | (with_reducible refine Below.setCell ?_ ?_ _) | (with_reducible refine Below.alloc ?_ ?_ _) | (with_reducible refine below_drewN ?_ _) | go_size)))

set_option maxHeartbeats 4000000 in
theorem cmd1_sType (s : ByteArray) (w : World) (hs : s.size ≤ 1000000000) (hv : Vars w) (hk : (cutA s).data.toList = sType) :
    Calls Tryd.prog 22 #[.string s] w (CmdPost s w) := by
  obtain ⟨m, hm⟩ := hv.len
  have hsz := cutB_le s
  have hmlt := World.block_lt_of_cell? w _ hm
  go_enter Tryd.func22, Tryd.ntmps22
  go_wp2_with fail
  refine (cut_any s m _ hs (by rw [World.cell?_alloc_some w _ _ (by rw [hm]; rfl)]; exact hm)).mono ?_; rintro e w1 ⟨rfl, n1, rfl⟩
  generalize hA : cutA s = A at hsz hk ⊢
  generalize hB : cutB s = R at hsz ⊢
  generalize hF : cutF s = f
  have HA := Lib.hid hA
  have HR := Lib.hid hB
  have HFl := Lib.hid hF
  have HV := Lib.hid hv
  have HM := Lib.hid hm
  clear hA hB hF hv hm
  obtain rfl := word_of A _ hk
  clear hk hsz
  cases f
  · go_wp2_with fail
    exact bodyPost_ret (v := .tuple #[.agg #[.string ⟨sType.toArray⟩, .string ⟨#[]⟩, .int .i64 0, .string R], .bool false]) (by simp [results, Tryd.results22, go_sem]) rfl (close (A := ⟨sType.toArray⟩) (k := 1) HA.out HR.out HFl.out (by decide) rfl rfl (fun h => absurd h Bool.false_ne_true) (by repeat' (first | (with_reducible exact Below.refl _ _) | (with_reducible refine Below.setCell ?_ ?_ _) | (with_reducible refine Below.alloc ?_ ?_ _) | (with_reducible refine below_drewN ?_ _) | go_size)))
  · go_wp2_with fail
    exact bodyPost_ret (v := .tuple #[.agg #[.string ⟨sType.toArray⟩, .string ⟨#[]⟩, .int .i64 0, .string R], .bool true]) (by simp [results, Tryd.results22, go_sem]) rfl (close (A := ⟨sType.toArray⟩) (k := 1) HA.out HR.out HFl.out (by decide) rfl rfl (fun _ => ⟨rfl, rfl, rfl⟩) (by repeat' (first | (with_reducible exact Below.refl _ _) | (with_reducible refine Below.setCell ?_ ?_ _) | (with_reducible refine Below.alloc ?_ ?_ _) | (with_reducible refine below_drewN ?_ _) | go_size)))

set_option maxHeartbeats 4000000 in
theorem cmd1_sAbel (s : ByteArray) (w : World) (hs : s.size ≤ 1000000000) (hv : Vars w) (hk : (cutA s).data.toList = sAbel) :
    Calls Tryd.prog 22 #[.string s] w (CmdPost s w) := by
  obtain ⟨m, hm⟩ := hv.len
  have hsz := cutB_le s
  have hmlt := World.block_lt_of_cell? w _ hm
  go_enter Tryd.func22, Tryd.ntmps22
  go_wp2_with fail
  refine (cut_any s m _ hs (by rw [World.cell?_alloc_some w _ _ (by rw [hm]; rfl)]; exact hm)).mono ?_; rintro e w1 ⟨rfl, n1, rfl⟩
  generalize hA : cutA s = A at hsz hk ⊢
  generalize hB : cutB s = R at hsz ⊢
  generalize hF : cutF s = f
  have HA := Lib.hid hA
  have HR := Lib.hid hB
  have HFl := Lib.hid hF
  have HV := Lib.hid hv
  have HM := Lib.hid hm
  clear hA hB hF hv hm
  obtain rfl := word_of A _ hk
  clear hk hsz
  cases f
  · go_wp2_with fail
    exact bodyPost_ret (v := .tuple #[.agg #[.string ⟨sAbel.toArray⟩, .string ⟨#[]⟩, .int .i64 0, .string R], .bool false]) (by simp [results, Tryd.results22, go_sem]) rfl (close (A := ⟨sAbel.toArray⟩) (k := 1) HA.out HR.out HFl.out (by decide) rfl rfl (fun h => absurd h Bool.false_ne_true) (by repeat' (first | (with_reducible exact Below.refl _ _) | (with_reducible refine Below.setCell ?_ ?_ _) | (with_reducible refine Below.alloc ?_ ?_ _) | (with_reducible refine below_drewN ?_ _) | go_size)))
  · go_wp2_with fail
    exact bodyPost_ret (v := .tuple #[.agg #[.string ⟨sAbel.toArray⟩, .string ⟨#[]⟩, .int .i64 0, .string R], .bool true]) (by simp [results, Tryd.results22, go_sem]) rfl (close (A := ⟨sAbel.toArray⟩) (k := 1) HA.out HR.out HFl.out (by decide) rfl rfl (fun _ => ⟨rfl, rfl, rfl⟩) (by repeat' (first | (with_reducible exact Below.refl _ _) | (with_reducible refine Below.setCell ?_ ?_ _) | (with_reducible refine Below.alloc ?_ ?_ _) | (with_reducible refine below_drewN ?_ _) | go_size)))

set_option maxHeartbeats 4000000 in
theorem cmd1_sSub (s : ByteArray) (w : World) (hs : s.size ≤ 1000000000) (hv : Vars w) (hk : (cutA s).data.toList = sSub) :
    Calls Tryd.prog 22 #[.string s] w (CmdPost s w) := by
  obtain ⟨m, hm⟩ := hv.len
  have hsz := cutB_le s
  have hmlt := World.block_lt_of_cell? w _ hm
  go_enter Tryd.func22, Tryd.ntmps22
  go_wp2_with fail
  refine (cut_any s m _ hs (by rw [World.cell?_alloc_some w _ _ (by rw [hm]; rfl)]; exact hm)).mono ?_; rintro e w1 ⟨rfl, n1, rfl⟩
  generalize hA : cutA s = A at hsz hk ⊢
  generalize hB : cutB s = R at hsz ⊢
  generalize hF : cutF s = f
  have HA := Lib.hid hA
  have HR := Lib.hid hB
  have HFl := Lib.hid hF
  have HV := Lib.hid hv
  have HM := Lib.hid hm
  clear hA hB hF hv hm
  obtain rfl := word_of A _ hk
  clear hk hsz
  cases f
  · go_wp2_with fail
    exact bodyPost_ret (v := .tuple #[.agg #[.string ⟨sSub.toArray⟩, .string ⟨#[]⟩, .int .i64 0, .string R], .bool false]) (by simp [results, Tryd.results22, go_sem]) rfl (close (A := ⟨sSub.toArray⟩) (k := 1) HA.out HR.out HFl.out (by decide) rfl rfl (fun h => absurd h Bool.false_ne_true) (by repeat' (first | (with_reducible exact Below.refl _ _) | (with_reducible refine Below.setCell ?_ ?_ _) | (with_reducible refine Below.alloc ?_ ?_ _) | (with_reducible refine below_drewN ?_ _) | go_size)))
  · go_wp2_with fail
    exact bodyPost_ret (v := .tuple #[.agg #[.string ⟨sSub.toArray⟩, .string ⟨#[]⟩, .int .i64 0, .string R], .bool true]) (by simp [results, Tryd.results22, go_sem]) rfl (close (A := ⟨sSub.toArray⟩) (k := 1) HA.out HR.out HFl.out (by decide) rfl rfl (fun _ => ⟨rfl, rfl, rfl⟩) (by repeat' (first | (with_reducible exact Below.refl _ _) | (with_reducible refine Below.setCell ?_ ?_ _) | (with_reducible refine Below.alloc ?_ ?_ _) | (with_reducible refine below_drewN ?_ _) | go_size)))

set_option maxHeartbeats 4000000 in
theorem cmd1_sQuo (s : ByteArray) (w : World) (hs : s.size ≤ 1000000000) (hv : Vars w) (hk : (cutA s).data.toList = sQuo) :
    Calls Tryd.prog 22 #[.string s] w (CmdPost s w) := by
  obtain ⟨m, hm⟩ := hv.len
  have hsz := cutB_le s
  have hmlt := World.block_lt_of_cell? w _ hm
  go_enter Tryd.func22, Tryd.ntmps22
  go_wp2_with fail
  refine (cut_any s m _ hs (by rw [World.cell?_alloc_some w _ _ (by rw [hm]; rfl)]; exact hm)).mono ?_; rintro e w1 ⟨rfl, n1, rfl⟩
  generalize hA : cutA s = A at hsz hk ⊢
  generalize hB : cutB s = R at hsz ⊢
  generalize hF : cutF s = f
  have HA := Lib.hid hA
  have HR := Lib.hid hB
  have HFl := Lib.hid hF
  have HV := Lib.hid hv
  have HM := Lib.hid hm
  clear hA hB hF hv hm
  obtain rfl := word_of A _ hk
  clear hk hsz
  cases f
  · go_wp2_with fail
    exact bodyPost_ret (v := .tuple #[.agg #[.string ⟨sQuo.toArray⟩, .string ⟨#[]⟩, .int .i64 0, .string R], .bool false]) (by simp [results, Tryd.results22, go_sem]) rfl (close (A := ⟨sQuo.toArray⟩) (k := 1) HA.out HR.out HFl.out (by decide) rfl rfl (fun h => absurd h Bool.false_ne_true) (by repeat' (first | (with_reducible exact Below.refl _ _) | (with_reducible refine Below.setCell ?_ ?_ _) | (with_reducible refine Below.alloc ?_ ?_ _) | (with_reducible refine below_drewN ?_ _) | go_size)))
  · go_wp2_with fail
    exact bodyPost_ret (v := .tuple #[.agg #[.string ⟨sQuo.toArray⟩, .string ⟨#[]⟩, .int .i64 0, .string R], .bool true]) (by simp [results, Tryd.results22, go_sem]) rfl (close (A := ⟨sQuo.toArray⟩) (k := 1) HA.out HR.out HFl.out (by decide) rfl rfl (fun _ => ⟨rfl, rfl, rfl⟩) (by repeat' (first | (with_reducible exact Below.refl _ _) | (with_reducible refine Below.setCell ?_ ?_ _) | (with_reducible refine Below.alloc ?_ ?_ _) | (with_reducible refine below_drewN ?_ _) | go_size)))

set_option maxHeartbeats 4000000 in
theorem cmd1_sCover (s : ByteArray) (w : World) (hs : s.size ≤ 1000000000) (hv : Vars w) (hk : (cutA s).data.toList = sCover) :
    Calls Tryd.prog 22 #[.string s] w (CmdPost s w) := by
  obtain ⟨m, hm⟩ := hv.len
  have hsz := cutB_le s
  have hmlt := World.block_lt_of_cell? w _ hm
  go_enter Tryd.func22, Tryd.ntmps22
  go_wp2_with fail
  refine (cut_any s m _ hs (by rw [World.cell?_alloc_some w _ _ (by rw [hm]; rfl)]; exact hm)).mono ?_; rintro e w1 ⟨rfl, n1, rfl⟩
  generalize hA : cutA s = A at hsz hk ⊢
  generalize hB : cutB s = R at hsz ⊢
  generalize hF : cutF s = f
  have HA := Lib.hid hA
  have HR := Lib.hid hB
  have HFl := Lib.hid hF
  have HV := Lib.hid hv
  have HM := Lib.hid hm
  clear hA hB hF hv hm
  obtain rfl := word_of A _ hk
  clear hk hsz
  cases f
  · go_wp2_with fail
    exact bodyPost_ret (v := .tuple #[.agg #[.string ⟨sCover.toArray⟩, .string ⟨#[]⟩, .int .i64 0, .string R], .bool false]) (by simp [results, Tryd.results22, go_sem]) rfl (close (A := ⟨sCover.toArray⟩) (k := 1) HA.out HR.out HFl.out (by decide) rfl rfl (fun h => absurd h Bool.false_ne_true) (by repeat' (first | (with_reducible exact Below.refl _ _) | (with_reducible refine Below.setCell ?_ ?_ _) | (with_reducible refine Below.alloc ?_ ?_ _) | (with_reducible refine below_drewN ?_ _) | go_size)))
  · go_wp2_with fail
    exact bodyPost_ret (v := .tuple #[.agg #[.string ⟨sCover.toArray⟩, .string ⟨#[]⟩, .int .i64 0, .string R], .bool true]) (by simp [results, Tryd.results22, go_sem]) rfl (close (A := ⟨sCover.toArray⟩) (k := 1) HA.out HR.out HFl.out (by decide) rfl rfl (fun _ => ⟨rfl, rfl, rfl⟩) (by repeat' (first | (with_reducible exact Below.refl _ _) | (with_reducible refine Below.setCell ?_ ?_ _) | (with_reducible refine Below.alloc ?_ ?_ _) | (with_reducible refine below_drewN ?_ _) | go_size)))

set_option maxHeartbeats 4000000 in
theorem cmd1_sPar (s : ByteArray) (w : World) (hs : s.size ≤ 1000000000) (hv : Vars w) (hk : (cutA s).data.toList = sPar) :
    Calls Tryd.prog 22 #[.string s] w (CmdPost s w) := by
  obtain ⟨m, hm⟩ := hv.len
  have hsz := cutB_le s
  have hmlt := World.block_lt_of_cell? w _ hm
  go_enter Tryd.func22, Tryd.ntmps22
  go_wp2_with fail
  refine (cut_any s m _ hs (by rw [World.cell?_alloc_some w _ _ (by rw [hm]; rfl)]; exact hm)).mono ?_; rintro e w1 ⟨rfl, n1, rfl⟩
  generalize hA : cutA s = A at hsz hk ⊢
  generalize hB : cutB s = R at hsz ⊢
  generalize hF : cutF s = f
  have HA := Lib.hid hA
  have HR := Lib.hid hB
  have HFl := Lib.hid hF
  have HV := Lib.hid hv
  have HM := Lib.hid hm
  clear hA hB hF hv hm
  obtain rfl := word_of A _ hk
  clear hk hsz
  cases f
  · go_wp2_with fail
    exact bodyPost_ret (v := .tuple #[.agg #[.string ⟨sPar.toArray⟩, .string ⟨#[]⟩, .int .i64 0, .string R], .bool false]) (by simp [results, Tryd.results22, go_sem]) rfl (close (A := ⟨sPar.toArray⟩) (k := 1) HA.out HR.out HFl.out (by decide) rfl rfl (fun h => absurd h Bool.false_ne_true) (by repeat' (first | (with_reducible exact Below.refl _ _) | (with_reducible refine Below.setCell ?_ ?_ _) | (with_reducible refine Below.alloc ?_ ?_ _) | (with_reducible refine below_drewN ?_ _) | go_size)))
  · go_wp2_with fail
    exact bodyPost_ret (v := .tuple #[.agg #[.string ⟨sPar.toArray⟩, .string ⟨#[]⟩, .int .i64 0, .string R], .bool true]) (by simp [results, Tryd.results22, go_sem]) rfl (close (A := ⟨sPar.toArray⟩) (k := 1) HA.out HR.out HFl.out (by decide) rfl rfl (fun _ => ⟨rfl, rfl, rfl⟩) (by repeat' (first | (with_reducible exact Below.refl _ _) | (with_reducible refine Below.setCell ?_ ?_ _) | (with_reducible refine Below.alloc ?_ ?_ _) | (with_reducible refine below_drewN ?_ _) | go_size)))

set_option maxHeartbeats 4000000 in
theorem cmd1_sRing (s : ByteArray) (w : World) (hs : s.size ≤ 1000000000) (hv : Vars w) (hk : (cutA s).data.toList = sRing) :
    Calls Tryd.prog 22 #[.string s] w (CmdPost s w) := by
  obtain ⟨m, hm⟩ := hv.len
  have hsz := cutB_le s
  have hmlt := World.block_lt_of_cell? w _ hm
  go_enter Tryd.func22, Tryd.ntmps22
  go_wp2_with fail
  refine (cut_any s m _ hs (by rw [World.cell?_alloc_some w _ _ (by rw [hm]; rfl)]; exact hm)).mono ?_; rintro e w1 ⟨rfl, n1, rfl⟩
  generalize hA : cutA s = A at hsz hk ⊢
  generalize hB : cutB s = R at hsz ⊢
  generalize hF : cutF s = f
  have HA := Lib.hid hA
  have HR := Lib.hid hB
  have HFl := Lib.hid hF
  have HV := Lib.hid hv
  have HM := Lib.hid hm
  clear hA hB hF hv hm
  obtain rfl := word_of A _ hk
  clear hk hsz
  cases f
  · go_wp2_with fail
    exact bodyPost_ret (v := .tuple #[.agg #[.string ⟨sRing.toArray⟩, .string ⟨#[]⟩, .int .i64 0, .string R], .bool false]) (by simp [results, Tryd.results22, go_sem]) rfl (close (A := ⟨sRing.toArray⟩) (k := 1) HA.out HR.out HFl.out (by decide) rfl rfl (fun h => absurd h Bool.false_ne_true) (by repeat' (first | (with_reducible exact Below.refl _ _) | (with_reducible refine Below.setCell ?_ ?_ _) | (with_reducible refine Below.alloc ?_ ?_ _) | (with_reducible refine below_drewN ?_ _) | go_size)))
  · go_wp2_with fail
    exact bodyPost_ret (v := .tuple #[.agg #[.string ⟨sRing.toArray⟩, .string ⟨#[]⟩, .int .i64 0, .string R], .bool true]) (by simp [results, Tryd.results22, go_sem]) rfl (close (A := ⟨sRing.toArray⟩) (k := 1) HA.out HR.out HFl.out (by decide) rfl rfl (fun _ => ⟨rfl, rfl, rfl⟩) (by repeat' (first | (with_reducible exact Below.refl _ _) | (with_reducible refine Below.setCell ?_ ?_ _) | (with_reducible refine Below.alloc ?_ ?_ _) | (with_reducible refine below_drewN ?_ _) | go_size)))

set_option maxHeartbeats 4000000 in
theorem cmd3 (s : ByteArray) (w : World) (hs : s.size ≤ 1000000000) (hv : Vars w) (hk : (cutA s).data.toList = sDrop) :
    Calls Tryd.prog 22 #[.string s] w (CmdPost s w) := by
  obtain ⟨m, hm⟩ := hv.len
  have hsz := cutB_le s
  have hmlt := World.block_lt_of_cell? w _ hm
  go_enter Tryd.func22, Tryd.ntmps22
  go_wp2_with fail
  refine (cut_any s m _ hs (by rw [World.cell?_alloc_some w _ _ (by rw [hm]; rfl)]; exact hm)).mono ?_; rintro e w1 ⟨rfl, n1, rfl⟩
  generalize hA : cutA s = A at hsz hk ⊢
  generalize hB : cutB s = R at hsz ⊢
  generalize hF : cutF s = f
  have HA := Lib.hid hA
  have HR := Lib.hid hB
  have HFl := Lib.hid hF
  have HV := Lib.hid hv
  have HM := Lib.hid hm
  clear hA hB hF hv hm
  obtain rfl := word_of A _ hk
  clear hk
  go_wp2_with fail
  refine (isLetter_any R _ (by unfold maxLen; omega)).mono ?_; rintro e w' ⟨rfl, rfl⟩
  clear hsz
  cases hl : isLet R.data.toList
  · have HL := Lib.hid hl
    clear hl
    cases f
    · go_wp2_with fail
      exact bodyPost_ret (v := .tuple #[.agg #[.string ⟨sDrop.toArray⟩, .string R, .int .i64 0, .string R], .bool false]) (by simp [results, Tryd.results22, go_sem]) rfl (close (A := ⟨sDrop.toArray⟩) (k := 3) HA.out HR.out HFl.out (by decide) rfl rfl (fun h => absurd h Bool.false_ne_true) (by repeat' (first | (with_reducible exact Below.refl _ _) | (with_reducible refine Below.setCell ?_ ?_ _) | (with_reducible refine Below.alloc ?_ ?_ _) | (with_reducible refine below_drewN ?_ _) | go_size)))
    · go_wp2_with fail
      exact bodyPost_ret (v := .tuple #[.agg #[.string ⟨sDrop.toArray⟩, .string R, .int .i64 0, .string R], .bool false]) (by simp [results, Tryd.results22, go_sem]) rfl (close (A := ⟨sDrop.toArray⟩) (k := 3) HA.out HR.out HFl.out (by decide) (by simp [okOf, HL.out]) rfl (fun h => absurd h Bool.false_ne_true) (by repeat' (first | (with_reducible exact Below.refl _ _) | (with_reducible refine Below.setCell ?_ ?_ _) | (with_reducible refine Below.alloc ?_ ?_ _) | (with_reducible refine below_drewN ?_ _) | go_size)))
  · have HL := Lib.hid hl
    clear hl
    cases f
    · go_wp2_with fail
      exact bodyPost_ret (v := .tuple #[.agg #[.string ⟨sDrop.toArray⟩, .string R, .int .i64 0, .string R], .bool false]) (by simp [results, Tryd.results22, go_sem]) rfl (close (A := ⟨sDrop.toArray⟩) (k := 3) HA.out HR.out HFl.out (by decide) rfl rfl (fun h => absurd h Bool.false_ne_true) (by repeat' (first | (with_reducible exact Below.refl _ _) | (with_reducible refine Below.setCell ?_ ?_ _) | (with_reducible refine Below.alloc ?_ ?_ _) | (with_reducible refine below_drewN ?_ _) | go_size)))
    · go_wp2_with fail
      exact bodyPost_ret (v := .tuple #[.agg #[.string ⟨sDrop.toArray⟩, .string R, .int .i64 0, .string R], .bool true]) (by simp [results, Tryd.results22, go_sem]) rfl (close (A := ⟨sDrop.toArray⟩) (k := 3) HA.out HR.out HFl.out (by decide) (by simp [okOf, HL.out]) rfl (fun _ => ⟨rfl, rfl, rfl⟩) (by repeat' (first | (with_reducible exact Below.refl _ _) | (with_reducible refine Below.setCell ?_ ?_ _) | (with_reducible refine Below.alloc ?_ ?_ _) | (with_reducible refine below_drewN ?_ _) | go_size)))

set_option maxHeartbeats 4000000 in
theorem cmd2 (s : ByteArray) (w : World) (hs : s.size ≤ 1000000000) (hv : Vars w) (hk : (cutA s).data.toList = sLet) :
    Calls Tryd.prog 22 #[.string s] w (CmdPost s w) := by
  obtain ⟨m, hm⟩ := hv.len
  have hsz := cutB_le s
  have hmlt := World.block_lt_of_cell? w _ hm
  go_enter Tryd.func22, Tryd.ntmps22
  go_wp2_with fail
  refine (cut_any s m _ hs (by rw [World.cell?_alloc_some w _ _ (by rw [hm]; rfl)]; exact hm)).mono ?_; rintro e w1 ⟨rfl, n1, rfl⟩
  generalize hA : cutA s = A at hsz hk ⊢
  generalize hB : cutB s = R at hsz ⊢
  generalize hF : cutF s = f
  have HA := Lib.hid hA
  have HR := Lib.hid hB
  have HFl := Lib.hid hF
  have HV := Lib.hid hv
  have HM := Lib.hid hm
  clear hA hB hF hv hm
  obtain rfl := word_of A _ hk
  clear hk
  have hsz2 := cutB_le R
  go_wp2_with fail
  refine (cut_any R m _ (by omega) ?_).mono ?_
  · have hm := HM.out
    simp [go_sem, hmlt, hm]
  rintro e w2 ⟨rfl, n2, rfl⟩
  generalize hA2 : cutA R = A2 at hsz2 ⊢
  generalize hB2 : cutB R = R2 at hsz2 ⊢
  generalize hF2 : cutF R = f2
  have HA2 := Lib.hid hA2
  have HR2 := Lib.hid hB2
  have HF2 := Lib.hid hF2
  have HZ := Lib.hid (show A2.size ≤ 1000000000 by omega)
  clear hA2 hB2 hF2 hsz hsz2
  cases f2
  · cases f
    · go_wp2_with fail
      exact bodyPost_ret (v := .tuple #[.agg #[.string ⟨sLet.toArray⟩, .string A2, .int .i64 0, .string R2], .bool false]) (by simp [results, Tryd.results22, go_sem]) rfl (close (A := ⟨sLet.toArray⟩) (k := 2) HA.out HR.out HFl.out (by decide) rfl rfl (fun h => absurd h Bool.false_ne_true) (by repeat' (first | (with_reducible exact Below.refl _ _) | (with_reducible refine Below.setCell ?_ ?_ _) | (with_reducible refine Below.alloc ?_ ?_ _) | (with_reducible refine below_drewN ?_ _) | go_size)))
    · go_wp2_with fail
      exact bodyPost_ret (v := .tuple #[.agg #[.string ⟨sLet.toArray⟩, .string A2, .int .i64 0, .string R2], .bool false]) (by simp [results, Tryd.results22, go_sem]) rfl (close (A := ⟨sLet.toArray⟩) (k := 2) HA.out HR.out HFl.out (by decide) (by simp [okOf, HF2.out]) rfl (fun h => absurd h Bool.false_ne_true) (by repeat' (first | (with_reducible exact Below.refl _ _) | (with_reducible refine Below.setCell ?_ ?_ _) | (with_reducible refine Below.alloc ?_ ?_ _) | (with_reducible refine below_drewN ?_ _) | go_size)))
  · go_wp2_with fail
    refine (isLetter_any A2 _ (by have := HZ.out; unfold maxLen; omega)).mono ?_; rintro e w' ⟨rfl, rfl⟩
    cases hl : isLet A2.data.toList
    · have HL := Lib.hid hl
      clear hl
      cases f
      · go_wp2_with fail
        exact bodyPost_ret (v := .tuple #[.agg #[.string ⟨sLet.toArray⟩, .string A2, .int .i64 0, .string R2], .bool false]) (by simp [results, Tryd.results22, go_sem]) rfl (close (A := ⟨sLet.toArray⟩) (k := 2) HA.out HR.out HFl.out (by decide) rfl rfl (fun h => absurd h Bool.false_ne_true) (by repeat' (first | (with_reducible exact Below.refl _ _) | (with_reducible refine Below.setCell ?_ ?_ _) | (with_reducible refine Below.alloc ?_ ?_ _) | (with_reducible refine below_drewN ?_ _) | go_size)))
      · go_wp2_with fail
        exact bodyPost_ret (v := .tuple #[.agg #[.string ⟨sLet.toArray⟩, .string A2, .int .i64 0, .string R2], .bool false]) (by simp [results, Tryd.results22, go_sem]) rfl (close (A := ⟨sLet.toArray⟩) (k := 2) HA.out HR.out HFl.out (by decide) (by simp [okOf, HF2.out, HA2.out, HL.out]) rfl (fun h => absurd h Bool.false_ne_true) (by repeat' (first | (with_reducible exact Below.refl _ _) | (with_reducible refine Below.setCell ?_ ?_ _) | (with_reducible refine Below.alloc ?_ ?_ _) | (with_reducible refine below_drewN ?_ _) | go_size)))
    · have HL := Lib.hid hl
      clear hl
      cases f
      · go_wp2_with fail
        exact bodyPost_ret (v := .tuple #[.agg #[.string ⟨sLet.toArray⟩, .string A2, .int .i64 0, .string R2], .bool false]) (by simp [results, Tryd.results22, go_sem]) rfl (close (A := ⟨sLet.toArray⟩) (k := 2) HA.out HR.out HFl.out (by decide) rfl rfl (fun h => absurd h Bool.false_ne_true) (by repeat' (first | (with_reducible exact Below.refl _ _) | (with_reducible refine Below.setCell ?_ ?_ _) | (with_reducible refine Below.alloc ?_ ?_ _) | (with_reducible refine below_drewN ?_ _) | go_size)))
      · go_wp2_with fail
        exact bodyPost_ret (v := .tuple #[.agg #[.string ⟨sLet.toArray⟩, .string A2, .int .i64 0, .string R2], .bool true]) (by simp [results, Tryd.results22, go_sem]) rfl (close (A := ⟨sLet.toArray⟩) (k := 2) HA.out HR.out HFl.out (by decide) (by simp [okOf, HF2.out, HA2.out, HL.out]) rfl (fun _ => ⟨HA2.out.symm, rfl, HR2.out.symm⟩) (by repeat' (first | (with_reducible exact Below.refl _ _) | (with_reducible refine Below.setCell ?_ ?_ _) | (with_reducible refine Below.alloc ?_ ?_ _) | (with_reducible refine below_drewN ?_ _) | go_size)))

set_option maxHeartbeats 4000000 in
theorem cmd0 (s : ByteArray) (w : World) (hs : s.size ≤ 1000000000) (hv : Vars w) (hk : kind (cutA s).data.toList = 0 ∧ ((cutA s).data.toList == sOrder) = false ∧ ((cutA s).data.toList == sText) = false ∧ ((cutA s).data.toList == sType) = false ∧ ((cutA s).data.toList == sAbel) = false ∧ ((cutA s).data.toList == sSub) = false ∧ ((cutA s).data.toList == sQuo) = false ∧ ((cutA s).data.toList == sCover) = false ∧ ((cutA s).data.toList == sPar) = false ∧ ((cutA s).data.toList == sRing) = false ∧ ((cutA s).data.toList == sLet) = false ∧ ((cutA s).data.toList == sDrop) = false ∧ ((cutA s).data.toList == sCoh) = false ∧ ((cutA s).data.toList == sDesc) = false ∧ ((cutA s).data.toList == sList) = false) :
    Calls Tryd.prog 22 #[.string s] w (CmdPost s w) := by
  obtain ⟨m, hm⟩ := hv.len
  have hsz := cutB_le s
  have hmlt := World.block_lt_of_cell? w _ hm
  go_enter Tryd.func22, Tryd.ntmps22
  go_wp2_with fail
  refine (cut_any s m _ hs (by rw [World.cell?_alloc_some w _ _ (by rw [hm]; rfl)]; exact hm)).mono ?_; rintro e w1 ⟨rfl, n1, rfl⟩
  generalize hA : cutA s = A at hsz hk ⊢
  generalize hB : cutB s = R at hsz ⊢
  generalize hF : cutF s = f
  have HA := Lib.hid hA
  have HR := Lib.hid hB
  have HFl := Lib.hid hF
  have HV := Lib.hid hv
  have HM := Lib.hid hm
  clear hA hB hF hv hm
  obtain ⟨hk0, h1, h2, h3, h4, h5, h6, h7, h8, h9, h10, h11, h12, h13, h14⟩ := hk
  rw [← Lib.toList_data] at h1 h2 h3 h4 h5 h6 h7 h8 h9 h10 h11 h12 h13 h14
  have HK := Lib.hid hk0
  clear hk0 hsz
  cases f
  · go_wp2_with fail
    exact bodyPost_ret (v := .tuple #[.agg #[.string A, .string ⟨#[]⟩, .int .i64 0, .string R], .bool false]) (by simp [results, Tryd.results22, go_sem]) rfl (close (A := A) (k := 0) HA.out HR.out HFl.out HK.out rfl rfl (fun h => absurd h Bool.false_ne_true) (by repeat' (first | (with_reducible exact Below.refl _ _) | (with_reducible refine Below.setCell ?_ ?_ _) | (with_reducible refine Below.alloc ?_ ?_ _) | (with_reducible refine below_drewN ?_ _) | go_size)))
  · go_wp2_with fail
    exact bodyPost_ret (v := .tuple #[.agg #[.string A, .string ⟨#[]⟩, .int .i64 0, .string R], .bool false]) (by simp [results, Tryd.results22, go_sem]) rfl (close (A := A) (k := 0) HA.out HR.out HFl.out HK.out rfl rfl (fun h => absurd h Bool.false_ne_true) (by repeat' (first | (with_reducible exact Below.refl _ _) | (with_reducible refine Below.setCell ?_ ?_ _) | (with_reducible refine Below.alloc ?_ ?_ _) | (with_reducible refine below_drewN ?_ _) | go_size)))

set_option maxHeartbeats 4000000 in
theorem cmd5 (s : ByteArray) (w : World) (hs : s.size ≤ 1000000000) (hv : Vars w) (hk : (cutA s).data.toList = sList) :
    Calls Tryd.prog 22 #[.string s] w (CmdPost s w) := by
  obtain ⟨m, hm⟩ := hv.len
  have hsz := cutB_le s
  have hmlt := World.block_lt_of_cell? w _ hm
  go_enter Tryd.func22, Tryd.ntmps22
  go_wp2_with fail
  refine (cut_any s m _ hs (by rw [World.cell?_alloc_some w _ _ (by rw [hm]; rfl)]; exact hm)).mono ?_; rintro e w1 ⟨rfl, n1, rfl⟩
  generalize hA : cutA s = A at hsz hk ⊢
  generalize hB : cutB s = R at hsz ⊢
  generalize hF : cutF s = f
  have HA := Lib.hid hA
  have HR := Lib.hid hB
  have HFl := Lib.hid hF
  have HV := Lib.hid hv
  have HM := Lib.hid hm
  clear hA hB hF hv hm
  obtain rfl := word_of A _ hk
  clear hk
  go_wp2_with fail
  refine (readNumber_any R _ (by omega) (HV.out.below (by repeat' (first | (with_reducible exact Below.refl _ _) | (with_reducible refine Below.setCell ?_ ?_ _) | (with_reducible refine Below.alloc ?_ ?_ _) | (with_reducible refine below_drewN ?_ _) | go_size)) |> fun h => h)).mono ?_
  rintro e w2 ⟨n, rfl, hn, hb2⟩
  have HN := Lib.hid hn
  clear hn
  have z0 : w.heap.size < w2.heap.size := by have := hb2.size; simp at this; omega
  have z1 : w.heap.size + 1 < w2.heap.size := by have := hb2.size; simp at this; omega
  have c00 := (hb2.cell (p := ⟨w.heap.size, 0, none⟩) (by simp; try omega)).trans (show _ = some (Value.string ⟨#[]⟩) by simp [go_sem])
  have c01 := (hb2.cell (p := ⟨w.heap.size, 1, none⟩) (by simp; try omega)).trans (show _ = some (Value.string ⟨#[]⟩) by simp [go_sem])
  have c02 := (hb2.cell (p := ⟨w.heap.size, 2, none⟩) (by simp; try omega)).trans (show _ = some (Value.int .i64 0) by simp [go_sem])
  have c03 := (hb2.cell (p := ⟨w.heap.size, 3, none⟩) (by simp; try omega)).trans (show _ = some (Value.string ⟨#[]⟩) by simp [go_sem])
  have c10 := (hb2.cell (p := ⟨w.heap.size + 1, 0, none⟩) (by simp; try omega)).trans (show _ = some (Value.string ⟨sList.toArray⟩) by simp [go_sem])
  have c11 := (hb2.cell (p := ⟨w.heap.size + 1, 1, none⟩) (by simp; try omega)).trans (show _ = some (Value.string ⟨#[]⟩) by simp [go_sem])
  have c12 := (hb2.cell (p := ⟨w.heap.size + 1, 2, none⟩) (by simp; try omega)).trans (show _ = some (Value.int .i64 0) by simp [go_sem])
  have c13 := (hb2.cell (p := ⟨w.heap.size + 1, 3, none⟩) (by simp; try omega)).trans (show _ = some (Value.string R) by simp [go_sem])
  have f00 := (hb2.frozen (p := ⟨w.heap.size, 0, none⟩) (by simp; try omega)).trans (show _ = false by simp [go_sem])
  have f01 := (hb2.frozen (p := ⟨w.heap.size, 1, none⟩) (by simp; try omega)).trans (show _ = false by simp [go_sem])
  have f02 := (hb2.frozen (p := ⟨w.heap.size, 2, none⟩) (by simp; try omega)).trans (show _ = false by simp [go_sem])
  have f03 := (hb2.frozen (p := ⟨w.heap.size, 3, none⟩) (by simp; try omega)).trans (show _ = false by simp [go_sem])
  have f10 := (hb2.frozen (p := ⟨w.heap.size + 1, 0, none⟩) (by simp; try omega)).trans (show _ = false by simp [go_sem])
  have f11 := (hb2.frozen (p := ⟨w.heap.size + 1, 1, none⟩) (by simp; try omega)).trans (show _ = false by simp [go_sem])
  have f12 := (hb2.frozen (p := ⟨w.heap.size + 1, 2, none⟩) (by simp; try omega)).trans (show _ = false by simp [go_sem])
  have f13 := (hb2.frozen (p := ⟨w.heap.size + 1, 3, none⟩) (by simp; try omega)).trans (show _ = false by simp [go_sem])
  have HB2 := Lib.hid (show Below w.heap.size w w2 from Below.trans (by repeat' (first | (with_reducible exact Below.refl _ _) | (with_reducible refine Below.setCell ?_ ?_ _) | (with_reducible refine Below.alloc ?_ ?_ _) | (with_reducible refine below_drewN ?_ _) | go_size)) (hb2.mono (by simp; omega)))
  clear hb2
  clear hsz
  cases hl : isNum R.data.toList
  · have HL := Lib.hid hl
    clear hl
    cases f
    · go_wp2_with fail
      exact bodyPost_ret (v := .tuple #[.agg #[.string ⟨sList.toArray⟩, .string ⟨#[]⟩, .int .i64 n, .string R], .bool false]) (by simp [results, Tryd.results22, go_sem, c00, c01, c02, c03, c10, c11, c12, c13]) rfl (close (A := ⟨sList.toArray⟩) (k := 5) HA.out HR.out HFl.out (by decide) rfl rfl (fun h => absurd h Bool.false_ne_true) (by repeat' (first | (with_reducible exact HB2.out) | (with_reducible refine Below.setCell ?_ ?_ _) | go_size)))
    · go_wp2_with fail
      exact bodyPost_ret (v := .tuple #[.agg #[.string ⟨sList.toArray⟩, .string ⟨#[]⟩, .int .i64 n, .string R], .bool false]) (by simp [results, Tryd.results22, go_sem, c00, c01, c02, c03, c10, c11, c12, c13]) rfl (close (A := ⟨sList.toArray⟩) (k := 5) HA.out HR.out HFl.out (by decide) (by simp [okOf, HL.out]) rfl (fun h => absurd h Bool.false_ne_true) (by repeat' (first | (with_reducible exact HB2.out) | (with_reducible refine Below.setCell ?_ ?_ _) | go_size)))
  · have HL := Lib.hid hl
    clear hl
    cases f
    · go_wp2_with fail
      exact bodyPost_ret (v := .tuple #[.agg #[.string ⟨sList.toArray⟩, .string ⟨#[]⟩, .int .i64 n, .string R], .bool false]) (by simp [results, Tryd.results22, go_sem, c00, c01, c02, c03, c10, c11, c12, c13]) rfl (close (A := ⟨sList.toArray⟩) (k := 5) HA.out HR.out HFl.out (by decide) rfl rfl (fun h => absurd h Bool.false_ne_true) (by repeat' (first | (with_reducible exact HB2.out) | (with_reducible refine Below.setCell ?_ ?_ _) | go_size)))
    · go_wp2_with fail
      exact bodyPost_ret (v := .tuple #[.agg #[.string ⟨sList.toArray⟩, .string ⟨#[]⟩, .int .i64 n, .string R], .bool true]) (by simp [results, Tryd.results22, go_sem, c00, c01, c02, c03, c10, c11, c12, c13]) rfl (close (A := ⟨sList.toArray⟩) (k := 5) HA.out HR.out HFl.out (by decide) (by simp [okOf, HL.out]) rfl (fun _ => ⟨rfl, HN.out HL.out, rfl⟩) (by repeat' (first | (with_reducible exact HB2.out) | (with_reducible refine Below.setCell ?_ ?_ _) | go_size)))

set_option maxHeartbeats 4000000 in
theorem cmd4_sCoh (s : ByteArray) (w : World) (hs : s.size ≤ 1000000000) (hv : Vars w) (hk : (cutA s).data.toList = sCoh) :
    Calls Tryd.prog 22 #[.string s] w (CmdPost s w) := by
  obtain ⟨m, hm⟩ := hv.len
  have hsz := cutB_le s
  have hmlt := World.block_lt_of_cell? w _ hm
  go_enter Tryd.func22, Tryd.ntmps22
  go_wp2_with fail
  refine (cut_any s m _ hs (by rw [World.cell?_alloc_some w _ _ (by rw [hm]; rfl)]; exact hm)).mono ?_; rintro e w1 ⟨rfl, n1, rfl⟩
  generalize hA : cutA s = A at hsz hk ⊢
  generalize hB : cutB s = R at hsz ⊢
  generalize hF : cutF s = f
  have HA := Lib.hid hA
  have HR := Lib.hid hB
  have HFl := Lib.hid hF
  have HV := Lib.hid hv
  have HM := Lib.hid hm
  clear hA hB hF hv hm
  obtain rfl := word_of A _ hk
  clear hk
  have hsz2 := cutB_le R
  go_wp2_with fail
  refine (cut_any R m _ (by omega) ?_).mono ?_
  · have hm := HM.out
    simp [go_sem, hmlt, hm]
  rintro e w2 ⟨rfl, n2, rfl⟩
  generalize hA2 : cutA R = A2 at hsz2 ⊢
  generalize hB2 : cutB R = R2 at hsz2 ⊢
  generalize hF2 : cutF R = f2
  have HA2 := Lib.hid hA2
  have HR2 := Lib.hid hB2
  have HF2 := Lib.hid hF2
  have HZ := Lib.hid (show A2.size ≤ 1000000000 by omega)
  clear hA2 hB2 hF2 hsz hsz2
  go_wp2_with fail
  refine (readNumber_any A2 _ HZ.out (HV.out.below (by repeat' (first | (with_reducible exact Below.refl _ _) | (with_reducible refine Below.setCell ?_ ?_ _) | (with_reducible refine Below.alloc ?_ ?_ _) | (with_reducible refine below_drewN ?_ _) | go_size)) |> fun h => h)).mono ?_
  rintro e w2 ⟨n, rfl, hn, hb2⟩
  have HN := Lib.hid hn
  clear hn
  have z0 : w.heap.size < w2.heap.size := by have := hb2.size; simp at this; omega
  have z1 : w.heap.size + 1 < w2.heap.size := by have := hb2.size; simp at this; omega
  have c00 := (hb2.cell (p := ⟨w.heap.size, 0, none⟩) (by simp; try omega)).trans (show _ = some (Value.string ⟨#[]⟩) by simp [go_sem])
  have c01 := (hb2.cell (p := ⟨w.heap.size, 1, none⟩) (by simp; try omega)).trans (show _ = some (Value.string ⟨#[]⟩) by simp [go_sem])
  have c02 := (hb2.cell (p := ⟨w.heap.size, 2, none⟩) (by simp; try omega)).trans (show _ = some (Value.int .i64 0) by simp [go_sem])
  have c03 := (hb2.cell (p := ⟨w.heap.size, 3, none⟩) (by simp; try omega)).trans (show _ = some (Value.string ⟨#[]⟩) by simp [go_sem])
  have c10 := (hb2.cell (p := ⟨w.heap.size + 1, 0, none⟩) (by simp; try omega)).trans (show _ = some (Value.string ⟨sCoh.toArray⟩) by simp [go_sem])
  have c11 := (hb2.cell (p := ⟨w.heap.size + 1, 1, none⟩) (by simp; try omega)).trans (show _ = some (Value.string ⟨#[]⟩) by simp [go_sem])
  have c12 := (hb2.cell (p := ⟨w.heap.size + 1, 2, none⟩) (by simp; try omega)).trans (show _ = some (Value.int .i64 0) by simp [go_sem])
  have c13 := (hb2.cell (p := ⟨w.heap.size + 1, 3, none⟩) (by simp; try omega)).trans (show _ = some (Value.string R) by simp [go_sem])
  have f00 := (hb2.frozen (p := ⟨w.heap.size, 0, none⟩) (by simp; try omega)).trans (show _ = false by simp [go_sem])
  have f01 := (hb2.frozen (p := ⟨w.heap.size, 1, none⟩) (by simp; try omega)).trans (show _ = false by simp [go_sem])
  have f02 := (hb2.frozen (p := ⟨w.heap.size, 2, none⟩) (by simp; try omega)).trans (show _ = false by simp [go_sem])
  have f03 := (hb2.frozen (p := ⟨w.heap.size, 3, none⟩) (by simp; try omega)).trans (show _ = false by simp [go_sem])
  have f10 := (hb2.frozen (p := ⟨w.heap.size + 1, 0, none⟩) (by simp; try omega)).trans (show _ = false by simp [go_sem])
  have f11 := (hb2.frozen (p := ⟨w.heap.size + 1, 1, none⟩) (by simp; try omega)).trans (show _ = false by simp [go_sem])
  have f12 := (hb2.frozen (p := ⟨w.heap.size + 1, 2, none⟩) (by simp; try omega)).trans (show _ = false by simp [go_sem])
  have f13 := (hb2.frozen (p := ⟨w.heap.size + 1, 3, none⟩) (by simp; try omega)).trans (show _ = false by simp [go_sem])
  have HB2 := Lib.hid (show Below w.heap.size w w2 from Below.trans (by repeat' (first | (with_reducible exact Below.refl _ _) | (with_reducible refine Below.setCell ?_ ?_ _) | (with_reducible refine Below.alloc ?_ ?_ _) | (with_reducible refine below_drewN ?_ _) | go_size)) (hb2.mono (by simp; omega)))
  clear hb2
  cases f2
  · cases f
    · go_wp2_with fail
      exact bodyPost_ret (v := .tuple #[.agg #[.string ⟨sCoh.toArray⟩, .string ⟨#[]⟩, .int .i64 n, .string R2], .bool false]) (by simp [results, Tryd.results22, go_sem, c00, c01, c02, c03, c10, c11, c12, c13]) rfl (close (A := ⟨sCoh.toArray⟩) (k := 4) HA.out HR.out HFl.out (by decide) rfl rfl (fun h => absurd h Bool.false_ne_true) (by repeat' (first | (with_reducible exact HB2.out) | (with_reducible refine Below.setCell ?_ ?_ _) | go_size)))
    · go_wp2_with fail
      exact bodyPost_ret (v := .tuple #[.agg #[.string ⟨sCoh.toArray⟩, .string ⟨#[]⟩, .int .i64 n, .string R2], .bool false]) (by simp [results, Tryd.results22, go_sem, c00, c01, c02, c03, c10, c11, c12, c13]) rfl (close (A := ⟨sCoh.toArray⟩) (k := 4) HA.out HR.out HFl.out (by decide) (by simp [okOf, HF2.out]) rfl (fun h => absurd h Bool.false_ne_true) (by repeat' (first | (with_reducible exact HB2.out) | (with_reducible refine Below.setCell ?_ ?_ _) | go_size)))
  · cases hl : isNum A2.data.toList
    · have HL := Lib.hid hl
      clear hl
      cases f
      · go_wp2_with fail
        exact bodyPost_ret (v := .tuple #[.agg #[.string ⟨sCoh.toArray⟩, .string ⟨#[]⟩, .int .i64 n, .string R2], .bool false]) (by simp [results, Tryd.results22, go_sem, c00, c01, c02, c03, c10, c11, c12, c13]) rfl (close (A := ⟨sCoh.toArray⟩) (k := 4) HA.out HR.out HFl.out (by decide) rfl rfl (fun h => absurd h Bool.false_ne_true) (by repeat' (first | (with_reducible exact HB2.out) | (with_reducible refine Below.setCell ?_ ?_ _) | go_size)))
      · go_wp2_with fail
        exact bodyPost_ret (v := .tuple #[.agg #[.string ⟨sCoh.toArray⟩, .string ⟨#[]⟩, .int .i64 n, .string R2], .bool false]) (by simp [results, Tryd.results22, go_sem, c00, c01, c02, c03, c10, c11, c12, c13]) rfl (close (A := ⟨sCoh.toArray⟩) (k := 4) HA.out HR.out HFl.out (by decide) (by simp [okOf, HF2.out, HA2.out, HL.out]) rfl (fun h => absurd h Bool.false_ne_true) (by repeat' (first | (with_reducible exact HB2.out) | (with_reducible refine Below.setCell ?_ ?_ _) | go_size)))
    · have HL := Lib.hid hl
      clear hl
      cases f
      · go_wp2_with fail
        exact bodyPost_ret (v := .tuple #[.agg #[.string ⟨sCoh.toArray⟩, .string ⟨#[]⟩, .int .i64 n, .string R2], .bool false]) (by simp [results, Tryd.results22, go_sem, c00, c01, c02, c03, c10, c11, c12, c13]) rfl (close (A := ⟨sCoh.toArray⟩) (k := 4) HA.out HR.out HFl.out (by decide) rfl rfl (fun h => absurd h Bool.false_ne_true) (by repeat' (first | (with_reducible exact HB2.out) | (with_reducible refine Below.setCell ?_ ?_ _) | go_size)))
      · go_wp2_with fail
        exact bodyPost_ret (v := .tuple #[.agg #[.string ⟨sCoh.toArray⟩, .string ⟨#[]⟩, .int .i64 n, .string R2], .bool true]) (by simp [results, Tryd.results22, go_sem, c00, c01, c02, c03, c10, c11, c12, c13]) rfl (close (A := ⟨sCoh.toArray⟩) (k := 4) HA.out HR.out HFl.out (by decide) (by simp [okOf, HF2.out, HA2.out, HL.out]) rfl (fun _ => ⟨rfl, (HN.out HL.out).trans (by rw [← HA2.out]; rfl), HR2.out.symm⟩) (by repeat' (first | (with_reducible exact HB2.out) | (with_reducible refine Below.setCell ?_ ?_ _) | go_size)))

set_option maxHeartbeats 4000000 in
theorem cmd4_sDesc (s : ByteArray) (w : World) (hs : s.size ≤ 1000000000) (hv : Vars w) (hk : (cutA s).data.toList = sDesc) :
    Calls Tryd.prog 22 #[.string s] w (CmdPost s w) := by
  obtain ⟨m, hm⟩ := hv.len
  have hsz := cutB_le s
  have hmlt := World.block_lt_of_cell? w _ hm
  go_enter Tryd.func22, Tryd.ntmps22
  go_wp2_with fail
  refine (cut_any s m _ hs (by rw [World.cell?_alloc_some w _ _ (by rw [hm]; rfl)]; exact hm)).mono ?_; rintro e w1 ⟨rfl, n1, rfl⟩
  generalize hA : cutA s = A at hsz hk ⊢
  generalize hB : cutB s = R at hsz ⊢
  generalize hF : cutF s = f
  have HA := Lib.hid hA
  have HR := Lib.hid hB
  have HFl := Lib.hid hF
  have HV := Lib.hid hv
  have HM := Lib.hid hm
  clear hA hB hF hv hm
  obtain rfl := word_of A _ hk
  clear hk
  have hsz2 := cutB_le R
  go_wp2_with fail
  refine (cut_any R m _ (by omega) ?_).mono ?_
  · have hm := HM.out
    simp [go_sem, hmlt, hm]
  rintro e w2 ⟨rfl, n2, rfl⟩
  generalize hA2 : cutA R = A2 at hsz2 ⊢
  generalize hB2 : cutB R = R2 at hsz2 ⊢
  generalize hF2 : cutF R = f2
  have HA2 := Lib.hid hA2
  have HR2 := Lib.hid hB2
  have HF2 := Lib.hid hF2
  have HZ := Lib.hid (show A2.size ≤ 1000000000 by omega)
  clear hA2 hB2 hF2 hsz hsz2
  go_wp2_with fail
  refine (readNumber_any A2 _ HZ.out (HV.out.below (by repeat' (first | (with_reducible exact Below.refl _ _) | (with_reducible refine Below.setCell ?_ ?_ _) | (with_reducible refine Below.alloc ?_ ?_ _) | (with_reducible refine below_drewN ?_ _) | go_size)) |> fun h => h)).mono ?_
  rintro e w2 ⟨n, rfl, hn, hb2⟩
  have HN := Lib.hid hn
  clear hn
  have z0 : w.heap.size < w2.heap.size := by have := hb2.size; simp at this; omega
  have z1 : w.heap.size + 1 < w2.heap.size := by have := hb2.size; simp at this; omega
  have c00 := (hb2.cell (p := ⟨w.heap.size, 0, none⟩) (by simp; try omega)).trans (show _ = some (Value.string ⟨#[]⟩) by simp [go_sem])
  have c01 := (hb2.cell (p := ⟨w.heap.size, 1, none⟩) (by simp; try omega)).trans (show _ = some (Value.string ⟨#[]⟩) by simp [go_sem])
  have c02 := (hb2.cell (p := ⟨w.heap.size, 2, none⟩) (by simp; try omega)).trans (show _ = some (Value.int .i64 0) by simp [go_sem])
  have c03 := (hb2.cell (p := ⟨w.heap.size, 3, none⟩) (by simp; try omega)).trans (show _ = some (Value.string ⟨#[]⟩) by simp [go_sem])
  have c10 := (hb2.cell (p := ⟨w.heap.size + 1, 0, none⟩) (by simp; try omega)).trans (show _ = some (Value.string ⟨sDesc.toArray⟩) by simp [go_sem])
  have c11 := (hb2.cell (p := ⟨w.heap.size + 1, 1, none⟩) (by simp; try omega)).trans (show _ = some (Value.string ⟨#[]⟩) by simp [go_sem])
  have c12 := (hb2.cell (p := ⟨w.heap.size + 1, 2, none⟩) (by simp; try omega)).trans (show _ = some (Value.int .i64 0) by simp [go_sem])
  have c13 := (hb2.cell (p := ⟨w.heap.size + 1, 3, none⟩) (by simp; try omega)).trans (show _ = some (Value.string R) by simp [go_sem])
  have f00 := (hb2.frozen (p := ⟨w.heap.size, 0, none⟩) (by simp; try omega)).trans (show _ = false by simp [go_sem])
  have f01 := (hb2.frozen (p := ⟨w.heap.size, 1, none⟩) (by simp; try omega)).trans (show _ = false by simp [go_sem])
  have f02 := (hb2.frozen (p := ⟨w.heap.size, 2, none⟩) (by simp; try omega)).trans (show _ = false by simp [go_sem])
  have f03 := (hb2.frozen (p := ⟨w.heap.size, 3, none⟩) (by simp; try omega)).trans (show _ = false by simp [go_sem])
  have f10 := (hb2.frozen (p := ⟨w.heap.size + 1, 0, none⟩) (by simp; try omega)).trans (show _ = false by simp [go_sem])
  have f11 := (hb2.frozen (p := ⟨w.heap.size + 1, 1, none⟩) (by simp; try omega)).trans (show _ = false by simp [go_sem])
  have f12 := (hb2.frozen (p := ⟨w.heap.size + 1, 2, none⟩) (by simp; try omega)).trans (show _ = false by simp [go_sem])
  have f13 := (hb2.frozen (p := ⟨w.heap.size + 1, 3, none⟩) (by simp; try omega)).trans (show _ = false by simp [go_sem])
  have HB2 := Lib.hid (show Below w.heap.size w w2 from Below.trans (by repeat' (first | (with_reducible exact Below.refl _ _) | (with_reducible refine Below.setCell ?_ ?_ _) | (with_reducible refine Below.alloc ?_ ?_ _) | (with_reducible refine below_drewN ?_ _) | go_size)) (hb2.mono (by simp; omega)))
  clear hb2
  cases f2
  · cases f
    · go_wp2_with fail
      exact bodyPost_ret (v := .tuple #[.agg #[.string ⟨sDesc.toArray⟩, .string ⟨#[]⟩, .int .i64 n, .string R2], .bool false]) (by simp [results, Tryd.results22, go_sem, c00, c01, c02, c03, c10, c11, c12, c13]) rfl (close (A := ⟨sDesc.toArray⟩) (k := 4) HA.out HR.out HFl.out (by decide) rfl rfl (fun h => absurd h Bool.false_ne_true) (by repeat' (first | (with_reducible exact HB2.out) | (with_reducible refine Below.setCell ?_ ?_ _) | go_size)))
    · go_wp2_with fail
      exact bodyPost_ret (v := .tuple #[.agg #[.string ⟨sDesc.toArray⟩, .string ⟨#[]⟩, .int .i64 n, .string R2], .bool false]) (by simp [results, Tryd.results22, go_sem, c00, c01, c02, c03, c10, c11, c12, c13]) rfl (close (A := ⟨sDesc.toArray⟩) (k := 4) HA.out HR.out HFl.out (by decide) (by simp [okOf, HF2.out]) rfl (fun h => absurd h Bool.false_ne_true) (by repeat' (first | (with_reducible exact HB2.out) | (with_reducible refine Below.setCell ?_ ?_ _) | go_size)))
  · cases hl : isNum A2.data.toList
    · have HL := Lib.hid hl
      clear hl
      cases f
      · go_wp2_with fail
        exact bodyPost_ret (v := .tuple #[.agg #[.string ⟨sDesc.toArray⟩, .string ⟨#[]⟩, .int .i64 n, .string R2], .bool false]) (by simp [results, Tryd.results22, go_sem, c00, c01, c02, c03, c10, c11, c12, c13]) rfl (close (A := ⟨sDesc.toArray⟩) (k := 4) HA.out HR.out HFl.out (by decide) rfl rfl (fun h => absurd h Bool.false_ne_true) (by repeat' (first | (with_reducible exact HB2.out) | (with_reducible refine Below.setCell ?_ ?_ _) | go_size)))
      · go_wp2_with fail
        exact bodyPost_ret (v := .tuple #[.agg #[.string ⟨sDesc.toArray⟩, .string ⟨#[]⟩, .int .i64 n, .string R2], .bool false]) (by simp [results, Tryd.results22, go_sem, c00, c01, c02, c03, c10, c11, c12, c13]) rfl (close (A := ⟨sDesc.toArray⟩) (k := 4) HA.out HR.out HFl.out (by decide) (by simp [okOf, HF2.out, HA2.out, HL.out]) rfl (fun h => absurd h Bool.false_ne_true) (by repeat' (first | (with_reducible exact HB2.out) | (with_reducible refine Below.setCell ?_ ?_ _) | go_size)))
    · have HL := Lib.hid hl
      clear hl
      cases f
      · go_wp2_with fail
        exact bodyPost_ret (v := .tuple #[.agg #[.string ⟨sDesc.toArray⟩, .string ⟨#[]⟩, .int .i64 n, .string R2], .bool false]) (by simp [results, Tryd.results22, go_sem, c00, c01, c02, c03, c10, c11, c12, c13]) rfl (close (A := ⟨sDesc.toArray⟩) (k := 4) HA.out HR.out HFl.out (by decide) rfl rfl (fun h => absurd h Bool.false_ne_true) (by repeat' (first | (with_reducible exact HB2.out) | (with_reducible refine Below.setCell ?_ ?_ _) | go_size)))
      · go_wp2_with fail
        exact bodyPost_ret (v := .tuple #[.agg #[.string ⟨sDesc.toArray⟩, .string ⟨#[]⟩, .int .i64 n, .string R2], .bool true]) (by simp [results, Tryd.results22, go_sem, c00, c01, c02, c03, c10, c11, c12, c13]) rfl (close (A := ⟨sDesc.toArray⟩) (k := 4) HA.out HR.out HFl.out (by decide) (by simp [okOf, HF2.out, HA2.out, HL.out]) rfl (fun _ => ⟨rfl, (HN.out HL.out).trans (by rw [← HA2.out]; rfl), HR2.out.symm⟩) (by repeat' (first | (with_reducible exact HB2.out) | (with_reducible refine Below.setCell ?_ ?_ _) | go_size)))

theorem readCommand_any (s : ByteArray) (w : World) (hs : s.size ≤ 1000000000) (hv : Vars w) :
    Calls Tryd.prog 22 #[.string s] w (CmdPost s w) := by
  rcases kind_cases (cutA s).data.toList with h9 | h | h | h2 | h | h0
  · rcases h9 with h | h | h | h | h | h | h | h | h
    · exact cmd1_sOrder s w hs hv h
    · exact cmd1_sText s w hs hv h
    · exact cmd1_sType s w hs hv h
    · exact cmd1_sAbel s w hs hv h
    · exact cmd1_sSub s w hs hv h
    · exact cmd1_sQuo s w hs hv h
    · exact cmd1_sCover s w hs hv h
    · exact cmd1_sPar s w hs hv h
    · exact cmd1_sRing s w hs hv h
  · exact cmd2 s w hs hv h
  · exact cmd3 s w hs hv h
  · rcases h2 with h | h
    · exact cmd4_sCoh s w hs hv h
    · exact cmd4_sDesc s w hs hv h
  · exact cmd5 s w hs hv h
  · exact cmd0 s w hs hv h0
end Go.Proofs.YtpdjpiabbciajaaDoor.CmdWalks
