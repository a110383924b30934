import Derived.Test.YtbamkklhkhglnaaGreatDoorTiB
/-
  The word of a vector, and the text of a word of positive letters: impl.normalWord, wordText, letterOf; spec.l07Word, l06Text, l07Letter.
-/
namespace Go.Proofs.YtbamkklhkhglnaaGreatDoor.TwA
open Go.RowKit Go.Lib Go.Proofs.YtbamkklhkhglnaaGreatDoor Go.Proofs.YtbamkklhkhglnaaGreatDoor.Tow Go.Proofs.YtbamkklhkhglnaaGreatDoor.CyA Go.Proofs.YtbamkklhkhglnaaGreatDoor.TxA Go.Proofs.YtbamkklhkhglnaaGreatDoor.TxB Go.Proofs.YtbamkklhkhglnaaGreatDoor.TxC Go.Proofs.YtbamkklhkhglnaaGreatDoor.TmA Go.Proofs.YtbamkklhkhglnaaGreatDoor.TiA
set_option linter.unusedVariables false
set_option linter.unusedSimpArgs false

theorem infoB : (Tryz.prog.info? 5).map (fun i => (i.zero, i.size, i.bytes)) = some (some (.int .u8 0), 1, 1) := by kernel_rfl
def bys (l : List UInt8) : List Value := l.map fun b => .int .u8 (b.toNat : Int)
/-- the letters of a vector -/
def nwF : Nat → List Nat → List Int
  | _, [] => []
  | k, x :: v => List.replicate x ((k : Int) + 1) ++ nwF (k + 1) v
theorem nwF_app : ∀ (a b : List Nat) (k : Nat), nwF k (a ++ b) = nwF k a ++ nwF (k + a.length) b
  | [], b, k => by simp [nwF]
  | x :: a, b, k => by
    simp only [List.cons_append, nwF, nwF_app a b (k + 1), List.length_cons, List.append_assoc]
    rw [show k + 1 + a.length = k + (a.length + 1) by omega]
theorem nwF_mem : ∀ (v : List Nat) (k : Nat) (x : Int), x ∈ nwF k v → ∃ i, i < v.length ∧ x = ((k + i : Nat) : Int) + 1
  | [], _, x, h => by simp [nwF] at h
  | y :: v, k, x, h => by
    unfold nwF at h
    rcases List.mem_append.1 h with h | h
    · exact ⟨0, by simp, (List.mem_replicate.1 h).2⟩
    · obtain ⟨i, hi, rfl⟩ := nwF_mem v (k + 1) x h
      exact ⟨i + 1, by simpa using hi, by omega⟩
def lt (x : Int) : UInt8 := UInt8.ofNat (96 + x.toNat)
theorem nwF_wdF : ∀ (v : List Nat) (k : Nat), (nwF k v).map lt = wdF k v
  | [], _ => rfl
  | y :: v, k => by
    unfold nwF wdF
    rw [List.map_append, nwF_wdF v (k + 1), List.map_replicate]
    have : lt ((k : Int) + 1) = ltr k := by
      unfold lt ltr
      congr 1
      omega
    rw [this]
theorem nwF_len : ∀ (v : List Nat) (k m : Nat), (∀ x ∈ v, x ≤ m) → (nwF k v).length ≤ v.length * m
  | [], _, _, _ => by simp [nwF]
  | y :: v, k, m, h => by
    unfold nwF
    have h1 := h y (by simp)
    have h2 := nwF_len v (k + 1) m (fun x hx => h x (List.mem_cons_of_mem _ hx))
    rw [List.length_append, List.length_replicate, List.length_cons, Nat.succ_mul]
    omega
theorem lt_toNat {x : Int} (h : 1 ≤ x ∧ x ≤ 100) : ((lt x).toNat : Int) = 96 + x := by
  unfold lt
  rw [UInt8.toNat_ofNat']
  omega
/-- an answer that is a text -/
def TxR (t : List UInt8) (w : World) (e : Ending) (w' : World) : Prop := ∃ s : ByteArray, e = .returned (.string s) ∧ s.data.toList = t ∧ Below w.heap.size w w'
def wtI (l : List Int) : List UInt8 := if l = [] then [49] else l.map lt
theorem wtI_nw (v : List Nat) : wtI (nwF 0 v) = wtx v := by
  unfold wtI wtx
  rw [← nwF_wdF]
  by_cases h : nwF 0 v = []
  · simp [h]
  · simp [h]
def NwR (v : List Nat) (w : World) (e : Ending) (w' : World) : Prop := ∃ u, e = .returned u ∧ Own w.heap.size w' u (nwF 0 v) ∧ Below w.heap.size w w'

set_option maxRecDepth 100000 in
set_option maxHeartbeats 4000000 in
theorem itext_any (a : Option Addr) (n c : Nat) (l : List Int) (hl : l.length = n) (hn : n ≤ 100000) (hp : ∀ x ∈ l, 1 ≤ x ∧ x ≤ 100) (w : World) (hv : SlI (fun _ => True) w (.slice a n c) l) :
    Calls Tryz.prog 127 #[.slice a n c] w (TxR (wtI l) w) := by
  obtain ⟨i8, hi8, h80, h81, h82⟩ := info_parts infoB
  have HV := Lib.hid hv
  have HL := Lib.hid hl
  have HP := Lib.hid hp
  have H0 := Lib.hid (show (w).ownsRow w.heap.size 5 1 (.slice none 0 0) 0 (bys []) from World.ownsRow_nil _ _ _ _)
  have HCV := Lib.hid (fun (W : World) (a : Option Addr) (c : Nat) (L : List UInt8) (hL : L ≠ []) (h : W.ownsRow w.heap.size 5 1 (.slice a L.length c) L.length (bys L)) => show (convert 22 9 (.slice a L.length c)).run Tryz.prog W = .ok (.string ⟨L.toArray⟩) W from by
    rcases h.2 with ⟨h', h0⟩ | ⟨g, cap, cu, h', _⟩
    · exact absurd (List.eq_nil_of_length_eq_zero h0) hL
    · obtain ⟨rfl, rfl⟩ : a = some ⟨g, 0, none⟩ ∧ c = cap := by simpa using h'
      exact run_convert_bytes_back (P := Tryz.prog) W 22 9 5 ⟨g, 0, none⟩ c L Tryz.underlying22 Tryz.underlying5 Tryz.underlying9 (fun j hj => h.cells (g := g) rfl j _ (by simp [bys, hj])))
  clear hv hl hp
  by_cases hn0 : n = 0
  · have hz : ((n : Int) == 0) = true := by rw [hn0]; rfl
    have H1 := Lib.hid (show TxR (wtI l) w (.returned (.string ⟨#[49]⟩)) w from ⟨_, rfl, by
      obtain rfl : l = [] := List.eq_nil_of_length_eq_zero (by rw [HL.out]; exact hn0)
      rfl, Below.refl _ _⟩)
    clear hn0
    go_enter Tryz.func127, Tryz.ntmps127
    go_wp2_with fail
    go_ret
    exact H1.out
  have hz : ((n : Int) == 0) = false := beq_eq_false_iff_ne.2 (by omega)
  go_enter Tryz.func127, Tryz.ntmps127
  go_wp2_with fail
  go_loopw [3, 11] (fun ov iv wr => ∃ (i : Nat) (ao : Option Addr) (co : Nat), i ≤ n ∧ iv = .int .i64 (i : Int) ∧ ov = .slice ao i co ∧ Hid (wr.ownsRow w.heap.size 5 1 (.slice ao i co) i (bys ((l.take i).map lt))) ∧ Hid (Below w.heap.size w wr)) (fun _ iv _ => n - (intOf iv).toNat)
  case atStart => exact ⟨0, _, _, Nat.zero_le _, rfl, rfl, H0, Lib.hid (Below.refl _ _)⟩
  case round =>
    clear H0
    obtain ⟨i, ao, co, hi, rfl, rfl, hO, hB⟩ := hrel
    by_cases hlt : i < n
    · have hki : (i : Int) < (n : Int) := by omega
      have hki0 : (0 : Int) ≤ (i : Int) := by omega
      obtain ⟨x, hx⟩ : ∃ x, l[i]? = some x := ⟨_, List.getElem?_eq_getElem (by rw [HL.out]; exact hlt)⟩
      obtain ⟨hx1, hx2⟩ := HP.out x (List.mem_of_getElem? hx)
      obtain ⟨b, o, u, rfl, _, hbl, hcu, rfl⟩ := slg_get (HV.out.keep (Keep.of_below hB.out)) hx
      have HTK := Lib.hid (show (l.take (i + 1)).map lt = (l.take i).map lt ++ [lt x] from by rw [List.take_add_one, hx]; simp)
      clear hx
      have hx0 : 0 < x := by omega
      obtain ⟨L, hL⟩ : ∃ L, (l.take i).map lt = L := ⟨_, rfl⟩
      rw [hL] at hO HTK
      obtain ⟨ub, hub⟩ : ∃ ub : UInt8, lt x = ub := ⟨_, rfl⟩
      have hub2 : 96 + x = (ub.toNat : Int) := by rw [← hub]; exact (lt_toNat ⟨hx1, hx2⟩).symm
      rw [hub] at HTK
      have hw1 : IntKind.i64.wrap (97 + x) = 97 + x := IntWalk.i64_in _ (by omega)
      have hw2 : IntKind.i64.wrap (97 + x - 1) = 97 + x - 1 := IntWalk.i64_in _ (by omega)
      have HU := Lib.hid (show 97 + x - 1 = (ub.toNat : Int) by omega)
      have a1 := ownsRow_keep hO.out (S := fun _ => True) ((Keep.refl _ wr).alloc (.cells #[.int .u8 (97 + x - 1)] 5)) (fun _ _ => trivial)
      have hBs := hB.out.size
      clear hO hL hub hub2
      go_wp2_with (at_builtin; (refine wpList_append_lies _ rfl _ _ 22 rfl w.heap.size 5 i8 (.int .u8 0) 1 1 Tryz.underlying22 hi8 h80 h81 h82 rfl (by decide) _ _ _ rfl a1 ⟨wr.heap.size, 0, none⟩ 1 1 [.int .u8 (97 + x - 1)] rfl rfl (World.news_of_block (cs := #[.int .u8 (97 + x - 1)]) (t := 5) (fr := (0, 0)) (heap_alloc_new wr _)) (by simp [Value.oneCell']) (by decide) (by unfold maxLen; omega) (by omega) (by simp; omega) _ rfl ?_))
      intro g2 cap2 w6 hown2 hgrow2 hat2 hlt2
      have HB6 := Lib.hid ((hB.out.alloc hBs (.cells #[.int .u8 (97 + x - 1)] 5)).grown hgrow2 (by simp; omega) (fun g hg => (World.ownsRow.lt a1 g hg).1))
      have HO6 := Lib.hid (show w6.ownsRow w.heap.size 5 1 (.slice (some ⟨g2, 0, none⟩) (i + 1) cap2) (i + 1) (bys ((l.take (i + 1)).map lt)) from by rw [HTK.out]; rw [HU.out] at hown2; simpa [bys] using hown2)
      clear a1 hown2 hgrow2 hat2 hlt2 hB hBs
      go_wp2_with fail
      go_roundw
      case rel => exact ⟨i + 1, _, cap2, by omega, by go_num, rfl, HO6, HB6⟩
      case measure => simp [intOf]; omega
    · obtain rfl : n = i := by omega
      have hnl : ¬ (n : Int) < (n : Int) := by omega
      obtain ⟨L, hL⟩ : ∃ L, l.map lt = L := ⟨_, rfl⟩
      have hLl : L.length = n := by rw [← hL, List.length_map]; exact HL.out
      have hO2 := hO.out
      rw [List.take_of_length_le (by rw [HL.out]; exact Nat.le_refl _), hL] at hO2
      subst hLl
      have hne : L ≠ [] := fun e => hn0 (by rw [e]; rfl)
      have hcv := HCV.out _ _ _ _ hne hO2
      have HF := Lib.hid (show TxR (wtI l) w (.returned (.string ⟨L.toArray⟩)) wr from ⟨_, rfl, by
        unfold wtI
        rw [if_neg (fun e => hne (by rw [← hL, e]; rfl)), hL], hB.out⟩)
      clear hO hB hO2 hL
      go_wp2_with fail
      go_ret
      exact HF.out

set_option maxRecDepth 100000 in
set_option maxHeartbeats 4000000 in
theorem stext_any (a : Option Addr) (n c : Nat) (l : List Int) (hl : l.length = n) (hn : n ≤ 100000) (hp : ∀ x ∈ l, 1 ≤ x ∧ x ≤ 100) (w : World) (hv : SlI (fun _ => True) w (.slice a n c) l) :
    Calls Tryz.prog 143 #[.slice a n c] w (TxR (wtI l) w) := by
  obtain ⟨i8, hi8, h80, h81, h82⟩ := info_parts infoB
  have HV := Lib.hid hv
  have HL := Lib.hid hl
  have HP := Lib.hid hp
  have H0 := Lib.hid (show (w.alloc (.cells #[] 5)).ownsRow w.heap.size 5 1 (.slice (some ⟨w.heap.size, 0, none⟩) 0 0) 0 (bys []) from World.ownsRow_made (base := w.heap.size) (e := 5) (size := 1) w #[] 0 (Nat.le_refl _) (Nat.zero_le _) rfl)
  have HCV := Lib.hid (fun (W : World) (a : Option Addr) (c : Nat) (L : List UInt8) (hL : L ≠ []) (h : W.ownsRow w.heap.size 5 1 (.slice a L.length c) L.length (bys L)) => show (convert 22 9 (.slice a L.length c)).run Tryz.prog W = .ok (.string ⟨L.toArray⟩) W from by
    rcases h.2 with ⟨h', h0⟩ | ⟨g, cap, cu, h', _⟩
    · exact absurd (List.eq_nil_of_length_eq_zero h0) hL
    · obtain ⟨rfl, rfl⟩ : a = some ⟨g, 0, none⟩ ∧ c = cap := by simpa using h'
      exact run_convert_bytes_back (P := Tryz.prog) W 22 9 5 ⟨g, 0, none⟩ c L Tryz.underlying22 Tryz.underlying5 Tryz.underlying9 (fun j hj => h.cells (g := g) rfl j _ (by simp [bys, hj])))
  clear hv hl hp
  by_cases hn0 : n = 0
  · have hz : ((n : Int) == 0) = true := by rw [hn0]; rfl
    have H1 := Lib.hid (show TxR (wtI l) w (.returned (.string ⟨#[49]⟩)) w from ⟨_, rfl, by
      obtain rfl : l = [] := List.eq_nil_of_length_eq_zero (by rw [HL.out]; exact hn0)
      rfl, Below.refl _ _⟩)
    clear hn0
    go_enter Tryz.func143, Tryz.ntmps143
    go_wp2_with fail
    go_ret
    exact H1.out
  have hz : ((n : Int) == 0) = false := beq_eq_false_iff_ne.2 (by omega)
  go_enter Tryz.func143, Tryz.ntmps143
  go_wp2_with fail
  go_loopw [3, 4] (fun ov iv wr => ∃ (i : Nat) (ao : Option Addr) (co : Nat), i ≤ n ∧ iv = .int .i64 (i : Int) ∧ ov = .slice ao i co ∧ Hid (wr.ownsRow w.heap.size 5 1 (.slice ao i co) i (bys ((l.take i).map lt))) ∧ Hid (Below w.heap.size w wr)) (fun _ iv _ => n - (intOf iv).toNat)
  case atStart => exact ⟨0, _, _, Nat.zero_le _, rfl, rfl, H0, Lib.hid ((Below.refl _ _).alloc (Nat.le_refl _) _)⟩
  case round =>
    clear H0
    obtain ⟨i, ao, co, hi, rfl, rfl, hO, hB⟩ := hrel
    by_cases hlt : i < n
    · have hki : (i : Int) < (n : Int) := by omega
      have hki0 : (0 : Int) ≤ (i : Int) := by omega
      obtain ⟨x, hx⟩ : ∃ x, l[i]? = some x := ⟨_, List.getElem?_eq_getElem (by rw [HL.out]; exact hlt)⟩
      obtain ⟨hx1, hx2⟩ := HP.out x (List.mem_of_getElem? hx)
      obtain ⟨b, o, u, rfl, _, hbl, hcu, rfl⟩ := slg_get (HV.out.keep (Keep.of_below hB.out)) hx
      have HTK := Lib.hid (show (l.take (i + 1)).map lt = (l.take i).map lt ++ [lt x] from by rw [List.take_add_one, hx]; simp)
      clear hx
      have hx0 : 0 < x := by omega
      obtain ⟨L, hL⟩ : ∃ L, (l.take i).map lt = L := ⟨_, rfl⟩
      rw [hL] at hO HTK
      obtain ⟨ub, hub⟩ : ∃ ub : UInt8, lt x = ub := ⟨_, rfl⟩
      have hub2 : 96 + x = (ub.toNat : Int) := by rw [← hub]; exact (lt_toNat ⟨hx1, hx2⟩).symm
      rw [hub] at HTK
      have hw1 : IntKind.i64.wrap (97 + x) = 97 + x := IntWalk.i64_in _ (by omega)
      have hw2 : IntKind.i64.wrap (97 + x - 1) = 97 + x - 1 := IntWalk.i64_in _ (by omega)
      have HU := Lib.hid (show 97 + x - 1 = (ub.toNat : Int) by omega)
      have a1 := ownsRow_keep hO.out (S := fun _ => True) ((Keep.refl _ wr).alloc (.cells #[.int .u8 (97 + x - 1)] 5)) (fun _ _ => trivial)
      have hBs := hB.out.size
      clear hO hL hub hub2
      go_wp2_with (at_builtin; (refine wpList_append_lies _ rfl _ _ 22 rfl w.heap.size 5 i8 (.int .u8 0) 1 1 Tryz.underlying22 hi8 h80 h81 h82 rfl (by decide) _ _ _ rfl a1 ⟨wr.heap.size, 0, none⟩ 1 1 [.int .u8 (97 + x - 1)] rfl rfl (World.news_of_block (cs := #[.int .u8 (97 + x - 1)]) (t := 5) (fr := (0, 0)) (heap_alloc_new wr _)) (by simp [Value.oneCell']) (by decide) (by unfold maxLen; omega) (by omega) (by simp; omega) _ rfl ?_))
      intro g2 cap2 w6 hown2 hgrow2 hat2 hlt2
      have HB6 := Lib.hid ((hB.out.alloc hBs (.cells #[.int .u8 (97 + x - 1)] 5)).grown hgrow2 (by simp; omega) (fun g hg => (World.ownsRow.lt a1 g hg).1))
      have HO6 := Lib.hid (show w6.ownsRow w.heap.size 5 1 (.slice (some ⟨g2, 0, none⟩) (i + 1) cap2) (i + 1) (bys ((l.take (i + 1)).map lt)) from by rw [HTK.out]; rw [HU.out] at hown2; simpa [bys] using hown2)
      clear a1 hown2 hgrow2 hat2 hlt2 hB hBs
      go_wp2_with fail
      go_roundw
      case rel => exact ⟨i + 1, _, cap2, by omega, by go_num, rfl, HO6, HB6⟩
      case measure => simp [intOf]; omega
    · obtain rfl : n = i := by omega
      have hnl : ¬ (n : Int) < (n : Int) := by omega
      obtain ⟨L, hL⟩ : ∃ L, l.map lt = L := ⟨_, rfl⟩
      have hLl : L.length = n := by rw [← hL, List.length_map]; exact HL.out
      have hO2 := hO.out
      rw [List.take_of_length_le (by rw [HL.out]; exact Nat.le_refl _), hL] at hO2
      subst hLl
      have hne : L ≠ [] := fun e => hn0 (by rw [e]; rfl)
      have hcv := HCV.out _ _ _ _ hne hO2
      have HF := Lib.hid (show TxR (wtI l) w (.returned (.string ⟨L.toArray⟩)) wr from ⟨_, rfl, by
        unfold wtI
        rw [if_neg (fun e => hne (by rw [← hL, e]; rfl)), hL], hB.out⟩)
      clear hO hB hO2 hL
      go_wp2_with fail
      go_ret
      exact HF.out

set_option maxRecDepth 100000 in
set_option maxHeartbeats 4000000 in
theorem inw_any (a : Option Addr) (n c : Nat) (v : List Nat) (hl : v.length = n) (hn : n ≤ 100) (hp : ∀ x ∈ v, x ≤ 100) (w : World) (hv : SlI (fun _ => True) w (.slice a n c) (ints v)) :
    Calls Tryz.prog 128 #[.slice a n c] w (NwR v w) := by
  obtain ⟨i0, hi0, hz0, hz1, hz2⟩ := info_parts infoI
  have HV := Lib.hid hv
  have HL := Lib.hid hl
  have HP := Lib.hid hp
  have H0 := Lib.hid (show Own w.heap.size (w) (.slice none 0 0) (nwF 0 (v.take 0)) from World.ownsRow_nil _ _ _ _)
  clear hv hl hp
  go_enter Tryz.func128, Tryz.ntmps128
  go_wp2_with fail
  go_loopw [3, 8] (fun ov iv wr => ∃ (i : Nat) (ao : Option Addr) (m co : Nat), i ≤ n ∧ iv = .int .i64 (i : Int) ∧ ov = .slice ao m co ∧ m ≤ i * 100 ∧ Hid (m = (nwF 0 (v.take i)).length ∧ Own w.heap.size wr (.slice ao m co) (nwF 0 (v.take i))) ∧ Hid (Below w.heap.size w wr)) (fun _ iv _ => n - (intOf iv).toNat)
  case atStart => exact ⟨0, _, _, _, Nat.zero_le _, rfl, rfl, Nat.le_refl _, Lib.hid ⟨rfl, H0.out⟩, Lib.hid (Below.refl _ _)⟩
  case round =>
    clear H0
    obtain ⟨i, ao, m, co, hi, rfl, rfl, hm, hO, hB⟩ := hrel
    by_cases hlt : i < n
    · have hki : (i : Int) < (n : Int) := by omega
      have hki0 : (0 : Int) ≤ (i : Int) := by omega
      obtain ⟨x, hx⟩ : ∃ x, v[i]? = some x := ⟨_, List.getElem?_eq_getElem (by rw [HL.out]; exact hlt)⟩
      have hx1 := HP.out x (List.mem_of_getElem? hx)
      have hxi : (ints v)[i]? = some (x : Int) := by rw [ints_get, hx]; rfl
      have HTK := Lib.hid (show nwF 0 (v.take (i + 1)) = nwF 0 (v.take i) ++ List.replicate x ((i : Int) + 1) from by
        rw [List.take_add_one, hx]
        show nwF 0 (v.take i ++ [x]) = _
        rw [nwF_app]
        have e : 0 + (v.take i).length = i := by rw [List.length_take, HL.out]; omega
        rw [e]; simp [nwF])
      obtain ⟨b, o, hb⟩ : ∃ b o, a = some ⟨b, o, none⟩ := by
        obtain ⟨b, o, u, e, _⟩ := slg_get HV.out hxi
        exact ⟨b, o, e⟩
      subst hb
      have HC := Lib.hid (fun (W : World) (hb : Below w.heap.size w W) => show W.cell? ⟨b, o + i, none⟩ = some (.int .i64 (x : Int)) ∧ b < W.heap.size from by
        obtain ⟨b', o', u, e, _, hbl, hcu, rfl⟩ := slg_get (HV.out.keep (Keep.of_below hb)) hxi
        simp only [Option.some.injEq, Addr.mk.injEq, and_true] at e
        obtain ⟨rfl, rfl⟩ := e
        exact ⟨hcu, hbl⟩)
      obtain ⟨hcu, hbl⟩ := HC.out _ hB.out
      have hw1 : IntKind.i64.wrap ((i : Int) + 1) = (i : Int) + 1 := IntWalk.i64_in _ (by omega)
      have HI := Lib.hid (show ∃ (q : Nat) (ao' : Option Addr) (m' co' : Nat), q ≤ x ∧ m' ≤ i * 100 + q ∧ Value.int .i64 0 = .int .i64 (q : Int) ∧ Value.slice ao m co = .slice ao' m' co' ∧ Hid (m' = (nwF 0 (v.take i) ++ List.replicate q ((i : Int) + 1)).length ∧ Own w.heap.size wr (.slice ao' m' co') (nwF 0 (v.take i) ++ List.replicate q ((i : Int) + 1))) ∧ Hid (Below w.heap.size w wr) from
        ⟨0, ao, m, co, Nat.zero_le _, by omega, rfl, rfl, Lib.hid (by rw [List.replicate_zero, List.append_nil]; exact hO.out), hB⟩)
      clear hx hO hB hxi
      go_wp2_with fail
      go_loopw [3, 14] (fun ov qv wr => ∃ (q : Nat) (ao : Option Addr) (m co : Nat), q ≤ x ∧ m ≤ i * 100 + q ∧ qv = .int .i64 (q : Int) ∧ ov = .slice ao m co ∧ Hid (m = (nwF 0 (v.take i) ++ List.replicate q ((i : Int) + 1)).length ∧ Own w.heap.size wr (.slice ao m co) (nwF 0 (v.take i) ++ List.replicate q ((i : Int) + 1))) ∧ Hid (Below w.heap.size w wr)) (fun _ qv _ => x - (intOf qv).toNat)
      case atStart => exact HI.out
      case round =>
        clear HI hcu hbl
        obtain ⟨q, ao, m, co, hq, hm, rfl, rfl, hO, hB⟩ := hrel
        obtain ⟨hcu, hbl⟩ := HC.out _ hB.out
        by_cases hlt2 : q < x
        · have hkq : (q : Int) < (x : Int) := by omega
          have hw2 : IntKind.i64.wrap ((q : Int) + 1) = (q : Int) + 1 := IntWalk.i64_in _ (by omega)
          obtain ⟨xs, hxs⟩ : ∃ xs, nwF 0 (v.take i) ++ List.replicate q ((i : Int) + 1) = xs := ⟨_, rfl⟩
          have HXS := Lib.hid (show nwF 0 (v.take i) ++ List.replicate (q + 1) ((i : Int) + 1) = xs ++ [(i : Int) + 1] from by rw [← hxs, List.replicate_succ', List.append_assoc])
          rw [hxs] at hO
          have HM := Lib.hid hO.out.1
          have hO2 := hO.out.2
          unfold Own at hO2
          rw [← HM.out] at hO2
          have a1 := ownsRow_keep hO2 (S := fun _ => True) ((Keep.refl _ wr).alloc (.cells #[.int .i64 ((i : Int) + 1)] 2)) (fun _ _ => trivial)
          have hBs := hB.out.size
          clear hO hO2 hxs
          go_wp2_with (at_builtin; (refine wpList_append_lies _ rfl _ _ 87 rfl w.heap.size 2 i0 (.int .i64 0) 1 8 Tryz.underlying87 hi0 hz0 hz1 hz2 rfl (by decide) _ _ _ rfl a1 ⟨wr.heap.size, 0, none⟩ 1 1 [.int .i64 ((i : Int) + 1)] rfl rfl (World.news_of_block (cs := #[.int .i64 ((i : Int) + 1)]) (t := 2) (fr := (0, 0)) (heap_alloc_new wr _)) (by simp [Value.oneCell']) (by decide) (by unfold maxLen; omega) (by omega) (by simp; omega) _ rfl ?_))
          intro g2 cap2 w6 hown2 hgrow2 hat2 hlt2
          have HB6 := Lib.hid ((hB.out.alloc hBs (.cells #[.int .i64 ((i : Int) + 1)] 2)).grown hgrow2 (by simp; omega) (fun g hg => (World.ownsRow.lt a1 g hg).1))
          have HO6 := Lib.hid (show m + 1 = (nwF 0 (v.take i) ++ List.replicate (q + 1) ((i : Int) + 1)).length ∧ Own w.heap.size w6 (.slice (some ⟨g2, 0, none⟩) (m + 1) cap2) (nwF 0 (v.take i) ++ List.replicate (q + 1) ((i : Int) + 1)) from by
            rw [HXS.out]
            have e : (xs ++ [(i : Int) + 1]).length = m + 1 := by rw [List.length_append, ← HM.out]; rfl
            refine ⟨e.symm, ?_⟩
            unfold Own
            rw [e]
            simpa [vals] using hown2)
          clear a1 hown2 hgrow2 hat2 hlt2 hB hBs hcu hbl
          go_wp2_with fail
          go_roundw
          case rel => exact ⟨q + 1, _, m + 1, cap2, by omega, by omega, by go_num, rfl, HO6, HB6⟩
          case measure => simp [intOf]; omega
        · obtain rfl : q = x := by omega
          have hnl : ¬ (q : Int) < (q : Int) := by omega
          rw [← HTK.out] at hO
          have hmm : m ≤ (i + 1) * 100 := by omega
          go_wp2_with fail
          go_roundw
          case rel => exact ⟨i + 1, _, m, co, by omega, by go_num, rfl, hmm, hO, hB⟩
          case measure => simp [intOf]; omega
    · obtain rfl : n = i := by omega
      have hnl : ¬ (n : Int) < (n : Int) := by omega
      have HF := Lib.hid (show NwR v w (.returned (.slice ao m co)) wr from ⟨_, rfl, by
        have := hO.out.2
        rwa [List.take_of_length_le (by rw [HL.out]; exact Nat.le_refl _)] at this, hB.out⟩)
      clear hO hB
      go_wp2_with fail
      go_ret
      exact HF.out

set_option maxRecDepth 100000 in
set_option maxHeartbeats 4000000 in
theorem snw_any (a : Option Addr) (n c : Nat) (v : List Nat) (hl : v.length = n) (hn : n ≤ 100) (hp : ∀ x ∈ v, x ≤ 100) (w : World) (hv : SlI (fun _ => True) w (.slice a n c) (ints v)) :
    Calls Tryz.prog 144 #[.slice a n c] w (NwR v w) := by
  obtain ⟨i0, hi0, hz0, hz1, hz2⟩ := info_parts infoI
  have HV := Lib.hid hv
  have HL := Lib.hid hl
  have HP := Lib.hid hp
  have H0 := Lib.hid (show Own w.heap.size (w.alloc (.cells #[] 2)) (.slice (some ⟨w.heap.size, 0, none⟩) 0 0) (nwF 0 (v.take 0)) from World.ownsRow_made (base := w.heap.size) (e := 2) (size := 1) w #[] 0 (Nat.le_refl _) (Nat.zero_le _) rfl)
  clear hv hl hp
  go_enter Tryz.func144, Tryz.ntmps144
  go_wp2_with fail
  go_loopw [3, 4] (fun ov iv wr => ∃ (i : Nat) (ao : Option Addr) (m co : Nat), i ≤ n ∧ iv = .int .i64 (i : Int) ∧ ov = .slice ao m co ∧ m ≤ i * 100 ∧ Hid (m = (nwF 0 (v.take i)).length ∧ Own w.heap.size wr (.slice ao m co) (nwF 0 (v.take i))) ∧ Hid (Below w.heap.size w wr)) (fun _ iv _ => n - (intOf iv).toNat)
  case atStart => exact ⟨0, _, _, _, Nat.zero_le _, rfl, rfl, Nat.le_refl _, Lib.hid ⟨rfl, H0.out⟩, Lib.hid ((Below.refl _ _).alloc (Nat.le_refl _) _)⟩
  case round =>
    clear H0
    obtain ⟨i, ao, m, co, hi, rfl, rfl, hm, hO, hB⟩ := hrel
    by_cases hlt : i < n
    · have hki : (i : Int) < (n : Int) := by omega
      have hki0 : (0 : Int) ≤ (i : Int) := by omega
      obtain ⟨x, hx⟩ : ∃ x, v[i]? = some x := ⟨_, List.getElem?_eq_getElem (by rw [HL.out]; exact hlt)⟩
      have hx1 := HP.out x (List.mem_of_getElem? hx)
      have hxi : (ints v)[i]? = some (x : Int) := by rw [ints_get, hx]; rfl
      have HTK := Lib.hid (show nwF 0 (v.take (i + 1)) = nwF 0 (v.take i) ++ List.replicate x ((i : Int) + 1) from by
        rw [List.take_add_one, hx]
        show nwF 0 (v.take i ++ [x]) = _
        rw [nwF_app]
        have e : 0 + (v.take i).length = i := by rw [List.length_take, HL.out]; omega
        rw [e]; simp [nwF])
      obtain ⟨b, o, hb⟩ : ∃ b o, a = some ⟨b, o, none⟩ := by
        obtain ⟨b, o, u, e, _⟩ := slg_get HV.out hxi
        exact ⟨b, o, e⟩
      subst hb
      have HC := Lib.hid (fun (W : World) (hb : Below w.heap.size w W) => show W.cell? ⟨b, o + i, none⟩ = some (.int .i64 (x : Int)) ∧ b < W.heap.size from by
        obtain ⟨b', o', u, e, _, hbl, hcu, rfl⟩ := slg_get (HV.out.keep (Keep.of_below hb)) hxi
        simp only [Option.some.injEq, Addr.mk.injEq, and_true] at e
        obtain ⟨rfl, rfl⟩ := e
        exact ⟨hcu, hbl⟩)
      obtain ⟨hcu, hbl⟩ := HC.out _ hB.out
      have hw1 : IntKind.i64.wrap ((i : Int) + 1) = (i : Int) + 1 := IntWalk.i64_in _ (by omega)
      have HI := Lib.hid (show ∃ (q : Nat) (ao' : Option Addr) (m' co' : Nat), q ≤ x ∧ m' ≤ i * 100 + q ∧ Value.int .i64 0 = .int .i64 (q : Int) ∧ Value.slice ao m co = .slice ao' m' co' ∧ Hid (m' = (nwF 0 (v.take i) ++ List.replicate q ((i : Int) + 1)).length ∧ Own w.heap.size wr (.slice ao' m' co') (nwF 0 (v.take i) ++ List.replicate q ((i : Int) + 1))) ∧ Hid (Below w.heap.size w wr) from
        ⟨0, ao, m, co, Nat.zero_le _, by omega, rfl, rfl, Lib.hid (by rw [List.replicate_zero, List.append_nil]; exact hO.out), hB⟩)
      clear hx hO hB hxi
      go_wp2_with fail
      go_loopw [3, 5] (fun ov qv wr => ∃ (q : Nat) (ao : Option Addr) (m co : Nat), q ≤ x ∧ m ≤ i * 100 + q ∧ qv = .int .i64 (q : Int) ∧ ov = .slice ao m co ∧ Hid (m = (nwF 0 (v.take i) ++ List.replicate q ((i : Int) + 1)).length ∧ Own w.heap.size wr (.slice ao m co) (nwF 0 (v.take i) ++ List.replicate q ((i : Int) + 1))) ∧ Hid (Below w.heap.size w wr)) (fun _ qv _ => x - (intOf qv).toNat)
      case atStart => exact HI.out
      case round =>
        clear HI hcu hbl
        obtain ⟨q, ao, m, co, hq, hm, rfl, rfl, hO, hB⟩ := hrel
        obtain ⟨hcu, hbl⟩ := HC.out _ hB.out
        by_cases hlt2 : q < x
        · have hkq : (q : Int) < (x : Int) := by omega
          have hw2 : IntKind.i64.wrap ((q : Int) + 1) = (q : Int) + 1 := IntWalk.i64_in _ (by omega)
          obtain ⟨xs, hxs⟩ : ∃ xs, nwF 0 (v.take i) ++ List.replicate q ((i : Int) + 1) = xs := ⟨_, rfl⟩
          have HXS := Lib.hid (show nwF 0 (v.take i) ++ List.replicate (q + 1) ((i : Int) + 1) = xs ++ [(i : Int) + 1] from by rw [← hxs, List.replicate_succ', List.append_assoc])
          rw [hxs] at hO
          have HM := Lib.hid hO.out.1
          have hO2 := hO.out.2
          unfold Own at hO2
          rw [← HM.out] at hO2
          have a1 := ownsRow_keep hO2 (S := fun _ => True) ((Keep.refl _ wr).alloc (.cells #[.int .i64 ((i : Int) + 1)] 2)) (fun _ _ => trivial)
          have hBs := hB.out.size
          clear hO hO2 hxs
          go_wp2_with (at_builtin; (refine wpList_append_lies _ rfl _ _ 87 rfl w.heap.size 2 i0 (.int .i64 0) 1 8 Tryz.underlying87 hi0 hz0 hz1 hz2 rfl (by decide) _ _ _ rfl a1 ⟨wr.heap.size, 0, none⟩ 1 1 [.int .i64 ((i : Int) + 1)] rfl rfl (World.news_of_block (cs := #[.int .i64 ((i : Int) + 1)]) (t := 2) (fr := (0, 0)) (heap_alloc_new wr _)) (by simp [Value.oneCell']) (by decide) (by unfold maxLen; omega) (by omega) (by simp; omega) _ rfl ?_))
          intro g2 cap2 w6 hown2 hgrow2 hat2 hlt2
          have HB6 := Lib.hid ((hB.out.alloc hBs (.cells #[.int .i64 ((i : Int) + 1)] 2)).grown hgrow2 (by simp; omega) (fun g hg => (World.ownsRow.lt a1 g hg).1))
          have HO6 := Lib.hid (show m + 1 = (nwF 0 (v.take i) ++ List.replicate (q + 1) ((i : Int) + 1)).length ∧ Own w.heap.size w6 (.slice (some ⟨g2, 0, none⟩) (m + 1) cap2) (nwF 0 (v.take i) ++ List.replicate (q + 1) ((i : Int) + 1)) from by
            rw [HXS.out]
            have e : (xs ++ [(i : Int) + 1]).length = m + 1 := by rw [List.length_append, ← HM.out]; rfl
            refine ⟨e.symm, ?_⟩
            unfold Own
            rw [e]
            simpa [vals] using hown2)
          clear a1 hown2 hgrow2 hat2 hlt2 hB hBs hcu hbl
          go_wp2_with fail
          go_roundw
          case rel => exact ⟨q + 1, _, m + 1, cap2, by omega, by omega, by go_num, rfl, HO6, HB6⟩
          case measure => simp [intOf]; omega
        · obtain rfl : q = x := by omega
          have hnl : ¬ (q : Int) < (q : Int) := by omega
          rw [← HTK.out] at hO
          have hmm : m ≤ (i + 1) * 100 := by omega
          go_wp2_with fail
          go_roundw
          case rel => exact ⟨i + 1, _, m, co, by omega, by go_num, rfl, hmm, hO, hB⟩
          case measure => simp [intOf]; omega
    · obtain rfl : n = i := by omega
      have hnl : ¬ (n : Int) < (n : Int) := by omega
      have HF := Lib.hid (show NwR v w (.returned (.slice ao m co)) wr from ⟨_, rfl, by
        have := hO.out.2
        rwa [List.take_of_length_le (by rw [HL.out]; exact Nat.le_refl _)] at this, hB.out⟩)
      clear hO hB
      go_wp2_with fail
      go_ret
      exact HF.out
end Go.Proofs.YtbamkklhkhglnaaGreatDoor.TwA
