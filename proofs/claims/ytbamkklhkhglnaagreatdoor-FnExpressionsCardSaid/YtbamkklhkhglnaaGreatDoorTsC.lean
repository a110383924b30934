import Derived.Test.YtbamkklhkhglnaaGreatDoorTsA
import Derived.Test.YtbamkklhkhglnaaGreatDoorSplit
import Derived.Test.YtbamkklhkhglnaaGreatDoorSpecVW
/-
  spec.l01Value, l07Orders, with values.
-/
namespace Go.Proofs.YtbamkklhkhglnaaGreatDoor.TsC
open Go.RowKit Go.Lib Go.Proofs.YtbamkklhkhglnaaGreatDoor Go.Proofs.YtbamkklhkhglnaaGreatDoor.Tow Go.Proofs.YtbamkklhkhglnaaGreatDoor.CyA Go.Proofs.YtbamkklhkhglnaaGreatDoor.NumPlain Go.Proofs.YtbamkklhkhglnaaGreatDoor.SplitPlain Go.Proofs.YtbamkklhkhglnaaGreatDoor.TxA Go.Proofs.YtbamkklhkhglnaaGreatDoor.TxB Go.Proofs.YtbamkklhkhglnaaGreatDoor.TxC Go.Proofs.YtbamkklhkhglnaaGreatDoor.TmA Go.Proofs.YtbamkklhkhglnaaGreatDoor.TiA Go.Proofs.YtbamkklhkhglnaaGreatDoor.Val
set_option linter.unusedVariables false
set_option linter.unusedSimpArgs false

def Bad0 (s : ByteArray) : Prop := s.size = 0 ∨ 6 < s.size ∨ (1 < s.size ∧ s.data.toList.head? = some 48)
theorem vS_bad0 {s : ByteArray} (h : Bad0 s) : vS s.data.toList = -1 := by
  unfold vS
  rw [if_pos]
  rcases h with h | h | ⟨h1, h2⟩
  · exact .inl (List.eq_nil_of_length_eq_zero (by simpa using h))
  · exact .inr (.inl (by simpa using h))
  · exact .inr (.inr (.inl ⟨by simpa using h1, h2⟩))
theorem vS_dig {s : ByteArray} {k : Nat} {d : UInt8} (hk : s.data.toList[k]? = some d) (h : isDig d = false) : vS s.data.toList = -1 := by
  unfold vS
  rw [if_pos]
  refine .inr (.inr (.inr fun ha => ?_))
  have := List.all_eq_true.1 ha d (List.mem_of_getElem? hk)
  rw [h] at this
  exact absurd this (by simp)
theorem vS_good {s : ByteArray} (h : ¬ Bad0 s) (hd : s.data.toList.all isDig = true) : vS s.data.toList = (NumPlain.val s.data.toList : Int) := by
  unfold vS
  rw [if_neg]
  intro hb
  apply h
  rcases hb with hb | hb | ⟨h1, h2⟩ | hb
  · left; have := congrArg List.length hb; simpa using this
  · right; left; simpa using hb
  · right; right; exact ⟨by simpa using h1, h2⟩
  · exact absurd hd hb
set_option maxHeartbeats 2000000 in
theorem value_any (s : ByteArray) (w : World) : Calls Tryz.prog 131 #[.string s] w fun e w' => e = .returned (.int .i64 (vS s.data.toList)) ∧ w' = w := by
  go_enter Tryz.func131, Tryz.ntmps131
  go_upto_region 1 with fail
  go_cut [22] (fun v W => (∃ b, v = .bool b ∧ (b = true ↔ Bad0 s)) ∧ W = w)
  case first =>
    by_cases h0 : s.size = 0
    · have hz : ((s.size : Int) == 0) = true := by rw [h0]; rfl
      go_wp2_with fail
      go_meet
      exact ⟨⟨_, rfl, fun _ => .inl h0, fun _ => rfl⟩, rfl⟩
    · have hz : ((s.size : Int) == 0) = false := beq_eq_false_iff_ne.2 (by omega)
      by_cases h6 : 6 < s.size
      · have h6i : (6 : Int) < (s.size : Int) := by omega
        go_wp2_with fail
        go_meet
        exact ⟨⟨_, rfl, fun _ => .inr (.inl h6), fun _ => rfl⟩, rfl⟩
      · have h6i : ¬ (6 : Int) < (s.size : Int) := by omega
        by_cases h1 : 1 < s.size
        · have h1i : (1 : Int) < (s.size : Int) := by omega
          have hpos : 0 < s.size := by omega
          have hhd : s.data.toList.head? = some s[0] := by rw [List.head?_eq_getElem?]; exact data_getElem? s 0 hpos
          by_cases h48 : s[0] = 48
          · have HB := Lib.hid (show Bad0 s from .inr (.inr ⟨h1, by rw [hhd, h48]⟩))
            have hy : (s[0].toNat : Int) = 48 := by rw [h48]; rfl
            have hy2 : ((s[0].toNat : Int) == 48) = true := by rw [hy]; rfl
            clear h48 hhd hy
            go_wp2_with fail
            go_meet
            exact ⟨⟨_, rfl, fun _ => HB.out, fun _ => rfl⟩, rfl⟩
          · have HB := Lib.hid (show ¬ Bad0 s from fun h => by
              rcases h with h | h | ⟨_, h⟩
              · exact h0 h
              · exact h6 h
              · rw [hhd] at h; exact h48 (Option.some.inj h))
            have hy2 : ((s[0].toNat : Int) == 48) = false := beq_eq_false_iff_ne.2 fun e => h48 (UInt8.toNat_inj.1 (by show s[0].toNat = 48; omega))
            clear h48 hhd
            go_wp2_with fail
            go_meet
            exact ⟨⟨_, rfl, fun h => absurd h (by simp), fun h => absurd h HB.out⟩, rfl⟩
        · have h1i : ¬ (1 : Int) < (s.size : Int) := by omega
          have HB := Lib.hid (show ¬ Bad0 s from fun h => by
            rcases h with h | h | ⟨h, _⟩
            · exact h0 h
            · exact h6 h
            · exact h1 h)
          go_wp2_with fail
          go_meet
          exact ⟨⟨_, rfl, fun h => absurd h (by simp), fun h => absurd h HB.out⟩, rfl⟩
  case rest =>
    obtain ⟨⟨b, rfl, hb⟩, rfl⟩ := hcut
    cases b with
    | true =>
      have HV := Lib.hid (vS_bad0 (hb.1 rfl))
      clear hb
      go_wp2_with fail
      go_ret
      exact ⟨by rw [HV.out]; rfl, rfl⟩
    | false =>
      have HNB := Lib.hid (show ¬ Bad0 s from fun h => by have := hb.2 h; simp at this)
      have hs6 : s.size ≤ 6 := by
        apply Nat.le_of_not_lt
        intro h
        exact HNB.out (.inr (.inl h))
      clear hb
      go_wp2_with fail
      go_loopw [3, 4] (fun nv iv wr => ∃ (n i : Nat), i ≤ s.size ∧ n ≤ 999999 ∧ nv = .int .i64 (n : Int) ∧ iv = .int .i64 (i : Int) ∧ Hid (n = NumPlain.val (s.data.toList.take i) ∧ (s.data.toList.take i).all isDig = true) ∧ wr = wc) (fun _ iv _ => s.size - (intOf iv).toNat)
      case atStart => exact ⟨0, 0, Nat.zero_le _, Nat.zero_le _, rfl, rfl, Lib.hid ⟨rfl, by simp⟩, rfl⟩
      case round =>
        obtain ⟨n, i, hi, hn, rfl, rfl, hN, rfl⟩ := hrel
        by_cases hlt : i < s.size
        · have hki : (i : Int) < (s.size : Int) := by omega
          have hki0 : (0 : Int) ≤ (i : Int) := by omega
          have hzz : s.data.toList[i]? = some s[i] := data_getElem? s i hlt
          have HZZ := Lib.hid hzz
          have hy8 : s[i].toNat < 256 := s[i].toNat_lt
          obtain ⟨y, hy⟩ : ∃ y : Nat, s[i].toNat = y := ⟨_, rfl⟩
          rw [hy] at hy8
          have HY := Lib.hid hy
          clear hzz
          by_cases hdg : isDig s[i] = true
          · have h48 : 48 ≤ y ∧ y ≤ 57 := by unfold isDig at hdg; rw [hy] at hdg; simp at hdg; exact hdg
            have t1 : decide ((y : Int) < 48) = false := decide_eq_false (by omega)
            have t2 : decide ((57 : Int) < (y : Int)) = false := decide_eq_false (by omega)
            have w1 : IntKind.i64.wrap (10 * (n : Int)) = 10 * (n : Int) := IntWalk.i64_in _ (by omega)
            have w2 : ((y : Int) - 48) % 256 = (y : Int) - 48 := by omega
            have w3 : IntKind.i64.wrap ((y : Int) - 48) = (y : Int) - 48 := IntWalk.i64_in _ (by omega)
            have w4 : IntKind.i64.wrap (10 * (n : Int) + ((y : Int) - 48)) = ((10 * n + (y - 48) : Nat) : Int) := by rw [IntWalk.i64_in _ (by omega)]; omega
            have HT := Lib.hid (show s.data.toList.take (i + 1) = s.data.toList.take i ++ [s[i]] from by rw [List.take_add_one, HZZ.out]; rfl)
            have HN2 := Lib.hid (show 10 * n + (y - 48) = NumPlain.val (s.data.toList.take (i + 1)) ∧ (s.data.toList.take (i + 1)).all isDig = true from by
              rw [HT.out, val_snoc, ← hN.out.1, HY.out]
              exact ⟨rfl, by rw [List.all_append, hN.out.2]; simp [hdg]⟩)
            have HLT := Lib.hid (show 10 * n + (y - 48) ≤ 999999 from by
              have h1 := val_lt _ HN2.out.2
              rw [← HN2.out.1] at h1
              have h2 : (s.data.toList.take (i + 1)).length ≤ 6 := by rw [List.length_take]; simp; omega
              have h3 : 10 ^ (s.data.toList.take (i + 1)).length ≤ 10 ^ 6 := Nat.pow_le_pow_right (by omega) h2
              omega)
            obtain ⟨z, hz⟩ : ∃ z, 10 * n + (y - 48) = z := ⟨_, rfl⟩
            rw [hz] at w4 HN2 HLT
            clear hN hdg h48 hz
            go_wp2_with fail
            go_roundw
            case rel => exact ⟨z, i + 1, by omega, HLT.out, rfl, by go_num, HN2, trivial⟩
            case measure => simp [intOf]; omega
          · have HV := Lib.hid (vS_dig HZZ.out (by simpa using hdg))
            have h48 : y < 48 ∨ (¬ y < 48 ∧ 57 < y) := by unfold isDig at hdg; rw [hy] at hdg; simp at hdg; omega
            clear hN hdg
            rcases h48 with h48 | ⟨h48, h57⟩
            · have t1 : decide ((y : Int) < 48) = true := decide_eq_true (by omega)
              clear h48
              go_wp2_with fail
              go_ret
              exact ⟨by rw [HV.out]; rfl, rfl⟩
            · have t1 : decide ((y : Int) < 48) = false := decide_eq_false (by omega)
              have t2 : decide ((57 : Int) < (y : Int)) = true := decide_eq_true (by omega)
              clear h48 h57
              go_wp2_with fail
              go_ret
              exact ⟨by rw [HV.out]; rfl, rfl⟩
        · obtain rfl : i = s.size := by omega
          have HV := Lib.hid (show vS s.data.toList = (n : Int) from by
            obtain ⟨h1, h2⟩ := hN.out
            rw [List.take_of_length_le (by simp)] at h1 h2
            rw [vS_good HNB.out h2, ← h1])
          clear hN
          go_wp2_with fail
          go_ret
          exact ⟨by rw [HV.out]; rfl, rfl⟩
/-- the orders that are read -/
def OrS (t : List UInt8) (w : World) (e : Ending) (w' : World) : Prop := ∃ v b, e = .returned (.tuple #[v, .bool b]) ∧ Below w.heap.size w w' ∧ ((b = true ∧ ∃ os, ordS t = some os ∧ Own w.heap.size w' v os) ∨ (b = false ∧ ordS t = none))
theorem ordS_bad {t : List UInt8} (h1 : t ≠ [49]) (h : ¬ ((∀ w ∈ spL 32 t, primeB (vS w) = true) ∧ (spL 32 t).length ≤ 6 ∧ prodI ((spL 32 t).map vS) ≤ 729)) : ordS t = none := by
  unfold ordS
  rw [if_neg h1, if_neg h]
theorem str_at {B n : Nat} {w : World} {v : Value} {L : List ByteArray} (h : w.ownsRow B 9 1 v n (L.map Value.string)) {i : Nat} {t : ByteArray} (hi : L[i]? = some t) :
    ∃ g c, v = .slice (some ⟨g, 0, none⟩) n c ∧ w.cell? ⟨g, i, none⟩ = some (.string t) ∧ g < w.heap.size := by
  have hil := (List.getElem?_eq_some_iff.1 hi).1
  have hl : L.length = n := by have := h.1; simpa using this
  rcases h.2 with ⟨_, h0⟩ | ⟨g, cap, cu, h', hB, hg, _⟩
  · omega
  · have := World.ownsRow.cells h (g := g) (by rw [h']; rfl) i (.string t) (by simp [hi])
    rw [addr_add, Nat.zero_add] at this
    exact ⟨g, cap, h', this, (Array.getElem?_eq_some_iff.1 hg).1⟩
set_option maxRecDepth 100000 in
set_option maxHeartbeats 2000000 in
theorem orders_any (s : ByteArray) (hs : s.size ≤ 100000000) (w : World) : Calls Tryz.prog 105 #[.string s] w (OrS s.data.toList w) := by
  obtain ⟨i0, hi0, hz0, hz1, hz2⟩ := info_parts infoI
  have HL0 := Lib.hid (World.ownsRow_made (base := w.heap.size) (e := 2) (size := 1) w #[] 0 (Nat.le_refl _) (Nat.zero_le _) rfl)
  cases ht : (s.toList == [49]) with
  | true =>
    have HR1 := Lib.hid (show OrS s.data.toList w (.returned (.tuple #[.slice (some ⟨w.heap.size, 0, none⟩) 0 0, .bool true])) (w.alloc (.cells #[] 2)) from
      ⟨_, true, rfl, (Below.refl _ _).alloc (Nat.le_refl _) _, .inl ⟨rfl, [], by
        unfold ordS
        rw [if_pos (by have := eq_of_beq ht; rwa [toList_data] at this)], HL0.out⟩⟩)
    go_enter Tryz.func105, Tryz.ntmps105
    go_wp2_with fail
    exact bodyPost_ret (v := .tuple #[.slice (some ⟨w.heap.size, 0, none⟩) 0 0, .bool true]) (by simp [results, Tryz.results105, go_sem]) rfl HR1.out
  | false =>
    have HT := Lib.hid (show s.data.toList ≠ [49] from fun e => by rw [toList_data, e] at ht; exact absurd ht (by decide))
    obtain ⟨L, hL⟩ : ∃ L, parts s 32 = L := ⟨_, rfl⟩
    have HSP := Lib.hid (fun W => Split.split_any s 32 W (by omega))
    have hpl := parts_length_le s 32
    have HSL := Lib.hid (show L.map (·.data.toList) = spL 32 s.data.toList from by rw [← hL]; exact parts_list s 32)
    rw [hL] at HSP hpl
    obtain ⟨n, hn⟩ : ∃ n, L.length = n := ⟨_, rfl⟩
    rw [hn] at HSP hpl
    have HLN := Lib.hid hn
    have h32 : ((32 : UInt8).toNat : Int) = 32 := rfl
    rw [h32] at HSP
    have hn64 : (n : Int) ≤ 100000001 := by omega
    clear hL hn h32
    go_enter Tryz.func105, Tryz.ntmps105
    go_wp2_with fail
    refine (HSP.out _).mono ?_
    rintro e w2 ⟨v, rfl, hO, hb2⟩
    have HOO := Lib.hid (ownsRow_mono (B' := w.heap.size) hO (by simp))
    have HB2 := Lib.hid (((Below.refl w.heap.size w).alloc (Nat.le_refl _) (.cells #[] 2)).trans (hb2.mono (by simp)))
    have HL2 := Lib.hid (ownsRow_keep HL0.out (S := fun _ => True) (Keep.of_below hb2) (fun _ _ => trivial))
    obtain ⟨av, cv, rfl, _⟩ := owns_form hO
    clear hO hb2 HL0 HSP
    go_wp2_with fail
    go_loopw [4, 6] (fun ov iv wr => ∃ (i : Nat) (a : Option Addr) (c : Nat), i ≤ n ∧ i ≤ 6 ∧ iv = .int .i64 (i : Int) ∧ ov = .slice a i c ∧ Hid (wr.ownsRow w.heap.size 2 1 (.slice a i c) i (vals (((L.map (·.data.toList)).take i).map vS)) ∧ ∀ x ∈ (L.map (·.data.toList)).take i, primeB (vS x) = true) ∧ Hid (wr.ownsRow w.heap.size 9 1 (.slice av n cv) n (L.map Value.string)) ∧ Hid (Below w.heap.size w wr)) (fun _ iv _ => n - (intOf iv).toNat)
    case atStart => exact ⟨0, _, _, Nat.zero_le _, by omega, rfl, rfl, Lib.hid ⟨HL2.out, fun x h => by simp at h⟩, HOO, HB2⟩
    case round =>
      clear HL2 HOO HB2
      obtain ⟨i, a, c, hi, hi6, rfl, rfl, hL, hO, HBA⟩ := hrel
      by_cases hlt : i < n
      · have hki : (i : Int) < (n : Int) := by omega
        have hki0 : (0 : Int) ≤ (i : Int) := by omega
        obtain ⟨t, hx⟩ : ∃ t, L[i]? = some t := ⟨_, List.getElem?_eq_getElem (by rw [HLN.out]; exact hlt)⟩
        obtain ⟨g, c', he, hc1, hgl⟩ := str_at hO.out hx
        obtain ⟨rfl, rfl⟩ : av = some ⟨g, 0, none⟩ ∧ cv = c' := by simpa using he
        have HVA := Lib.hid (fun W => value_any t W)
        have HXM := Lib.hid (show (L.map (·.data.toList))[i]? = some t.data.toList by simp [hx])
        have HTK := Lib.hid (show (L.map (·.data.toList)).take (i + 1) = (L.map (·.data.toList)).take i ++ [t.data.toList] from by rw [List.take_add_one, HXM.out]; rfl)
        obtain ⟨x, hxv⟩ : ∃ x, vS t.data.toList = x := ⟨_, rfl⟩
        rw [hxv] at HVA
        have HXV := Lib.hid hxv
        clear hx he hxv
        go_wp2_with fail
        refine (HVA.out _).mono ?_
        rintro e w3 ⟨rfl, rfl⟩
        have HPA := Lib.hid (fun W => SpecV.prime_any x W)
        go_wp2_with fail
        refine (HPA.out _).mono ?_
        rintro e w4 ⟨rfl, rfl⟩
        cases hpx : primeB x with
        | false =>
          have HN := Lib.hid (show OrS s.data.toList w (.returned (.tuple #[.slice none 0 0, .bool false])) w3 from ⟨_, false, rfl, HBA.out, .inr ⟨rfl, ordS_bad HT.out fun h => by
            have h1 := h.1 t.data.toList (by rw [← HSL.out]; exact List.mem_of_getElem? HXM.out)
            rw [HXV.out, hpx] at h1
            exact absurd h1 (by simp)⟩⟩)
          clear hL hO
          go_wp2_with fail
          exact bodyPost_ret (v := .tuple #[.slice none 0 0, .bool false]) (by simp [results, Tryz.results105, go_sem]) rfl HN.out
        | true =>
          by_cases h6 : 6 ≤ i
          · have h6i : (6 : Int) ≤ (i : Int) := by omega
            have HN := Lib.hid (show OrS s.data.toList w (.returned (.tuple #[.slice none 0 0, .bool false])) w3 from ⟨_, false, rfl, HBA.out, .inr ⟨rfl, ordS_bad HT.out fun h => by
              have h1 := h.2.1
              rw [← HSL.out, List.length_map, HLN.out] at h1
              omega⟩⟩)
            clear hL hO
            go_wp2_with fail
            exact bodyPost_ret (v := .tuple #[.slice none 0 0, .bool false]) (by simp [results, Tryz.results105, go_sem]) rfl HN.out
          · have h6i : ¬ (6 : Int) ≤ (i : Int) := by omega
            obtain ⟨h2, h3⟩ := hL.out
            obtain ⟨xs, hxs⟩ : ∃ xs, vals (((L.map (·.data.toList)).take i).map vS) = xs := ⟨_, rfl⟩
            rw [hxs] at h2
            have HXS := Lib.hid hxs
            have a1 := ownsRow_keep h2 (S := fun _ => True) ((Keep.refl _ w3).alloc (.cells #[.int .i64 x] 2)) (fun _ _ => trivial)
            have hBs := HBA.out.size
            have HH := Lib.hid (And.intro h3 hpx)
            clear h2 h3 hL hpx hxs
            go_wp2_with (at_builtin; (refine wpList_append_lies _ rfl _ _ 87 rfl w.heap.size 2 i0 (.int .i64 0) 1 8 Tryz.underlying87 hi0 hz0 hz1 hz2 rfl (by decide) _ _ _ rfl a1 ⟨w3.heap.size, 0, none⟩ 1 1 [.int .i64 x] rfl rfl (World.news_of_block (cs := #[.int .i64 x]) (t := 2) (fr := (0, 0)) (heap_alloc_new w3 _)) (by simp [Value.oneCell']) (by decide) (by unfold maxLen; omega) (by omega) (by simp; omega) _ rfl ?_))
            intro g2 cap2 w6 hown2 hgrow2 hat2 hlt2
            have HB6 := Lib.hid ((HBA.out.alloc hBs (.cells #[.int .i64 x] 2)).grown hgrow2 (by simp; omega) (fun g hg => (World.ownsRow.lt a1 g hg).1))
            have hO4 := ownsRow_keep hO.out (S := fun _ => True) ((Keep.refl _ w3).alloc (.cells #[.int .i64 x] 2)) (fun _ _ => trivial)
            have HO6 := Lib.hid (World.ownsRow.kept hO4 hgrow2 (rows_apart hO4 a1 (by decide)))
            clear hO4
            have HL6 := Lib.hid (show w6.ownsRow w.heap.size 2 1 (.slice (some ⟨g2, 0, none⟩) (i + 1) cap2) (i + 1) (vals (((L.map (·.data.toList)).take (i + 1)).map vS)) ∧ ∀ x ∈ (L.map (·.data.toList)).take (i + 1), primeB (vS x) = true from by
              rw [HTK.out]
              refine ⟨?_, fun y hy => ?_⟩
              · have e : vals (((L.map (·.data.toList)).take i ++ [t.data.toList]).map vS) = xs ++ [.int .i64 x] := by
                  rw [List.map_append, ← HXS.out, List.map_cons, List.map_nil, HXV.out]; simp [vals]
                rw [e]; exact hown2
              · rcases List.mem_append.1 hy with hy | hy
                · exact HH.out.1 y hy
                · obtain rfl : y = t.data.toList := by simpa using hy
                  rw [HXV.out]; exact HH.out.2)
            clear a1 hown2 hgrow2 hat2 hlt2 hO hBs HBA
            go_wp2_with fail
            go_roundw
            case rel => exact ⟨i + 1, _, cap2, by omega, by omega, by go_num, rfl, HL6, HO6, HB6⟩
            case measure => simp [intOf]; omega
      · obtain rfl : n = i := by omega
        have hnl : ¬ (n : Int) < (n : Int) := by omega
        obtain ⟨h2, h3⟩ := hL.out
        rw [List.take_of_length_le (by rw [List.length_map, HLN.out]; exact Nat.le_refl _), HSL.out] at h2 h3
        have HLEN := Lib.hid (show (spL 32 s.data.toList).length = n from by rw [← HSL.out, List.length_map]; exact HLN.out)
        have hown : Own w.heap.size wr (.slice a n c) ((spL 32 s.data.toList).map vS) := by
          unfold Own
          rw [List.length_map, HLEN.out]
          exact h2
        have HPR := Lib.hid (SpecV.product_any wr _ _ (hown.sl.mono fun _ _ => trivial) (fun x hx => by
          obtain ⟨y, hy, rfl⟩ := List.mem_map.1 hx
          exact h3 y hy))
        have HN := Lib.hid (fun (r : Int) (hr : r ≤ 729 ↔ prodI ((spL 32 s.data.toList).map vS) ≤ 729) => show OrS s.data.toList w (.returned (.tuple #[.slice a n c, .bool (decide (r ≤ 729))])) wr from by
          by_cases h7 : r ≤ 729
          · refine ⟨_, _, rfl, HBA.out, .inl ⟨decide_eq_true h7, _, ?_, hown⟩⟩
            unfold ordS
            rw [if_neg HT.out, if_pos ⟨h3, by rw [HLEN.out]; exact hi6, hr.1 h7⟩]
          · exact ⟨_, _, rfl, HBA.out, .inr ⟨decide_eq_false h7, ordS_bad HT.out fun h => h7 (hr.2 h.2.2)⟩⟩)
        clear h2 h3 hL hO hown
        go_wp2_with fail
        refine HPR.out.mono ?_
        rintro e w3 ⟨r, rfl, hr, -, rfl⟩
        have HR := Lib.hid (HN.out r hr)
        clear hr
        go_wp2_with fail
        exact bodyPost_ret (v := .tuple #[.slice a n c, .bool (decide (r ≤ 729))]) (by simp [results, Tryz.results105, go_sem]) rfl HR.out
end Go.Proofs.YtbamkklhkhglnaaGreatDoor.TsC
