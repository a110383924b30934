import Derived.Test.YtbamkklhkhglnaaGreatDoorTiB
import Derived.Deep.RegionLaw
/-
  spec.l06Parse, l07Vector, with values.
-/
namespace Go.Proofs.YtbamkklhkhglnaaGreatDoor.TsA
open Go.RowKit Go.Lib Go.Proofs.YtbamkklhkhglnaaGreatDoor Go.Proofs.YtbamkklhkhglnaaGreatDoor.Tow Go.Proofs.YtbamkklhkhglnaaGreatDoor.CyA Go.Proofs.YtbamkklhkhglnaaGreatDoor.TxA Go.Proofs.YtbamkklhkhglnaaGreatDoor.TxB Go.Proofs.YtbamkklhkhglnaaGreatDoor.TxC Go.Proofs.YtbamkklhkhglnaaGreatDoor.TmA Go.Proofs.YtbamkklhkhglnaaGreatDoor.TiA Go.Proofs.YtbamkklhkhglnaaGreatDoor.TiB
open Go.Proofs.YtbamkklhkhglnaaGreatDoor.DwB (in_T in_F mkE)
set_option linter.unusedVariables false
set_option linter.unusedSimpArgs false

theorem inD_any (x lo hi : Int) (w : World) : Calls Tryz.prog 168 #[.int .i64 x, .int .i64 lo, .int .i64 hi] w fun e w' => e = .returned (.bool (decide (lo ≤ x ∧ x ≤ hi))) ∧ w' = w := by
  by_cases h : lo ≤ x ∧ x ≤ hi
  · rw [decide_eq_true h]; exact in_T x lo hi h.1 h.2 w
  · rw [decide_eq_false h]; exact in_F x lo hi h w
theorem ok_small {n : Nat} {b : UInt8} (hn : n ≤ 20) : okL n b ↔ (1 ≤ (b.toNat : Int) - 97 + 1 ∧ (b.toNat : Int) - 97 + 1 ≤ n) ∨ (¬ (1 ≤ (b.toNat : Int) - 97 + 1 ∧ (b.toNat : Int) - 97 + 1 ≤ n) ∧ 1 ≤ (b.toNat : Int) - 65 + 1 ∧ (b.toNat : Int) - 65 + 1 ≤ n) := by
  unfold okL lv
  constructor
  · intro ⟨h1, h2, h3, h4⟩
    split at h2 <;> rename_i h5 <;> simp only [h5, if_true, if_false] at h3 h4 <;> omega
  · intro h
    by_cases h5 : b.toNat < 97
    · simp only [h5, if_true]; omega
    · simp only [h5, if_false]; omega
set_option maxRecDepth 100000 in
set_option maxHeartbeats 2000000 in
theorem sparse_any (n : Nat) (hn : n ≤ 20) (s : ByteArray) (hs : s.size ≤ 100000000) (w : World) :
    Calls Tryz.prog 136 #[.int .i64 (n : Int), .string s] w (RwR n s.data.toList w) := by
  obtain ⟨i0, hi0, hz0, hz1, hz2⟩ := info_parts infoI
  have H0 := Lib.hid (World.ownsRow_made (base := w.heap.size) (e := 2) (size := 1) w #[] 0 (Nat.le_refl _) (Nat.zero_le _) rfl)
  cases ht : (s.toList == [49]) with
  | true =>
    have HR := Lib.hid (show RwR n s.data.toList w (.returned (.tuple #[.slice (some ⟨w.heap.size, 0, none⟩) 0 0, .bool true])) (w.alloc (.cells #[] 2)) from
      ⟨_, [], true, rfl, H0.out, (Below.refl _ _).alloc (Nat.le_refl _) _, Nat.zero_le _, .inl ⟨by have := eq_of_beq ht; rwa [toList_data] at this, rfl, rfl⟩⟩)
    clear hs H0
    go_enter Tryz.func136, Tryz.ntmps136
    go_wp2_with fail
    exact bodyPost_ret (v := .tuple #[.slice (some ⟨w.heap.size, 0, none⟩) 0 0, .bool true]) (by simp [results, Tryz.results136, go_sem]) rfl HR.out
  | false =>
    have HT := Lib.hid (show s.data.toList ≠ [49] from fun e => by rw [toList_data, e] at ht; exact absurd ht (by decide))
    have HS := Lib.hid hs
    have hs63 : (s.size : Int) ≤ 100000000 := by omega
    clear hs
    go_enter Tryz.func136, Tryz.ntmps136
    go_wp2_with fail
    go_loopw [6, 7] (fun ov iv wr => ∃ (k : Nat) (a : Option Addr) (cp : Nat), k ≤ s.size ∧ iv = .int .i64 (k : Int) ∧ ov = .slice a k cp ∧ Hid (Own w.heap.size wr (.slice a k cp) ((s.data.toList.take k).map lv) ∧ ∀ x ∈ s.data.toList.take k, okL n x) ∧ Hid (Below w.heap.size w wr)) (fun _ iv _ => s.size - (intOf iv).toNat)
    case atStart => exact ⟨0, _, _, Nat.zero_le _, rfl, rfl, Lib.hid ⟨H0.out, fun x h => by simp at h⟩, Lib.hid ((Below.refl _ _).alloc (Nat.le_refl _) _)⟩
    case round =>
      clear H0
      obtain ⟨k, a, cp, hk, rfl, rfl, hO, hB⟩ := hrel
      have hlen : ((s.data.toList.take k).map lv).length = k := by simp; omega
      by_cases hlt : k < s.size
      · have hzz : s.data.toList[k]? = some s[k] := data_getElem? s k hlt
        have hmem : s[k] ∈ s.data.toList := List.mem_of_getElem? hzz
        have HTK := Lib.hid (show s.data.toList.take (k + 1) = s.data.toList.take k ++ [s[k]] from by rw [List.take_add_one, hzz]; rfl)
        have hy8 : s[k].toNat < 256 := s[k].toNat_lt
        have HBAD := Lib.hid (fun h => exps_bad (n := n) HT.out hmem h)
        have HOK := Lib.hid (ok_small (n := n) (b := s[k]) hn)
        have HLV := Lib.hid (show lv s[k] = if s[k].toNat < 97 then 64 - (s[k].toNat : Int) else (s[k].toNat : Int) - 96 from rfl)
        obtain ⟨y, hy⟩ : ∃ y : Nat, s[k].toNat = y := ⟨_, rfl⟩
        rw [hy] at hy8 HOK HLV
        obtain ⟨d, hd⟩ : ∃ d, s[k] = d := ⟨_, rfl⟩
        rw [hd] at HTK HBAD HOK HLV
        have HD := Lib.hid hd
        clear hd hzz hmem
        have hki : (k : Int) < (s.size : Int) := by omega
        have hki0 : (0 : Int) ≤ (k : Int) := by omega
        have hw1 : IntKind.i64.wrap ((y : Int) - 97) = (y : Int) - 97 := IntWalk.i64_in _ (by omega)
        have hw2 : IntKind.i64.wrap ((y : Int) - 97 + 1) = (y : Int) - 97 + 1 := IntWalk.i64_in _ (by omega)
        have hw3 : IntKind.i64.wrap ((y : Int) - 65) = (y : Int) - 65 := IntWalk.i64_in _ (by omega)
        have hw4 : IntKind.i64.wrap ((y : Int) - 65 + 1) = (y : Int) - 65 + 1 := IntWalk.i64_in _ (by omega)
        have hw5 : IntKind.i64.wrap (-((y : Int) - 65 + 1)) = -((y : Int) - 65 + 1) := IntWalk.i64_in _ (by omega)
        have hw6 : IntKind.i64.wrap (y : Int) = (y : Int) := IntWalk.i64_in _ (by omega)
        go_upto_region 7 with fail
        go_cut [8, 9] (fun u v W => u = .int .i64 ((y : Int) - 97 + 1) ∧ v = .int .i64 ((y : Int) - 65 + 1) ∧ W = wr.drew)
        case first =>
          go_region_law (fail)
          all_goals
            go_wp2_with fail
            go_meet
            exact ⟨rfl, rfl, rfl⟩
        case rest =>
          obtain ⟨rfl, rfl, rfl⟩ := hcut
          have hO1 := hO.out.1
          unfold Own at hO1
          rw [hlen] at hO1
          obtain ⟨xs, hxs⟩ : ∃ xs, vals ((s.data.toList.take k).map lv) = xs := ⟨_, rfl⟩
          rw [hxs] at hO1
          have HXS := Lib.hid hxs
          have HA := Lib.hid (fun z => ownsRow_keep hO1 (S := fun _ => True) (((Keep.refl _ wr).drew).alloc (.cells #[.int .i64 z] 2)) (fun _ _ => trivial))
          have HOA := Lib.hid hO.out.2
          have HBr := Lib.hid hB.out
          clear hO hB hO1 hxs hlen
          have key : ∀ z : Int, lv d = z → okL n d → ∀ (g2 cap2 : Nat) (w6 : World), w6.ownsRow w.heap.size 2 1 (.slice (some ⟨g2, 0, none⟩) (k + 1) cap2) (k + 1) (xs ++ [.int .i64 z]) → Own w.heap.size w6 (.slice (some ⟨g2, 0, none⟩) (k + 1) cap2) ((s.data.toList.take (k + 1)).map lv) ∧ ∀ x ∈ s.data.toList.take (k + 1), okL n x := by
            intro z hz hok g2 cap2 w6 ho
            rw [HTK.out]
            refine ⟨?_, fun x hx => ?_⟩
            · have e1 : (((s.data.toList.take k ++ [d]).map lv)).length = k + 1 := by simp; omega
              unfold Own
              rw [e1]
              have e2 : vals ((s.data.toList.take k ++ [d]).map lv) = vals ((s.data.toList.take k).map lv) ++ [.int .i64 z] := by
                rw [← hz]; simp [vals]
              rw [e2, HXS.out]
              exact ho
            · rcases List.mem_append.1 hx with hx | hx
              · exact HOA.out x hx
              · obtain rfl : x = d := by simpa using hx
                exact hok
          have KEY := Lib.hid key
          clear key
          by_cases h1 : 1 ≤ (y : Int) - 97 + 1 ∧ (y : Int) - 97 + 1 ≤ n
          · have hd1 : decide (1 ≤ (y : Int) - 97 + 1 ∧ (y : Int) - 97 + 1 ≤ n) = true := decide_eq_true h1
            have HK := Lib.hid (KEY.out ((y : Int) - 97 + 1) (by rw [HLV.out, if_neg (by omega)]; omega) (HOK.out.2 (.inl h1)))
            clear h1
            go_wp2_with (first | (go_at_call 168; refine (inD_any _ _ _ _).mono ?_; rintro e w5 ⟨rfl, rfl⟩; rw [hd1]) | (at_builtin; (refine wpList_append_lies _ rfl _ _ 87 rfl w.heap.size 2 i0 (.int .i64 0) 1 8 Tryz.underlying87 hi0 hz0 hz1 hz2 rfl (by decide) _ _ _ rfl (HA.out ((y : Int) - 97 + 1)) ⟨wr.heap.size, 0, none⟩ 1 1 [.int .i64 ((y : Int) - 97 + 1)] rfl rfl (World.news_of_block (cs := #[.int .i64 ((y : Int) - 97 + 1)]) (t := 2) (fr := (0, 0)) (heap_alloc_new wr.drew _)) (by simp [Value.oneCell']) (by decide) (by unfold maxLen; omega) (by omega) (by have := HBr.out.size; simp; omega) _ rfl ?_)) | fail)
            intro g2 cap2 w6 hown2 hgrow2 hat2 hlt2
            have HB6 := Lib.hid (((HBr.out.drew).alloc HBr.out.size (.cells #[.int .i64 ((y : Int) - 97 + 1)] 2)).grown hgrow2 (by have := HBr.out.size; simp; omega) (fun g hg => (World.ownsRow.lt (HA.out ((y : Int) - 97 + 1)) g hg).1))
            have HL6 := Lib.hid (HK.out g2 cap2 w6 hown2)
            clear hown2 hgrow2 hat2 hlt2
            go_wp2_with fail
            go_roundw
            case rel => exact ⟨k + 1, _, cap2, by omega, by go_num, rfl, HL6, HB6⟩
            case measure => simp [intOf]; omega
          · have hd1 : decide (1 ≤ (y : Int) - 97 + 1 ∧ (y : Int) - 97 + 1 ≤ n) = false := decide_eq_false h1
            by_cases h2 : 1 ≤ (y : Int) - 65 + 1 ∧ (y : Int) - 65 + 1 ≤ n
            · have hd2 : decide (1 ≤ (y : Int) - 65 + 1 ∧ (y : Int) - 65 + 1 ≤ n) = true := decide_eq_true h2
              have HK := Lib.hid (KEY.out (-((y : Int) - 65 + 1)) (by rw [HLV.out, if_pos (by omega)]; omega) (HOK.out.2 (.inr ⟨h1, h2⟩)))
              clear h1 h2
              go_wp2_with (first | (go_at_call 168; refine (inD_any _ _ _ _).mono ?_; rintro e w5 ⟨rfl, rfl⟩; first | rw [hd1] | rw [hd2]) | (at_builtin; (refine wpList_append_lies _ rfl _ _ 87 rfl w.heap.size 2 i0 (.int .i64 0) 1 8 Tryz.underlying87 hi0 hz0 hz1 hz2 rfl (by decide) _ _ _ rfl (HA.out (-((y : Int) - 65 + 1))) ⟨wr.heap.size, 0, none⟩ 1 1 [.int .i64 (-((y : Int) - 65 + 1))] rfl rfl (World.news_of_block (cs := #[.int .i64 (-((y : Int) - 65 + 1))]) (t := 2) (fr := (0, 0)) (heap_alloc_new wr.drew _)) (by simp [Value.oneCell']) (by decide) (by unfold maxLen; omega) (by omega) (by have := HBr.out.size; simp; omega) _ rfl ?_)) | fail)
              intro g2 cap2 w6 hown2 hgrow2 hat2 hlt2
              have HB6 := Lib.hid (((HBr.out.drew).alloc HBr.out.size (.cells #[.int .i64 (-((y : Int) - 65 + 1))] 2)).grown hgrow2 (by have := HBr.out.size; simp; omega) (fun g hg => (World.ownsRow.lt (HA.out (-((y : Int) - 65 + 1))) g hg).1))
              have HL6 := Lib.hid (HK.out g2 cap2 w6 hown2)
              clear hown2 hgrow2 hat2 hlt2
              go_wp2_with fail
              go_roundw
              case rel => exact ⟨k + 1, _, cap2, by omega, by go_num, rfl, HL6, HB6⟩
              case measure => simp [intOf]; omega
            · have hd2 : decide (1 ≤ (y : Int) - 65 + 1 ∧ (y : Int) - 65 + 1 ≤ n) = false := decide_eq_false h2
              have HF := Lib.hid (show RwR n s.data.toList w (.returned (.tuple #[.slice none 0 0, .bool false])) wr.drew from ⟨_, [], false, rfl, World.ownsRow_nil _ _ _ _, HBr.out.drew, Nat.zero_le _, .inr (.inl ⟨HBAD.out (.inl fun h => by rcases HOK.out.1 h with h | ⟨_, h⟩; exact h1 h; exact h2 h), rfl, rfl⟩)⟩)
              clear h1 h2
              go_wp2_with (first | (go_at_call 168; refine (inD_any _ _ _ _).mono ?_; rintro e w5 ⟨rfl, rfl⟩; first | rw [hd1] | rw [hd2]) | fail)
              exact bodyPost_ret (v := .tuple #[.slice none 0 0, .bool false]) (by simp [results, Tryz.results136, go_sem]) rfl HF.out
      · obtain rfl : k = s.size := by omega
        have hall : s.data.toList.take s.size = s.data.toList := List.take_of_length_le (by simp)
        rw [hall] at hO
        have HF := Lib.hid (show RwR n s.data.toList w (.returned (.tuple #[.slice a s.size cp, .bool (decide (0 < s.size))])) wr from by
          refine ⟨_, s.data.toList.map lv, _, rfl, hO.out.1, hB.out, by simp, ?_⟩
          by_cases he : s.data.toList = []
          · have h0 : s.size = 0 := by have := congrArg List.length he; simpa using this
            refine .inr (.inl ⟨?_, by rw [he]; rfl, by simp [h0]⟩)
            unfold expsI
            rw [if_neg HT.out, if_pos (.inl he)]
          · have h0 : 0 < s.size := by
              apply Nat.pos_of_ne_zero
              intro h0
              exact he (List.eq_nil_of_length_eq_zero (by simpa using h0))
            exact .inr (.inr ⟨HT.out, he, rfl, hO.out.2, by simp [h0]⟩))
        clear hO hB hall
        go_wp2_with fail
        exact bodyPost_ret (v := .tuple #[.slice a s.size cp, .bool (decide (0 < s.size))]) (by simp [results, Tryz.results136, go_sem]) rfl HF.out
end Go.Proofs.YtbamkklhkhglnaaGreatDoor.TsA
