import Derived.Test.YtbamkklhkhglnaaGreatDoorTxC
import Derived.Test.YtbamkklhkhglnaaGreatDoorDwA
import Derived.Test.YtbamkklhkhglnaaGreatDoorImplVW
import Derived.Laws.IdiomStrings
import Derived.Deep.AppendLies
/-
  impl.generatorOf, readWord, exponentsOf.
-/
namespace Go.Proofs.YtbamkklhkhglnaaGreatDoor.TiA
open Go.RowKit Go.Lib Go.Proofs.YtbamkklhkhglnaaGreatDoor Go.Proofs.YtbamkklhkhglnaaGreatDoor.Tow Go.Proofs.YtbamkklhkhglnaaGreatDoor.TxA Go.Proofs.YtbamkklhkhglnaaGreatDoor.TxB Go.Proofs.YtbamkklhkhglnaaGreatDoor.TxC
set_option linter.unusedVariables false
set_option linter.unusedSimpArgs false

theorem one_list (s : ByteArray) (h : s.size = 1) (hz : 0 < s.size) : s.data.toList = [s[0]] := by
  obtain ⟨⟨l⟩⟩ := s
  match l, h with
  | [b], _ => rfl
def GenR (n : Nat) (l : List UInt8) (w : World) (e : Ending) (w' : World) : Prop := e = .returned (.tuple #[.int .i64 (((genI n l).getD 0 : Nat) : Int), .bool (genI n l).isSome]) ∧ w' = w
theorem gen_one (n : Nat) (b : UInt8) : genI n [b] = if 97 ≤ b.toNat ∧ b.toNat < 97 + n then some (b.toNat - 97) else none := by
  unfold genI isL
  simp
theorem gen_not {n : Nat} {l : List UInt8} (h : l.length ≠ 1) : genI n l = none := by
  unfold genI
  split
  · simp at h
  · rfl
theorem gen_any (n : Nat) (hn : n ≤ 100) (s : ByteArray) (hs : s.size ≤ 100000000) (w : World) :
    Calls Tryz.prog 100 #[.int .i64 (n : Int), .string s] w (GenR n s.data.toList w) := by
  by_cases h1 : s.size = 1
  · have hz : 0 < s.size := by omega
    have hb8 : s[0].toNat < 256 := s[0].toNat_lt
    have HL := Lib.hid (gen_one n s[0])
    rw [← one_list s h1 hz] at HL
    obtain ⟨y, hy⟩ : ∃ y : Nat, s[0].toNat = y := ⟨_, rfl⟩
    rw [hy] at hb8 HL
    have hs1 : (s.size : Int) = 1 := by omega
    have HN := Lib.hid hn
    clear hs hn
    by_cases h97 : 97 ≤ y
    · have w1 : ((y : Int) - 97) % 256 = (y : Int) - 97 := by omega
      have w2 : IntKind.i64.wrap ((y : Int) - 97) = (y : Int) - 97 := IntWalk.i64_in _ (by omega)
      have t1 : decide ((y : Int) < 97) = false := decide_eq_false (by omega)
      by_cases hlt : y < 97 + n
      · have HG := Lib.hid (show GenR n s.data.toList w (.returned (.tuple #[.int .i64 ((y : Int) - 97), .bool true])) w from by
          refine ⟨?_, rfl⟩
          rw [HL.out, if_pos ⟨h97, hlt⟩]
          have : ((y - 97 : Nat) : Int) = (y : Int) - 97 := by omega
          simp [this])
        have t2 : decide ((n : Int) ≤ (y : Int) - 97) = false := decide_eq_false (by omega)
        go_enter Tryz.func100, Tryz.ntmps100
        go_wp2_with fail
        exact bodyPost_ret (v := .tuple #[.int .i64 ((y : Int) - 97), .bool true]) (by simp [results, Tryz.results100, go_sem]) rfl HG.out
      · have HG := Lib.hid (show GenR n s.data.toList w (.returned (.tuple #[.int .i64 0, .bool false])) w from by
          refine ⟨?_, rfl⟩
          rw [HL.out, if_neg (fun h => hlt h.2)]
          rfl)
        have t2 : decide ((n : Int) ≤ (y : Int) - 97) = true := decide_eq_true (by omega)
        go_enter Tryz.func100, Tryz.ntmps100
        go_wp2_with fail
        exact bodyPost_ret (v := .tuple #[.int .i64 0, .bool false]) (by simp [results, Tryz.results100, go_sem]) rfl HG.out
    · have t1 : decide ((y : Int) < 97) = true := decide_eq_true (by omega)
      have HG := Lib.hid (show GenR n s.data.toList w (.returned (.tuple #[.int .i64 0, .bool false])) w from by
        refine ⟨?_, rfl⟩
        rw [HL.out, if_neg (fun h => h97 h.1)]
        rfl)
      go_enter Tryz.func100, Tryz.ntmps100
      go_wp2_with fail
      exact bodyPost_ret (v := .tuple #[.int .i64 0, .bool false]) (by simp [results, Tryz.results100, go_sem]) rfl HG.out
  · have HG := Lib.hid (show GenR n s.data.toList w (.returned (.tuple #[.int .i64 0, .bool false])) w from by
      refine ⟨?_, rfl⟩
      rw [gen_not (by simpa using h1)]
      rfl)
    have t1 : ((s.size : Int) != 1) = true := by simp; omega
    clear hn
    go_enter Tryz.func100, Tryz.ntmps100
    go_wp2_with fail
    exact bodyPost_ret (v := .tuple #[.int .i64 0, .bool false]) (by simp [results, Tryz.results100, go_sem]) rfl HG.out
theorem infoI : (Tryz.prog.info? 2).map (fun i => (i.zero, i.size, i.bytes)) = some (some (.int .i64 0), 1, 8) := by kernel_rfl
/-- the number of a letter -/
def lv (b : UInt8) : Int := if b.toNat < 97 then 64 - (b.toNat : Int) else (b.toNat : Int) - 96
def okL (n : Nat) (b : UInt8) : Prop := 65 ≤ b.toNat ∧ lv b ≠ 0 ∧ -(n : Int) ≤ lv b ∧ lv b ≤ (n : Int)
theorem isL_of {n : Nat} {b : UInt8} (h : okL n b) (hp : ¬ lv b < 0) : isL n b = true := by
  obtain ⟨h1, h2, h3, h4⟩ := h
  unfold lv at h2 h3 h4 hp
  unfold isL
  simp
  split at h4 <;> omega
theorem of_isL {n : Nat} {b : UInt8} (h : isL n b = true) : okL n b ∧ ¬ lv b < 0 := by
  unfold isL at h
  simp at h
  unfold okL lv
  rw [if_neg (by omega)]
  omega
theorem exps_bad {n : Nat} {l : List UInt8} {b : UInt8} (h1 : l ≠ [49]) (hb : b ∈ l) (h : ¬ okL n b ∨ lv b < 0) : expsI n l = none := by
  unfold expsI
  rw [if_neg h1, if_pos]
  right
  rw [List.all_eq_true]
  intro ha
  obtain ⟨h2, h3⟩ := of_isL (ha b hb)
  rcases h with h | h
  · exact h h2
  · exact h3 h
/-- letters that are read -/
def RwR (n : Nat) (t : List UInt8) (w : World) (e : Ending) (w' : World) : Prop := ∃ v l b, e = .returned (.tuple #[v, .bool b]) ∧ Own w.heap.size w' v l ∧ Below w.heap.size w w' ∧ l.length ≤ t.length ∧
  ((t = [49] ∧ l = [] ∧ b = true) ∨ (expsI n t = none ∧ l = [] ∧ b = false) ∨ (t ≠ [49] ∧ t ≠ [] ∧ l = t.map lv ∧ (∀ c ∈ t, okL n c) ∧ b = true))
theorem inside_any (n lo hi : Int) (w : World) :
    Calls Tryz.prog 159 #[.int .i64 n, .int .i64 lo, .int .i64 hi] w fun e w' => e = .returned (.bool (decide (lo ≤ n) && decide (n ≤ hi))) ∧ w = w' := by
  by_cases h1 : lo ≤ n <;> by_cases h2 : n ≤ hi
  all_goals
    go_enter Tryz.func159, Tryz.ntmps159
    go_wp2
    go_ret
    simp [h1, h2]
theorem conv_any (s : ByteArray) (w : World) : ∃ c w1, (convert 9 22 (.string s)).run Tryz.prog w = .ok (.slice (some ⟨w.heap.size, 0, none⟩) s.size c) w1 ∧ Below w.heap.size w w1 ∧ w1.heap.size = w.heap.size + 1 ∧ ∀ i (h : i < s.size), w1.cell? ⟨w.heap.size, i, none⟩ = some (.int .u8 (s[i].toNat : Int)) := by
  refine ⟨_, _, run_bytes_of_string w 9 22 5 s Tryz.underlying9 Tryz.underlying22 Tryz.underlying5, ((Below.refl _ _).drew).alloc (Nat.le_refl _) _, by simp, fun i h => ?_⟩
  have hb := bytesRow_at s (grownCap w s.size 0 5) i h
  exact (cell_of_row _ _ i _ _ _ (heap_alloc_new w.drew _)).trans hb
set_option maxRecDepth 100000 in
set_option maxHeartbeats 2000000 in
theorem readWord_any (n : Nat) (hn : n ≤ 100) (s : ByteArray) (hs : s.size ≤ 100000000) (w : World) :
    Calls Tryz.prog 120 #[.int .i64 (n : Int), .string s] w (RwR n s.data.toList w) := by
  obtain ⟨i0, hi0, hz0, hz1, hz2⟩ := info_parts infoI
  cases ht : (s.toList == [49]) with
  | true =>
    have HR := Lib.hid (show RwR n s.data.toList w (.returned (.tuple #[.slice none 0 0, .bool true])) w from
      ⟨_, [], true, rfl, World.ownsRow_nil _ _ _ _, Below.refl _ _, Nat.zero_le _, .inl ⟨by have := eq_of_beq ht; rwa [toList_data] at this, rfl, rfl⟩⟩)
    clear hs
    go_enter Tryz.func120, Tryz.ntmps120
    go_wp2_with fail
    exact bodyPost_ret (v := .tuple #[.slice none 0 0, .bool true]) (by simp [results, Tryz.results120, go_sem]) rfl HR.out
  | false =>
    have HT := Lib.hid (show s.data.toList ≠ [49] from fun e => by rw [toList_data, e] at ht; exact absurd ht (by decide))
    have HS := Lib.hid hs
    have hs63 : (s.size : Int) ≤ 100000000 := by omega
    obtain ⟨c, w1, hcv, hb1, hs1, hc1⟩ := conv_any s w
    have HB1 := Lib.hid hb1
    have HC1 := Lib.hid hc1
    have HS1 := Lib.hid hs1
    have HIN := Lib.hid (fun z W => inside_any z (-(n : Int)) (n : Int) W)
    have hwn : IntKind.i64.wrap (-(n : Int)) = -(n : Int) := IntWalk.i64_in _ (by omega)
    clear hs hb1 hc1 hs1
    go_enter Tryz.func120, Tryz.ntmps120
    go_upto_region 5 with fail
    go_loopw [6, 15] (fun ov iv wr => ∃ (k : Nat) (a : Option Addr) (cp : Nat), k ≤ s.size ∧ iv = .int .i64 (k : Int) ∧ ov = .slice a k cp ∧ Hid (Own w1.heap.size wr (.slice a k cp) ((s.data.toList.take k).map lv) ∧ ∀ x ∈ s.data.toList.take k, okL n x) ∧ Hid (Below w1.heap.size w1 wr)) (fun _ iv _ => s.size - (intOf iv).toNat)
    case atStart => exact ⟨0, _, _, Nat.zero_le _, rfl, rfl, Lib.hid ⟨World.ownsRow_nil _ _ _ _, fun x h => by simp at h⟩, Lib.hid (Below.refl _ _)⟩
    case round =>
      obtain ⟨k, a, cp, hk, rfl, rfl, hO, hB⟩ := hrel
      have hlen : ((s.data.toList.take k).map lv).length = k := by simp; omega
      by_cases hlt : k < s.size
      · have hw0 : w.heap.size < w1.heap.size := by have := HS1.out; omega
        have hcell := (hB.out.cell (p := ⟨w.heap.size, k, none⟩) hw0).trans (HC1.out k hlt)
        have hzz : s.data.toList[k]? = some s[k] := data_getElem? s k hlt
        have hmem : s[k] ∈ s.data.toList := List.mem_of_getElem? hzz
        have HTK := Lib.hid (show s.data.toList.take (k + 1) = s.data.toList.take k ++ [s[k]] from by rw [List.take_add_one, hzz]; rfl)
        have hy8 : s[k].toNat < 256 := s[k].toNat_lt
        have HBAD := Lib.hid (fun h => exps_bad (n := n) HT.out hmem h)
        have HLV := Lib.hid (show lv s[k] = if s[k].toNat < 97 then 64 - (s[k].toNat : Int) else (s[k].toNat : Int) - 96 from rfl)
        have HOK := Lib.hid (show okL n s[k] ↔ 65 ≤ s[k].toNat ∧ lv s[k] ≠ 0 ∧ -(n : Int) ≤ lv s[k] ∧ lv s[k] ≤ (n : Int) from Iff.rfl)
        obtain ⟨d, hd⟩ : ∃ d, s[k] = d := ⟨_, rfl⟩
        rw [hd] at hcell hy8 HTK HBAD HLV HOK
        clear hd hzz hmem
        obtain ⟨y, hy⟩ : ∃ y : Nat, d.toNat = y := ⟨_, rfl⟩
        obtain ⟨z, hz⟩ : ∃ z : Int, lv d = z := ⟨_, rfl⟩
        have HZ := Lib.hid hz
        have HY := Lib.hid hy
        rw [hy] at hcell hy8 HLV HOK
        rw [hz] at HLV HOK HBAD
        clear hy hz
        have hki : (k : Int) < (s.size : Int) := by omega
        have hw1 : IntKind.i64.wrap ((y : Int) - 97) = (y : Int) - 97 := IntWalk.i64_in _ (by omega)
        have hw3 : IntKind.i64.wrap (65 - (y : Int)) = 65 - (y : Int) := IntWalk.i64_in _ (by omega)
        have hw6 : IntKind.i64.wrap (y : Int) = (y : Int) := IntWalk.i64_in _ (by omega)
        have HFAIL := Lib.hid (fun (h : ¬ okL n d ∨ z < 0) => show RwR n s.data.toList w (.returned (.tuple #[.slice none 0 0, .bool false])) wr from ⟨_, [], false, rfl, World.ownsRow_nil _ _ _ _, HB1.out.trans (hB.out.mono (Nat.le_of_lt hw0)), Nat.zero_le _, .inr (.inl ⟨HBAD.out h, rfl, rfl⟩)⟩)
        by_cases h65 : y < 65
        · have HF := Lib.hid (HFAIL.out (.inl fun h => absurd (HOK.out.1 h).1 (by omega)))
          have t1 : decide ((y : Int) < 97) = true := decide_eq_true (by omega)
          have t2 : decide ((y : Int) < 65) = true := decide_eq_true (by omega)
          have hw2 : IntKind.i64.wrap (65 - (y : Int) - 1) = 65 - (y : Int) - 1 := IntWalk.i64_in _ (by omega)
          have hw4 : IntKind.i64.wrap ((y : Int) - 97 + 1) = (y : Int) - 97 + 1 := IntWalk.i64_in _ (by omega)
          clear hO hB h65 hlen
          go_wp2_with fail
          exact bodyPost_ret (v := .tuple #[.slice none 0 0, .bool false]) (by simp [results, Tryz.results120, go_sem]) rfl HF.out
        · have t2 : decide ((y : Int) < 65) = false := decide_eq_false (by omega)
          have hzr : -300 < z ∧ z < 300 := by have := HLV.out; split at this <;> omega
          have a1 := ownsRow_keep hO.out.1 (S := fun _ => True) ((Keep.refl _ wr).alloc (.cells #[.int .i64 z] 2)) (fun _ _ => trivial)
          rw [hlen] at a1
          obtain ⟨xs, hxs⟩ : ∃ xs, vals ((s.data.toList.take k).map lv) = xs := ⟨_, rfl⟩
          rw [hxs] at a1
          have HXS := Lib.hid hxs
          clear hxs
          have HA1 := Lib.hid a1
          have HO := Lib.hid hO.out.2
          have HBw := Lib.hid hB.out
          clear hO hB hlen a1
          have key : (decide ((y : Int) < 97) = true ∧ IntKind.i64.wrap (65 - (y : Int) - 1) = z ∧ IntKind.i64.wrap ((y : Int) - 97 + 1) = (y : Int) - 97 + 1) ∨ (decide ((y : Int) < 97) = false ∧ IntKind.i64.wrap ((y : Int) - 97 + 1) = z ∧ True) := by
            by_cases h97 : y < 97
            · have := HLV.out
              rw [if_pos h97] at this
              exact .inl ⟨decide_eq_true (by omega), by rw [IntWalk.i64_in _ (by omega)]; omega, IntWalk.i64_in _ (by omega)⟩
            · have := HLV.out
              rw [if_neg h97] at this
              exact .inr ⟨decide_eq_false (by omega), by rw [IntWalk.i64_in _ (by omega)]; omega, trivial⟩
          by_cases hok : okL n d
          · have hz0' : (z == 0) = false := by have := (HOK.out.1 hok).2.1; simpa using this
            have t3 : (decide (-(n : Int) ≤ z) && decide (z ≤ (n : Int))) = true := by
              obtain ⟨_, _, p, q⟩ := HOK.out.1 hok
              simp [p, q]
            have HOK2 := Lib.hid hok
            clear hok
            rcases key with ⟨t1, q1, q2⟩ | ⟨t1, q1, q2⟩
            all_goals
              go_wp2_with (first | (go_at_call 159; refine (HIN.out z _).mono ?_; rintro e w5 ⟨rfl, rfl⟩; rw [t3]) | (at_builtin; (refine wpList_append_lies _ rfl _ _ 87 rfl w1.heap.size 2 i0 (.int .i64 0) 1 8 Tryz.underlying87 hi0 hz0 hz1 hz2 rfl (by decide) _ _ _ rfl HA1.out ⟨wr.heap.size, 0, none⟩ 1 1 [.int .i64 z] rfl rfl (World.news_of_block (cs := #[.int .i64 z]) (t := 2) (fr := (0, 0)) (heap_alloc_new wr _)) (by simp [Value.oneCell']) (by decide) (by unfold maxLen; omega) (by omega) (by have := HBw.out.size; simp; omega) _ rfl ?_)) | fail)
              intro g2 cap2 w6 hown2 hgrow2 hat2 hlt2
              have HB6 := Lib.hid ((HBw.out.alloc HBw.out.size (.cells #[.int .i64 z] 2)).grown hgrow2 (by have := HBw.out.size; simp; omega) (fun g hg => (World.ownsRow.lt HA1.out g hg).1))
              have HL6 := Lib.hid (show Own w1.heap.size w6 (.slice (some ⟨g2, 0, none⟩) (k + 1) cap2) ((s.data.toList.take (k + 1)).map lv) ∧ ∀ x ∈ s.data.toList.take (k + 1), okL n x from by
                rw [HTK.out]
                refine ⟨?_, fun x hx => ?_⟩
                · have e1 : (((s.data.toList.take k ++ [d]).map lv)).length = k + 1 := by simp; omega
                  unfold Own
                  rw [e1]
                  have e2 : vals ((s.data.toList.take k ++ [d]).map lv) = vals ((s.data.toList.take k).map lv) ++ [.int .i64 z] := by
                    rw [← HZ.out]; simp [vals]
                  rw [e2, HXS.out]
                  exact hown2
                · rcases List.mem_append.1 hx with hx | hx
                  · exact HO.out x hx
                  · obtain rfl : x = d := by simpa using hx
                    exact HOK2.out)
              clear hown2 hgrow2 hat2 hlt2
              go_wp2_with fail
              go_roundw
              case rel => exact ⟨k + 1, _, cap2, by omega, by go_num, rfl, HL6, HB6⟩
              case measure => simp [intOf]; omega
          · have HF := Lib.hid (HFAIL.out (.inl hok))
            have t4 : (z == 0) = true ∨ ((z == 0) = false ∧ (decide (-(n : Int) ≤ z) && decide (z ≤ (n : Int))) = false) := by
              by_cases h0 : z = 0
              · exact .inl (by simp [h0])
              · refine .inr ⟨by simpa using h0, ?_⟩
                rw [Bool.and_eq_false_iff]
                by_cases h1 : -(n : Int) ≤ z
                · right
                  exact decide_eq_false fun h2 => hok (HOK.out.2 ⟨by omega, h0, h1, h2⟩)
                · left; exact decide_eq_false h1
            clear hok
            rcases key with ⟨t1, q1, q2⟩ | ⟨t1, q1, q2⟩
            all_goals
              rcases t4 with t5 | ⟨t5, t3⟩
              · go_wp2_with fail
                exact bodyPost_ret (v := .tuple #[.slice none 0 0, .bool false]) (by simp [results, Tryz.results120, go_sem]) rfl HF.out
              · go_wp2_with (first | (go_at_call 159; refine (HIN.out z _).mono ?_; rintro e w5 ⟨rfl, rfl⟩; rw [t3]) | fail)
                exact bodyPost_ret (v := .tuple #[.slice none 0 0, .bool false]) (by simp [results, Tryz.results120, go_sem]) rfl HF.out
      · obtain rfl : k = s.size := by omega
        have hall : s.data.toList.take s.size = s.data.toList := List.take_of_length_le (by simp)
        rw [hall] at hO
        have t1 : s.toList.isEmpty = decide (s.data = #[]) := by
          rw [toList_data]
          obtain ⟨⟨l⟩⟩ := s
          cases l <;> simp
        have HF := Lib.hid (show RwR n s.data.toList w (.returned (.tuple #[.slice a s.size cp, .bool (decide (s.data.toList ≠ []))])) wr from by
          refine ⟨_, s.data.toList.map lv, _, rfl, hO.out.1.mono (by have := HS1.out; omega), HB1.out.trans (hB.out.mono (by have := HS1.out; omega)), by simp, ?_⟩
          by_cases he : s.data.toList = []
          · refine .inr (.inl ⟨?_, by rw [he]; rfl, by simp [he]⟩)
            unfold expsI
            rw [if_neg HT.out, if_pos (.inl he)]
          · exact .inr (.inr ⟨HT.out, he, rfl, hO.out.2, by simp [he]⟩))
        clear hO hB hall
        go_wp2_with fail
        exact bodyPost_ret (v := .tuple #[.slice a s.size cp, .bool (decide (s.data.toList ≠ []))]) (by simp [results, Tryz.results120, go_sem, t1]) rfl HF.out
end Go.Proofs.YtbamkklhkhglnaaGreatDoor.TiA
