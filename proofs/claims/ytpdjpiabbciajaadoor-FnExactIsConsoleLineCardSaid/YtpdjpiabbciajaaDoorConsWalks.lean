import Derived.Test.YtpdjpiabbciajaaDoorNumWalks
import Derived.Test.YtpdjpiabbciajaaDoorConsPlain
import Derived.Test.YtpdjpiabbciajaaDoorShelfC
import Derived.Test.YtpdjpiabbciajaaDoorShelfB
import Derived.Lib.QuietBelow
import Derived.Laws.ResultCell
namespace Go.Proofs.YtpdjpiabbciajaaDoor.ConsWalks
open Go.RowKit Go.Lib Go.Proofs.YtpdjpiabbciajaaDoor.NumPlain Go.Proofs.YtpdjpiabbciajaaDoor.NumWalks Go.Proofs.YtpdjpiabbciajaaDoor.ConsPlain
set_option linter.unusedVariables false
set_option linter.unusedSimpArgs false

theorem cut_any (s : ByteArray) (m : Int) (w : World) (hs : s.size ≤ 1000000000) (hm : w.cell? ⟨0, 0, none⟩ = some (.int .i64 m)) :
    Calls Tryd.prog 32 #[.string s, .string ⟨#[32]⟩] w fun e w' => e = .returned (.tuple #[.string (cutA s), .string (cutB s), .bool (cutF s)]) ∧ ∃ n, w' = w.drewN n :=
  Tryd.strings_Cut s ⟨#[32]⟩ m w (by omega) hm

set_option maxHeartbeats 1000000 in
theorem l38Cut_any (s : ByteArray) (w : World) (hs : s.size ≤ 1000000000) :
    Calls Tryd.prog 28 #[.string s] w fun e w' => e = .returned (.tuple #[.string (cutA s), .string (cutB s), .bool (cutF s)]) ∧ ∃ n, w' = w.drewN n := by
  go_enter Tryd.func28, Tryd.ntmps28
  go_wp2_with fail
  go_loop [5] (fun i => ∃ k : Nat, k ≤ s.size ∧ i = .int .i64 k ∧ Hid (∀ j, j < k → s.data.toList[j]? ≠ some 32)) (fun i => s.size - (RowKit.intOf i).toNat)
  case atStart => exact ⟨0, Nat.zero_le _, rfl, Lib.hid fun j h => by omega⟩
  case round =>
    obtain ⟨k, hk, rfl, hn⟩ := hrel
    by_cases hlt : k < s.size
    · have hg : s.data.toList[k]? = some s[k] := by rw [List.getElem?_eq_getElem (by exact hlt)]; rfl
      by_cases hc : s[k] = 32
      · have ht : ((s[k].toNat : Int) == 32) = true := by rw [hc]; rfl
        have HC := Lib.hid (cut_at s k hlt (hg.trans (congrArg some hc)) hn.out)
        have b1 : (k : Int) + 1 ≤ (s.size : Int) := by omega
        have b2 : IntKind.i64.wrap ((k : Int) + 1) = (k : Int) + 1 := IntWalk.i64_in _ (by omega)
        have b3 : ((k : Int) + 1).toNat = k + 1 := by omega
        have b4 : (0 : Int) ≤ (k : Int) + 1 := by omega
        clear hc hg
        go_wp2_with fail
        go_quiet (fail)
        go_wp2_with fail
        exact bodyPost_ret (v := .tuple #[.string (s.extract 0 k), .string (s.extract (k + 1) s.size), .bool true]) (by simp [results, Tryd.results28, go_sem]) rfl ⟨by rw [HC.out.1, HC.out.2.1, HC.out.2.2], nq, rfl⟩
      · have ht : ((s[k].toNat : Int) == 32) = false := by
          rw [beq_eq_false_iff_ne]
          intro h
          exact hc (UInt8.toNat_inj.1 (by show s[k].toNat = 32; omega))
        have HN := Lib.hid (show ∀ j, j < k + 1 → s.data.toList[j]? ≠ some 32 from fun j hj => by
          rcases Nat.lt_succ_iff_lt_or_eq.1 hj with h | h
          · exact hn.out j h
          · subst h; rw [hg]; exact fun e => hc (Option.some.inj e))
        clear hc hg
        go_wp2_with fail
        go_round
        case rel => exact ⟨k + 1, by omega, by go_num, HN⟩
        case measure => simp [RowKit.intOf]; omega
    · obtain rfl : k = s.size := by omega
      have HC := Lib.hid (cut_none s (fun hm => by
        obtain ⟨i, hi, he⟩ := List.getElem_of_mem hm
        exact hn.out i hi (by rw [List.getElem?_eq_getElem hi, he])))
      go_wp2_with fail
      exact bodyPost_ret (v := .tuple #[.string s, .string ⟨#[]⟩, .bool false]) (by simp [results, Tryd.results28, go_sem]) rfl ⟨by rw [HC.out.1, HC.out.2.1, HC.out.2.2], 0, rfl⟩

theorem word_of (s : ByteArray) (l : List UInt8) (h : s.data.toList = l) : s = ⟨l.toArray⟩ := ByteArray.ext (Array.toList_inj.1 (by rw [h]))

set_option maxHeartbeats 4000000 in
theorem form_any (s : ByteArray) (w : World) :
    Calls Tryd.prog 29 #[.string s] w fun e w' => e = .returned (.tuple #[.bool (kind s.data.toList == 2 || kind s.data.toList == 3), .bool (kind s.data.toList == 4 || kind s.data.toList == 5), .bool (kind s.data.toList == 1 || kind s.data.toList == 2 || kind s.data.toList == 4), .bool (kind s.data.toList != 0)]) ∧ w = w' := by
  rcases kind_cases s.data.toList with h9 | h | h | h2 | h | h0
  · rcases h9 with h | h | h | h | h | h | h | h | h
    all_goals
      obtain rfl := word_of s _ h
      clear h
      go_enter Tryd.func29, Tryd.ntmps29
      go_wp2_with fail
      exact bodyPost_ret (v := .tuple #[.bool false, .bool false, .bool true, .bool true]) (by simp [results, Tryd.results29, go_sem]) rfl ⟨rfl, rfl⟩
  · obtain rfl := word_of s _ h
    clear h
    go_enter Tryd.func29, Tryd.ntmps29
    go_wp2_with fail
    exact bodyPost_ret (v := .tuple #[.bool true, .bool false, .bool true, .bool true]) (by simp [results, Tryd.results29, go_sem]) rfl ⟨rfl, rfl⟩
  · obtain rfl := word_of s _ h
    clear h
    go_enter Tryd.func29, Tryd.ntmps29
    go_wp2_with fail
    exact bodyPost_ret (v := .tuple #[.bool true, .bool false, .bool false, .bool true]) (by simp [results, Tryd.results29, go_sem]) rfl ⟨rfl, rfl⟩
  · rcases h2 with h | h
    all_goals
      obtain rfl := word_of s _ h
      clear h
      go_enter Tryd.func29, Tryd.ntmps29
      go_wp2_with fail
      exact bodyPost_ret (v := .tuple #[.bool false, .bool true, .bool true, .bool true]) (by simp [results, Tryd.results29, go_sem]) rfl ⟨rfl, rfl⟩
  · obtain rfl := word_of s _ h
    clear h
    go_enter Tryd.func29, Tryd.ntmps29
    go_wp2_with fail
    exact bodyPost_ret (v := .tuple #[.bool false, .bool true, .bool false, .bool true]) (by simp [results, Tryd.results29, go_sem]) rfl ⟨rfl, rfl⟩
  · obtain ⟨hk, h1, h2, h3, h4, h5, h6, h7, h8, h9, h10, h11, h12, h13, h14⟩ := h0
    rw [← Lib.toList_data] at h1 h2 h3 h4 h5 h6 h7 h8 h9 h10 h11 h12 h13 h14
    have HK := Lib.hid hk
    clear hk
    go_enter Tryd.func29, Tryd.ntmps29
    go_wp2_with fail
    exact bodyPost_ret (v := .tuple #[.bool false, .bool false, .bool false, .bool false]) (by simp [results, Tryd.results29, go_sem]) rfl ⟨by rw [HK.out]; rfl, rfl⟩

theorem below_bytes (w : World) (t : ByteArray) : Below w.heap.size w (Lib.bytesWorld w 5 t) :=
  ⟨rfl, rfl, rfl, by rw [Lib.bytesWorld_size]; omega, fun k hk => Lib.bytesWorld_at_old w _ t k hk⟩
theorem below_grow (w : World) (k : Nat) (os : Array Obj) : Below w.heap.size w (Go.Sort.grow (w.drewN k) os) := Go.below_regrown w (w.drawn + k) os

theorem parse_range (l : List UInt8) (v : Int) (h : Lib.parseIntB 64 l = .ok v) : -9223372036854775808 ≤ v ∧ v ≤ 9223372036854775807 := by
  cases l with
  | nil => simp [Lib.parseIntB] at h
  | cons c r =>
    simp only [Lib.parseIntB] at h
    split at h
    · simp at h
    · simp at h
    · rename_i u hu
      split at h
      · simp at h
      · split at h
        · simp at h
        · have hv : v = if c.toNat = 45 then -(u : Int) else u := by
            have := h.symm
            injection this
          rw [hv]
          split <;> omega
theorem num_ret (v : Int) {a b : Bool} (h : a = b) : Ending.returned (.tuple #[.int .i64 v, .bool a]) = Ending.returned (.tuple #[.int .i64 v, .bool b]) := by rw [h]
/-- what readNumber hands back -/
def NumPost (l : List UInt8) (w : World) (e : Ending) (w' : World) : Prop :=
  ∃ n : Int, e = .returned (.tuple #[.int .i64 n, .bool (isNum l)]) ∧ (isNum l = true → n = (val l : Int)) ∧ Below w.heap.size w w'

/-- the two errors that strconv hands on, and the table of its powers -/
structure Vars (w : World) : Prop where
  syn : ∃ tp p, w.var? Tryd.prog "strconv.ErrSyntax" = some #[.iface tp p]
  rng : ∃ tp p, w.var? Tryd.prog "strconv.ErrRange" = some #[.iface tp p]
  tab : Lib.TabIs Tryd.prog w "internal/strconv.uint64pow10" .u64 Lib.pow10Tab
  len : ∃ m, w.cell? ⟨0, 0, none⟩ = some (.int .i64 m)
theorem gSyn : Tryd.prog.globalNamed "strconv.ErrSyntax" = some 2 := by kernel_rfl
theorem gRng : Tryd.prog.globalNamed "strconv.ErrRange" = some 3 := by kernel_rfl
theorem gTab : Tryd.prog.globalNamed "internal/strconv.uint64pow10" = some 1 := by kernel_rfl
theorem var_lt {w : World} {n : String} {cs : Array Value} {g : Nat} (hg : Tryd.prog.globalNamed n = some g) (h : w.var? Tryd.prog n = some cs) : g < w.heap.size := by
  unfold World.var? at h
  simp only [hg, Option.bind_some] at h
  apply Nat.lt_of_not_le
  intro hle
  rw [Array.getElem?_eq_none hle] at h
  exact absurd h (by simp)
theorem Vars.below {w w' : World} (h : Vars w) (hb : Below w.heap.size w w') : Vars w' := by
  obtain ⟨⟨t1, p1, h1⟩, ⟨t2, p2, h2⟩, h3, m, h4⟩ := h
  exact ⟨⟨t1, p1, var?_below hb gSyn (var_lt gSyn h1) h1⟩, ⟨t2, p2, var?_below hb gRng (var_lt gRng h2) h2⟩, var?_below hb gTab (var_lt gTab h3) h3,
    m, by rw [hb.cell (p := ⟨0, 0, none⟩) (World.block_lt_of_cell? w _ h4)]; exact h4⟩

set_option maxHeartbeats 2000000 in
theorem readNumber_any (s : ByteArray) (w : World) (hs : s.size ≤ 1000000000) (hv : Vars w) :
    Calls Tryd.prog 34 #[.string s] w (NumPost s.data.toList w) := by
  go_enter Tryd.func34, Tryd.ntmps34
  go_wp2_with fail
  obtain ⟨t1, p1, h1⟩ := hv.syn
  obtain ⟨t2, p2, h2⟩ := hv.rng
  rcases hp : Lib.parseIntB 64 s.data.toList with v | _ | _
  · have key : Calls Tryd.prog 41 #[.string s, .int .i64 10, .int .i64 64] w fun e w' => e = .returned (.tuple #[.int .i64 v, .nilIface]) ∧ Below w.heap.size w w' :=
      (Tryd.strconv_ParseInt_10_at64_ok s (by omega) v hp w).mono fun e w' ⟨he, h⟩ => ⟨he, by
        rcases h with h | ⟨t, h⟩
        · rw [h]; exact Below.refl _ _
        · rw [h]; exact below_bytes w t⟩
    have hb64 := parse_range _ v hp
    refine key.mono ?_; rintro e w1 ⟨rfl, hb1⟩
    have hv1 := hv.below hb1
    have HB1 := Lib.hid hb1
    have HT := Lib.hid hv1.tab
    clear key hv hb1 hv1 h1 h2
    by_cases h0 : 0 ≤ v
    · by_cases h6 : s.size ≤ 6
      · have HF := Lib.hid ((Tryd.strconv_FormatInt_10 v (by omega) (by omega) w1 HT.out).mono fun e w' h => (⟨h.1, by obtain ⟨k, os, hg⟩ := h.2; rw [hg]; exact below_grow w1 k os⟩ : e = .returned (.string ⟨(Lib.itoa v).toArray⟩) ∧ Below w1.heap.size w1 w'))
        by_cases he : Lib.itoa v = s.data.toList
        · have HN := Lib.hid (isNum_of _ v hp h0 h6 he)
          have HE := Lib.hid (beqT (show (⟨(Lib.itoa v).toArray⟩ : ByteArray) = s from (word_of s _ he.symm).symm))
          have HPo := Lib.hid hp
          clear hp he hb64
          generalize (⟨(Lib.itoa v).toArray⟩ : ByteArray) = t at HE HF ⊢
          go_wp2_with fail
          refine HF.out.mono ?_; rintro e w2 ⟨rfl, hb2⟩
          have HB2 := Lib.hid hb2
          have hE := HE.out
          clear hb2
          go_wp2_with fail
          go_ret2
          exact ⟨v, num_ret v HN.out.1.symm, fun _ => HN.out.2, HB1.out.trans (HB2.out.mono HB1.out.size)⟩
        · have HN := Lib.hid (show isNum s.data.toList = false from Bool.eq_false_iff.2 fun hn => he (by
            have e1 := isNum_parse _ hn
            rw [hp] at e1
            have : v = (val s.data.toList : Int) := by injection e1
            rw [this]
            exact (isNum_itoa _ hn).2))
          have HE := Lib.hid (beqF (show ¬ (⟨(Lib.itoa v).toArray⟩ : ByteArray) = s from fun h => he (congrArg (fun x : ByteArray => x.data.toList) h)))
          clear hp he hb64
          generalize (⟨(Lib.itoa v).toArray⟩ : ByteArray) = t at HE HF ⊢
          go_wp2_with fail
          refine HF.out.mono ?_; rintro e w2 ⟨rfl, hb2⟩
          have HB2 := Lib.hid hb2
          have hE := HE.out
          clear hb2
          go_wp2_with fail
          go_ret2
          exact ⟨v, num_ret v HN.out.symm, fun h => absurd (HN.out.symm.trans h) Bool.false_ne_true, HB1.out.trans (HB2.out.mono HB1.out.size)⟩
      · have HN := Lib.hid (show isNum s.data.toList = false from Bool.eq_false_iff.2 fun hn => h6 (isNum_itoa _ hn).1)
        clear hp hb64
        go_wp2_with fail
        go_ret2
        exact ⟨v, num_ret v HN.out.symm, fun h => absurd (HN.out.symm.trans h) Bool.false_ne_true, HB1.out⟩
    · have HN := Lib.hid (show isNum s.data.toList = false from Bool.eq_false_iff.2 fun hn => h0 (by
        have e1 := isNum_parse _ hn
        rw [hp] at e1
        have : v = (val s.data.toList : Int) := by injection e1
        omega))
      clear hp hb64
      go_wp2_with fail
      go_ret2
      exact ⟨v, num_ret v HN.out.symm, fun h => absurd (HN.out.symm.trans h) Bool.false_ne_true, HB1.out⟩
  · have HN := Lib.hid (show isNum s.data.toList = false from Bool.eq_false_iff.2 fun hn => by
      have e1 := isNum_parse _ hn
      rw [hp] at e1
      injection e1)
    have key := Tryd.strconv_ParseInt_bad s (by omega) hp t1 p1 w h1
    clear hp h1 h2 hv
    refine key.mono ?_; rintro e w1 ⟨N, rfl, hN, hcell, hb1⟩
    have HB1 := Lib.hid hb1
    clear key hb1 hcell hN
    go_wp2_with fail
    go_ret2
    exact ⟨0, num_ret 0 HN.out.symm, fun h => absurd (HN.out.symm.trans h) Bool.false_ne_true, HB1.out⟩
  · have HN := Lib.hid (show isNum s.data.toList = false from Bool.eq_false_iff.2 fun hn => by
      have e1 := isNum_parse _ hn
      rw [hp] at e1
      injection e1)
    have key := Tryd.strconv_ParseInt_10_at64_range_var s (by omega) hp t2 p2 w h2
    clear hp h1 h2 hv
    generalize Lib.intSat 64 s.data.toList = v at key
    refine key.mono ?_; rintro e w1 ⟨N, rfl, hN, hcell, hb1⟩
    have HB1 := Lib.hid hb1
    clear key hb1 hcell hN
    go_wp2_with fail
    go_ret2
    exact ⟨v, num_ret v HN.out.symm, fun h => absurd (HN.out.symm.trans h) Bool.false_ne_true, HB1.out⟩
end Go.Proofs.YtpdjpiabbciajaaDoor.ConsWalks
