import Derived.Test.YtbamkklhkhglnaaGreatDoorImplE
namespace Go.Proofs.YtbamkklhkhglnaaGreatDoor.ImplF
open Go.RowKit Go.Proofs.YtbamkklhkhglnaaGreatDoor Go.Proofs.YtbamkklhkhglnaaGreatDoor.Tow Go.Proofs.YtbamkklhkhglnaaGreatDoor.ImplB Go.Proofs.YtbamkklhkhglnaaGreatDoor.ImplC Go.Proofs.YtbamkklhkhglnaaGreatDoor.ImplD Go.Proofs.YtbamkklhkhglnaaGreatDoor.ImplE
set_option linter.unusedVariables false
set_option linter.unusedSimpArgs false

theorem tg_step {T : Tw} (h : Wf T) {s j : Nat} (hj : s ≤ j) (hjn : j < T.length) (hg : Tow.Good (T.drop (j + 1))) {v : List Nat} (hv : El (T.drop s) v) :
    (pad s v).take j ++ tg (T.drop j) ((pad s v).drop j) = pad s (mul (T.drop s) v (unit (T.drop s) (j - s))) ∧ mul (T.drop s) v (unit (T.drop s) (j - s)) = v.take (j - s) ++ tg (T.drop j) (v.drop (j - s)) := by
  obtain ⟨t, rfl⟩ : ∃ t, j = s + t := ⟨j - s, by omega⟩
  rw [Nat.add_sub_cancel_left]
  have hwf := Wf_drop h s
  have hd : (T.drop s).drop t = T.drop (s + t) := by rw [List.drop_drop]
  have hL : T.drop (s + t) = T[s + t] :: T.drop (s + t + 1) := List.drop_eq_getElem_cons hjn
  have hvd := El_drop hv t
  rw [hd] at hvd
  have e0 : mul (T.drop s) v (unit (T.drop s) t) = v.take t ++ tg (T.drop (s + t)) (v.drop t) := by
    rw [show unit (T.drop s) t = pad t (unit ((T.drop s).drop t) 0) from (unit_pad (T.drop s) t 0 (by simp; omega)).symm, mul_pad hwf t hv (El_unit (Wf_drop hwf t) 0) (by simp; omega), hd]
    rw [hL] at hvd ⊢
    rw [tg_mul (by rw [← hL]; exact Wf_drop h (s + t)) hg hvd]
  refine ⟨?_, e0⟩
  have e1 : (pad s v).take (s + t) = List.replicate s 0 ++ v.take t := by simp [pad, List.take_append]
  have e2 : (pad s v).drop (s + t) = v.drop t := by simp [pad, List.drop_append]
  rw [e1, e2, List.append_assoc, e0]; rfl

/-- the inverse of an element -/
def InvR (T : Tw) (s : Nat) (x : List Nat) (w : World) (e : Ending) (w' : World) : Prop := ∃ y, (El (T.drop s) y ∧ mul (T.drop s) x y = one (T.drop s)) ∧ NewS (ints (pad s y)) w e w'

theorem inv_next {T : Tw} {i : Nat} {L : Lv} (hL : T[i]? = some L) {s : Nat} (hs : s ≤ i) {R : List Nat} {a : Nat} (ha : R[i - s]? = some a) :
    (R.take (i - s) ++ tg (T.drop i) (R.drop (i - s)))[i - s]? = some (if a + 1 = L.o then 0 else a + 1) ∧ (R.take (i - s) ++ tg (T.drop i) (R.drop (i - s))).take (i - s) = R.take (i - s) := by
  have hlt : i - s < R.length := (List.getElem?_eq_some_iff.1 ha).1
  have hl : (R.take (i - s)).length = i - s := by rw [List.length_take]; omega
  rw [drop_cons' hL, List.drop_eq_getElem_cons hlt, (List.getElem?_eq_some_iff.1 ha).2, tg]
  constructor
  · rw [List.getElem?_append_right (by omega), hl, Nat.sub_self]; rfl
  · rw [List.take_append_of_le_length (by omega), List.take_of_length_le (by omega)]
/-- how many steps are left -/
def left (o a : Nat) : Nat := if a = 0 then 0 else o - a

set_option maxHeartbeats 1000000 in
theorem invert_any (T : Tw) (hT : Wf T) (hs : Small T) (s : Nat) (h : s ≤ T.length) (hg : Tow.Good (T.drop s)) (w : World) (b o : Nat) (va : Value) (x : List Nat) (hP : PtrP Any w b o (ofTw T)) (ha : SlI Any w va (ints (pad s x))) (hn : NN va)
    (hx : El (T.drop s) x) :
    Calls Tryz.prog 192 #[.pointer (some ⟨b, o, none⟩), va] w (InvR T s x w) := by
  have hgj : ∀ j, s ≤ j → Tow.Good (T.drop j) := fun j hj => by have := Good_drop hg (j - s); rwa [List.drop_drop, Nat.add_sub_cancel' hj] at this
  have HTG := Lib.hid (fun j (h1 : s ≤ j) (h2 : j < T.length) => tg_any T hT hs j h2 (hgj j h1))
  have HST := Lib.hid (fun j (h1 : s ≤ j) (h2 : j < T.length) {v : List Nat} (hv : El (T.drop s) v) => tg_step hT h1 h2 (hgj (j + 1) (by omega)) hv)
  have HG := Lib.hid (grp (Wf_drop hT s) hg)
  have hl : (pad s x).length = T.length := by rw [pad_length, El_length hx, List.length_drop]; omega
  have HL := Lib.hid (show (ints (pad s x)).length = T.length by rw [ints_length]; exact hl)
  have hs6 := hs.1
  have hmk := mk22 T.length hs6
  have HP := Lib.hid hP
  have HN := Lib.hid hn
  obtain ⟨aA, cA, rfl, hA1⟩ := ha.open
  rw [hl] at hA1 ha ⊢
  rw [hl] at HN
  have HA := Lib.hid ha
  have HX := Lib.hid hx
  have HSM := Lib.hid hs
  have HT := Lib.hid hT
  have HGJ := Lib.hid hgj
  clear hP ha hl hx hn hs hT hg hgj
  go_enter Tryz.func192, Tryz.ntmps192
  go_wp2_with fail
  refine (clone_some Any _ (ints (pad s x)) _ HA.out HN.out (by rw [HL.out]; omega)).mono ?_
  rintro e w1 ⟨g1, c1, rfl, ho1, hb1⟩
  rw [HL.out] at ho1 ⊢
  have hlt1 := ho1.lt
  have HO1 := Lib.hid (ho1.alloc (.cells (madeCells #[.int .i64 0] T.length) 2))
  have HO2 := Lib.hid (Own.made (B := w.heap.size) w1 T.length hb1.size (by unfold maxLen; omega))
  have HB1 := Lib.hid (hb1.alloc hb1.size (.cells (madeCells #[.int .i64 0] T.length) 2))
  have hz1 := hb1.size
  clear ho1 hb1
  go_wp2_with fail
  go_loopw [15] (fun iv wr => ∃ i : Nat, i ≤ T.length ∧ iv = .int .i64 (i : Int) ∧ ∃ R O : List Nat, Own w.heap.size wr (.slice (some ⟨g1, 0, none⟩) T.length c1) (ints (pad s R)) ∧ Own w.heap.size wr (.slice (some ⟨w1.heap.size, 0, none⟩) T.length T.length) (ints (pad s O)) ∧
      Hid (El (T.drop s) R ∧ El (T.drop s) O ∧ mul (T.drop s) x O = R ∧ R.take (i - s) = List.replicate (i - s) 0) ∧ Below w.heap.size w wr ∧ w1.heap.size < wr.heap.size) (fun iv _ => T.length - (intOf iv).toNat)
  case atStart =>
    refine ⟨0, Nat.zero_le _, rfl, x, one (T.drop s), HO1.out, ?_, Lib.hid ⟨HX.out, HG.out.me, HG.out.eR HX.out, by simp⟩, HB1.out, by simp⟩
    have := HO2.out
    rw [ints_replicate] at this
    rw [one_pad T s h]
    exact this
  case round =>
    obtain ⟨i, hi, rfl, R, O, hoR, hoO, hR, hb, hsz⟩ := hrel
    have HOR := Lib.hid hoR
    have HOO := Lib.hid hoO
    have HBr := Lib.hid hb
    clear hoR hoO hb HO1 HO2 HB1
    by_cases hlt : i < T.length
    · have hd : decide ((i : Int) < (T.length : Int)) = true := by simp; omega
      obtain ⟨L, hL⟩ : ∃ L, T[i]? = some L := ⟨_, List.getElem?_eq_getElem hlt⟩
      have ho7 : L.o ≤ 7 := HSM.out.2 L (List.mem_of_getElem? hL)
      have HLL := Lib.hid hL
      clear hL
      go_wp2_with fail
      go_loopg [18] (left L.o ((pad s R).getD i 0)) (fun k _ wi => ∃ R O : List Nat, Own w.heap.size wi (.slice (some ⟨g1, 0, none⟩) T.length c1) (ints (pad s R)) ∧ Own w.heap.size wi (.slice (some ⟨w1.heap.size, 0, none⟩) T.length T.length) (ints (pad s O)) ∧
        Hid (El (T.drop s) R ∧ El (T.drop s) O ∧ mul (T.drop s) x O = R ∧ R.take (i - s) = List.replicate (i - s) 0 ∧ k = left L.o ((pad s R).getD i 0)) ∧ Below w.heap.size w wi ∧ w1.heap.size < wi.heap.size)
      case atStart => exact ⟨R, O, HOR.out, HOO.out, Lib.hid ⟨hR.out.1, hR.out.2.1, hR.out.2.2.1, hR.out.2.2.2, rfl⟩, HBr.out, hsz⟩
      case round =>
        clear HOR HOO HBr hR
        obtain ⟨R, O, hoR, hoO, hR, hb, hsz⟩ := hrel
        have hRl : (pad s R).length = T.length := by rw [pad_length, El_length hR.out.1, List.length_drop]; omega
        obtain ⟨a, ha⟩ : ∃ a, (pad s R)[i]? = some a := ⟨_, List.getElem?_eq_getElem (by omega)⟩
        obtain ⟨s1, f1⟩ := hoR.cell (j := i) (a := (a : Int)) (by rw [ints_get, ha]; rfl)
        have hleft : (pad s R).getD i 0 = a := by rw [List.getD_eq_getElem?_getD, ha]; rfl
        have HLE := Lib.hid hleft
        have HA := Lib.hid ha
        have HOR := Lib.hid hoR
        have HOO := Lib.hid hoO
        have HBr := Lib.hid hb
        clear hoR hoO hb ha hleft hRl
        by_cases h0 : a = 0
        · subst h0
          have HRT := Lib.hid (show R.take (i + 1 - s) = List.replicate (i + 1 - s) 0 from by
            by_cases hsi : i < s
            · rw [show i + 1 - s = 0 by omega]; rfl
            · have ha := HA.out
              rw [pad, List.getElem?_append_right (by simp; omega)] at ha
              simp only [List.length_replicate] at ha
              rw [show i + 1 - s = (i - s) + 1 by omega, List.take_add_one, hR.out.2.2.2.1, ha, List.replicate_succ']; rfl)
          go_wp2_with fail
          go_roundw
          case rel => exact ⟨i + 1, by omega, by go_num, R, O, HOR.out, HOO.out, Lib.hid ⟨hR.out.1, hR.out.2.1, hR.out.2.2.1, HRT.out⟩, HBr.out, hsz⟩
          case measure => simp [intOf]; omega
        · have h1 : ((a : Int) != 0) = true := by simpa using h0
          have hsi : s ≤ i := by
            apply Nat.le_of_not_lt; intro hsi
            have ha := HA.out
            rw [pad, List.getElem?_append_left (by simp; omega)] at ha
            simp [hsi] at ha; omega
          have hat : R[i - s]? = some a := by
            have ha := HA.out
            rw [pad, List.getElem?_append_right (by simp; omega)] at ha
            simpa using ha
          have hao : a < L.o := by
            obtain ⟨L', hL', hlt'⟩ := El_lt hR.out.1 hat
            rw [List.getElem?_drop, Nat.add_sub_cancel' hsi, HLL.out] at hL'
            cases hL'; exact hlt'
          have HAT := Lib.hid hat
          have hA2 := (HST.out i hsi hlt hR.out.1)
          have hO2 := (HST.out i hsi hlt hR.out.2.1)
          obtain ⟨U, hU⟩ : ∃ U, U = unit (T.drop s) (i - s) := ⟨_, rfl⟩
          rw [← hU] at hA2 hO2
          have HUE := Lib.hid (show El (T.drop s) U by rw [hU]; exact El_unit (Wf_drop HT.out s) _)
          have HNX := Lib.hid (inv_next HLL.out hsi hat)
          have HA2 := Lib.hid hA2
          have HO2 := Lib.hid hO2
          have HZS := Lib.hid (show ∀ X : List Nat, El (T.drop s) X → (pad s X).length = T.length from fun X hX => by rw [pad_length, El_length hX, List.length_drop]; omega)
          clear hat hA2 hO2 hU
          go_wp2_with fail
          refine (HTG.out i hsi hlt (fun k => k < w.heap.size) _ b o w.heap.size g1 c1 (pad s R) ((PtrP_lt HP.out).keep (Keep.of_below HBr.out)) (by omega) (HZS.out R hR.out.1) (by have := El_drop hR.out.1 (i - s); rw [List.drop_drop, Nat.add_sub_cancel' hsi] at this; rw [show (pad s R).drop i = R.drop (i - s) by simp [pad, List.drop_append]; omega]; exact this) HOR.out).mono ?_
          rintro e w2 ⟨rfl, ho2, hg2⟩
          rw [HA2.out.1, HZS.out _ (HG.out.cl hR.out.1 HUE.out)] at ho2
          have HOR2 := Lib.hid ho2
          have HOO2 := Lib.hid (HOO.out.keep (S := fun k => ¬ k = g1) (Keep.grown hg2 (fun k hk e => hk (Option.some.inj e))) (fun k hk => by simp [Value.ownBlock] at hk; omega))
          have HB2 := Lib.hid (HBr.out.grown hg2 (by omega) (by intro k hk; cases hk; omega))
          have hsz2 : w1.heap.size < w2.heap.size := Nat.lt_of_lt_of_le hsz hg2.size
          clear ho2 hg2 s1 f1
          go_wp2_with fail
          refine (HTG.out i hsi hlt (fun k => k < w.heap.size) _ b o w.heap.size w1.heap.size T.length (pad s O) ((PtrP_lt HP.out).keep (Keep.of_below HB2.out)) (by omega) (HZS.out O hR.out.2.1) (by have := El_drop hR.out.2.1 (i - s); rw [List.drop_drop, Nat.add_sub_cancel' hsi] at this; rw [show (pad s O).drop i = O.drop (i - s) by simp [pad, List.drop_append]; omega]; exact this) HOO2.out).mono ?_
          rintro e w3 ⟨rfl, ho3, hg3⟩
          rw [HO2.out.1, HZS.out _ (HG.out.cl hR.out.2.1 HUE.out)] at ho3
          have HOO3 := Lib.hid ho3
          have HOR3 := Lib.hid (HOR2.out.keep (S := fun k => ¬ k = w1.heap.size) (Keep.grown hg3 (fun k hk e => hk (Option.some.inj e))) (fun k hk => by simp [Value.ownBlock] at hk; omega))
          have HB3 := Lib.hid (HB2.out.grown hg3 (by omega) (by intro k hk; cases hk; omega))
          have hsz3 : w1.heap.size < w3.heap.size := Nat.lt_of_lt_of_le hsz2 hg3.size
          clear ho3 hg3
          go_wp2_with fail
          go_roundg (left L.o ((pad s (mul (T.drop s) R U)).getD i 0))
          case measure =>
            have ha' : (pad s (mul (T.drop s) R U)).getD i 0 = if a + 1 = L.o then 0 else a + 1 := by
              rw [List.getD_eq_getElem?_getD, pad, List.getElem?_append_right (by simp; omega), List.length_replicate, HA2.out.2, HNX.out.1]; rfl
            rw [hR.out.2.2.2.2, HLE.out, ha']
            unfold left
            by_cases hc : a + 1 = L.o
            · rw [if_pos hc, if_pos rfl, if_neg h0]; omega
            · rw [if_neg hc, if_neg (by omega), if_neg h0]; omega
          case rel =>
            exact ⟨mul (T.drop s) R U, mul (T.drop s) O U, HOR3.out, HOO3.out, Lib.hid ⟨HG.out.cl hR.out.1 HUE.out, HG.out.cl hR.out.2.1 HUE.out, by rw [← HG.out.as HX.out hR.out.2.1 HUE.out, hR.out.2.2.1], by rw [HA2.out.2, HNX.out.2]; exact hR.out.2.2.2.1, rfl⟩, HB3.out, hsz3⟩
    · obtain rfl : i = T.length := by omega
      go_wp2_with fail
      go_ret
      have e1 : (ints (pad s O)).length = T.length := by rw [ints_length, pad_length, El_length hR.out.2.1, List.length_drop]; omega
      have e2 : R = one (T.drop s) := by
        have := hR.out.2.2.2
        rw [List.take_of_length_le (by rw [El_length hR.out.1, List.length_drop]; exact Nat.le_refl _)] at this
        rw [this]; simp [one]
      exact ⟨O, ⟨hR.out.2.1, by rw [hR.out.2.2.1, e2]⟩, w1.heap.size, T.length, by rw [e1]; rfl, by rw [e1]; exact HOO.out, HBr.out⟩
end Go.Proofs.YtbamkklhkhglnaaGreatDoor.ImplF
