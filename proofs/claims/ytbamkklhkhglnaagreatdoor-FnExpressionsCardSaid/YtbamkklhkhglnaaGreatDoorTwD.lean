import Derived.Test.YtbamkklhkhglnaaGreatDoorTwC
/-
  impl.presentationText: the walk.
-/
namespace Go.Proofs.YtbamkklhkhglnaaGreatDoor.TwD
open Go.RowKit Go.Lib Go.Proofs.YtbamkklhkhglnaaGreatDoor Go.Proofs.YtbamkklhkhglnaaGreatDoor.Tow Go.Proofs.YtbamkklhkhglnaaGreatDoor.CyA Go.Proofs.YtbamkklhkhglnaaGreatDoor.TxA Go.Proofs.YtbamkklhkhglnaaGreatDoor.TxB Go.Proofs.YtbamkklhkhglnaaGreatDoor.TxC Go.Proofs.YtbamkklhkhglnaaGreatDoor.TmA Go.Proofs.YtbamkklhkhglnaaGreatDoor.TiA Go.Proofs.YtbamkklhkhglnaaGreatDoor.TwA Go.Proofs.YtbamkklhkhglnaaGreatDoor.TwB Go.Proofs.YtbamkklhkhglnaaGreatDoor.TwC Go.Proofs.YtbamkklhkhglnaaGreatDoor.Val
set_option linter.unusedVariables false
set_option linter.unusedSimpArgs false

theorem slv {α : Type} {E : World → Value → α → Prop} {S : Nat → Prop} {w : World} {v : Value} {l : List α} {n : Nat} (h : SlG E S w v l) (hl : l.length = n) : ∃ a c, v = .slice a n c := by
  obtain ⟨a, c, e, _⟩ := slg_form h
  exact ⟨a, c, by rw [e, hl]⟩
theorem dT_nat {o : Int} (h : primeB o = true) : ∃ m : Nat, o = (m : Int) ∧ m < 100 ∧ dT o = decDigits m := by
  obtain ⟨h1, h2⟩ := primeB_le h
  exact ⟨o.toNat, by omega, by omega, rfl⟩
theorem Below.step' {a b c : World} (h : Below a.heap.size a b) (h2 : Below b.heap.size b c) : Below a.heap.size a c := h.trans (h2.mono h.size)
theorem stepB {a b c : World} {B : Nat} (h : Below a.heap.size a b) (hB : B ≤ b.heap.size) (h2 : Below b.heap.size b c) : Below a.heap.size a c := h.trans (h2.mono h.size)
set_option maxRecDepth 100000 in
set_option maxHeartbeats 2000000 in
theorem itxt_any (n : Nat) (p : RP) (h : TxOk n p) (b o : Nat) (w : World) (hP : PtrP (fun _ => True) w b o p.val) :
    Calls Tryz.prog 102 #[.pointer (some ⟨b, o, none⟩)] w (TxR (txt p) w) := by
  obtain ⟨i0, hi0, hz0, hz1, hz2⟩ := info_parts infoS
  obtain ⟨_, hbl, vO, vP, vC, q0, q1, q2, hV⟩ := hP
  obtain ⟨aO, cO, rfl⟩ := slv hV.os h.gd.sh.os
  obtain ⟨aP, cP, rfl⟩ := slv hV.ps (n := n) (by simp [RP.val, h.gd.sh.pl])
  obtain ⟨aC, cC, rfl⟩ := slv hV.cs (n := n) (by simp [RP.val, h.gd.sh.cl])
  have H := Lib.hid h
  have hn6 : n ≤ 6 := h.gd.n6
  have HV := Lib.hid hV
  have HBX := Lib.hid (fun (W : World) (hb : Below w.heap.size w W) => show W.cell? ⟨b, o, none⟩ = some (.slice aO n cO) ∧ W.cell? ⟨b, o + 1, none⟩ = some (.slice aP n cP) ∧ W.cell? ⟨b, o + 2, none⟩ = some (.slice aC n cC) from ⟨(hb.cell (p := ⟨b, o, none⟩) hbl).trans q0, (hb.cell (p := ⟨b, o + 1, none⟩) hbl).trans q1, (hb.cell (p := ⟨b, o + 2, none⟩) hbl).trans q2⟩)
  clear h hV
  go_enter Tryz.func102, Tryz.ntmps102
  go_wp2_with fail
  go_loopw [3, 18] (fun ov iv wr => ∃ (k : Nat) (ao : Option Addr) (co : Nat), k ≤ n ∧ iv = .int .i64 (k : Int) ∧ ov = .slice ao k co ∧ Hid (∃ Ls : List ByteArray, wr.ownsRow w.heap.size 9 1 (.slice ao k co) k (strs Ls) ∧ Ls.map (·.data.toList) = (p.os.take k).map dT) ∧ Hid (Below w.heap.size w wr)) (fun _ iv _ => n - (intOf iv).toNat)
  case atStart => exact ⟨0, _, _, Nat.zero_le _, rfl, rfl, Lib.hid ⟨[], World.ownsRow_nil _ _ _ _, rfl⟩, Lib.hid (Below.refl _ _)⟩
  case round =>
    obtain ⟨k, ao, co, hk, rfl, rfl, hO, hB⟩ := hrel
    by_cases hlt : k < n
    · obtain ⟨x, hx⟩ : ∃ x, p.os[k]? = some x := ⟨_, List.getElem?_eq_getElem (by rw [H.out.gd.sh.os]; exact hlt)⟩
      obtain ⟨m, hxm, hm100, hdm⟩ := dT_nat (H.out.gd.pr x (List.mem_of_getElem? hx))
      obtain ⟨b', o', u, rfl, _, hbu, hcu, rfl⟩ := slg_get (HV.out.os.keep (Keep.of_below hB.out)) hx
      have HTK := Lib.hid (show (p.os.take (k + 1)).map dT = (p.os.take k).map dT ++ [decDigits m] from by rw [List.take_add_one, hx, ← hdm]; simp)
      subst hxm
      have hki : (k : Int) < (n : Int) := by omega
      obtain ⟨Ls, hO1, hO2⟩ := hO.out
      have a1 := ownsRow_keep hO1 (S := fun _ => True) ((Keep.refl _ wr).alloc (.cells #[.string ⟨(decDigits m).toArray⟩] 9)) (fun _ _ => trivial)
      have HA1 := Lib.hid a1
      have HO2 := Lib.hid hO2
      have hBs := hB.out.size
      clear hx hdm hO hO1 hO2 a1
      go_wp2_with (first | (go_at_call 123; refine (Tryz.strconv_FormatInt_10_small m hm100 _).mono ?_; rintro e w5 ⟨rfl, rfl⟩) | (at_builtin; (refine wpList_append_lies _ rfl _ _ 35 rfl w.heap.size 9 i0 (.string ⟨#[]⟩) 1 16 Tryz.underlying35 hi0 hz0 hz1 hz2 rfl (by decide) _ _ _ rfl HA1.out ⟨w5.heap.size, 0, none⟩ 1 1 [.string ⟨(decDigits m).toArray⟩] rfl rfl (World.news_of_block (cs := #[.string ⟨(decDigits m).toArray⟩]) (t := 9) (fr := (0, 0)) (heap_alloc_new w5 _)) (by simp [Value.oneCell']) (by decide) (by unfold maxLen; omega) (by omega) (by simp; omega) _ rfl ?_)) | fail)
      intro g2 cap2 w6 hown2 hgrow2 hat2 hlt2
      have HB6 := Lib.hid ((hB.out.alloc hBs (.cells #[.string ⟨(decDigits m).toArray⟩] 9)).grown hgrow2 (by simp; omega) (fun g hg => (World.ownsRow.lt HA1.out g hg).1))
      have HO6 := Lib.hid (show ∃ Ls : List ByteArray, w6.ownsRow w.heap.size 9 1 (.slice (some ⟨g2, 0, none⟩) (k + 1) cap2) (k + 1) (strs Ls) ∧ Ls.map (·.data.toList) = (p.os.take (k + 1)).map dT from ⟨Ls ++ [⟨(decDigits m).toArray⟩], strs_push hown2, by rw [HTK.out, List.map_append, HO2.out]; rfl⟩)
      clear hown2 hgrow2 hat2 hlt2 hB hBs
      go_wp2_with fail
      go_roundw
      case rel => exact ⟨k + 1, _, cap2, by omega, by go_num, rfl, HO6, HB6⟩
      case measure => simp [intOf]; omega
    · obtain rfl : n = k := by omega
      obtain ⟨Ls0, hO1, hO2⟩ := hO.out
      rw [List.take_of_length_le (by rw [H.out.gd.sh.os]; exact Nat.le_refl _)] at hO2
      have HLs0 := Lib.hid (And.intro hO1 hO2)
      have HBa := Lib.hid hB.out
      clear hO hB hO1 hO2 hlt hk
      rename World => wa
      go_upto_if 30 with (fail)
      go_cut [3] (fun v W => ∃ g c m, v = .slice (some ⟨g, 0, none⟩) m c ∧ m ≤ 7 ∧ 1 ≤ m ∧ Hid (∃ Ls : List ByteArray, Ls.length = m ∧ W.ownsRow w.heap.size 9 1 (.slice (some ⟨g, 0, none⟩) m c) m (strs Ls) ∧ Ls.map (·.data.toList) = OT p.os) ∧ Hid (Below w.heap.size w W))
      case first =>
        by_cases hn0 : n = 0
        · have hz : ((n : Int) == 0) = true := by rw [hn0]; rfl
          go_wp2_with fail
          go_meet
          refine ⟨_, _, 1, rfl, by omega, by omega, Lib.hid ⟨[⟨#[49]⟩], rfl, World.ownsRow_lit (base := w.heap.size) (e := 9) (size := 1) wa #[.string ⟨#[49]⟩] 1 HBa.out.size (by unfold maxLen; omega) rfl, ?_⟩, Lib.hid (HBa.out.alloc HBa.out.size _)⟩
          unfold OT
          rw [if_pos (List.eq_nil_of_length_eq_zero (by rw [H.out.gd.sh.os]; exact hn0))]
          rfl
        · have hz : ((n : Int) == 0) = false := beq_eq_false_iff_ne.2 (by omega)
          go_wp2_with fail
          go_meet
          obtain ⟨hO1, hO2⟩ := HLs0.out
          rcases hO1.2 with ⟨_, h0⟩ | ⟨g, cap, cu, h', _⟩
          · exact absurd h0 hn0
          · obtain ⟨rfl, rfl⟩ : ao = some ⟨g, 0, none⟩ ∧ co = cap := by simpa using h'
            refine ⟨g, co, n, rfl, by omega, by omega, Lib.hid ⟨Ls0, by have := hO1.1; simpa using this, hO1, ?_⟩, HBa⟩
            unfold OT
            rw [if_neg (fun e => hn0 (by rw [← H.out.gd.sh.os, e]; rfl)), hO2]
      case rest =>
        obtain ⟨g1, c1, m1, rfl, hm7, hm1, hLs, hBc⟩ := hcut
        obtain ⟨L1, hl1, hr1, he1⟩ := hLs.out
        rename World => wb
        have HB1 := Lib.hid hBc.out
        have HJ := Lib.hid (join_any g1 m1 c1 L1 hl1 ⟨#[32]⟩ wb _ hr1 (by omega) (fun x hx => by
          have h1 : x.data.toList ∈ OT p.os := by rw [← he1]; exact List.mem_map.2 ⟨x, hx, rfl⟩
          have h2 : x.data.toList.length ≤ 100000 := by
            unfold OT at h1
            split at h1
            · have : x.data.toList = [49] := by simpa using h1
              rw [this]; simp
            · obtain ⟨o, ho, e⟩ := List.mem_map.1 h1
              obtain ⟨b, e2, _⟩ := dT_prime (H.out.gd.pr o ho)
              rw [← e, e2]; simp
          simpa using h2) (by decide))
        rw [he1] at HJ
        rw [show join (OT p.os) (⟨#[32]⟩ : ByteArray).data.toList = ordT p.os from OT_join p.os] at HJ
        have HL1 := Lib.hid (And.intro hl1 (And.intro hr1 he1))
        clear HLs0 HBa hLs hBc hl1 hr1 he1
        go_upto_region 10 with (first | (go_at_call 124; refine HJ.out.mono ?_; rintro e w3 ⟨s3, rfl, hs3, hb3⟩) | fail)
        obtain ⟨g4, hg4⟩ : ∃ g4, w3.heap.size = g4 := ⟨_, rfl⟩
        obtain ⟨w4, hw4⟩ : ∃ w4, w4 = w3.alloc (.cells #[.string s3] 9) := ⟨_, rfl⟩
        rw [← hw4, hg4]
        have HO4 := Lib.hid (show ∃ Ls : List ByteArray, Ls.length = 1 ∧ w4.ownsRow g4 9 1 (.slice (some ⟨g4, 0, none⟩) 1 1) 1 (strs Ls) ∧ Ls.map (·.data.toList) = PT p (powR p 0) from
          ⟨[s3], rfl, by rw [hw4, ← hg4]; exact World.ownsRow_lit (base := w3.heap.size) (e := 9) (size := 1) w3 #[.string s3] 1 (Nat.le_refl _) (by unfold maxLen; omega) rfl, by show [s3.data.toList] = _; rw [hs3]; rfl⟩)
        have HB4 := Lib.hid (show Below w.heap.size w w4 from by rw [hw4]; exact (HB1.out.trans (hb3.mono HB1.out.size)).alloc (Nat.le_trans HB1.out.size hb3.size) _)
        have HG1 := Lib.hid (show ∀ (k : Nat) (t : ByteArray), L1[k]? = some t → w4.cell? ⟨g1, k, none⟩ = some (.string t) ∧ g1 < g4 from fun k t hk => by
          obtain ⟨g, c, e, _, h2, h3⟩ := strs_at HL1.out.2.1 hk
          obtain ⟨rfl, _⟩ : g1 = g ∧ c1 = c := by simpa using e
          have h4 : g1 < w3.heap.size := Nat.lt_of_lt_of_le h2 hb3.size
          refine ⟨?_, by omega⟩
          rw [hw4, (((Below.refl _ _).alloc (Nat.le_refl _) _).cell (p := ⟨g1, k, none⟩) h4), hb3.cell (p := ⟨g1, k, none⟩) h2]
          exact h3)
        have HS4 := Lib.hid (show g4 ≤ w4.heap.size ∧ w.heap.size ≤ g4 from by rw [hw4]; have h1 := hb3.size; have h2 := HB1.out.size; simp; omega)
        have HLT := Lib.hid (show L1.length = m1 ∧ L1.map (·.data.toList) = OT p.os from ⟨HL1.out.1, HL1.out.2.2⟩)
        clear hw4 hg4 hs3 hb3 HJ HL1
        obtain ⟨q0, q1, q2⟩ := HBX.out w4 HB4.out
        go_wp2_with fail
        go_loopw [6, 40] (fun ov iv wr => ∃ (k m : Nat) (ao : Option Addr) (co : Nat), k ≤ n ∧ m ≤ 1 + k ∧ iv = .int .i64 (k : Int) ∧ ov = .slice ao m co ∧ Hid (∃ Ls : List ByteArray, Ls.length = m ∧ wr.ownsRow g4 9 1 (.slice ao m co) m (strs Ls) ∧ Ls.map (·.data.toList) = PT p (powR p k)) ∧ Hid (Below g4 w4 wr)) (fun _ iv _ => n - (intOf iv).toNat)
        case atStart => exact ⟨0, 1, _, _, Nat.zero_le _, Nat.le_refl _, rfl, rfl, HO4, Lib.hid (Below.refl _ _)⟩
        case round =>
          obtain ⟨k, m, ao, co, hk, hm, rfl, rfl, hO, hB⟩ := hrel
          clear q0 q1 q2
          have HBw := Lib.hid (HB4.out.trans (hB.out.mono HS4.out.2))
          by_cases hlt : k < n
          · have hki : (k : Int) < (n : Int) := by omega
            obtain ⟨v, hv⟩ : ∃ v, p.ps[k]? = some v := ⟨_, List.getElem?_eq_getElem (by rw [H.out.gd.sh.pl]; exact hlt)⟩
            have hvl := H.out.gd.sh.pr v (List.mem_of_getElem? hv)
            have hvb := H.out.pb v (List.mem_of_getElem? hv)
            obtain ⟨b', o', u, rfl, _, hbu, hcu, hsu⟩ := slg_get (HV.out.ps.keep (Keep.of_below HBw.out)) (show p.val.ps[k]? = some (ints v) by simp [RP.val, hv])
            obtain ⟨au, cu, rfl⟩ := slv (n := n) hsu (by rw [ints_length]; exact hvl)
            have HSU := Lib.hid hsu
            have HZ := Lib.hid (ImplV.isZero_any (fun _ => True) (.slice au n cu) (ints v) wr hsu)
            have HPS := Lib.hid (powR_succ p k)
            have HD := Lib.hid (show p.ps.getD k [] = v from getD_of hv)
            have HVV := Lib.hid (And.intro hvl hvb)
            clear hv hvl hvb hsu
            have HO := hO
            have HBB := hB
            have hBsz := hB.out.size
            clear hO hB
            go_upto_block 3 with (fail)
            go_cut [6] (fun v W => ∃ (m : Nat) (ao : Option Addr) (co : Nat), m ≤ 1 + (k + 1) ∧ v = .slice ao m co ∧ Hid (∃ Ls : List ByteArray, Ls.length = m ∧ W.ownsRow g4 9 1 (.slice ao m co) m (strs Ls) ∧ Ls.map (·.data.toList) = PT p (powR p (k + 1))) ∧ Hid (Below g4 w4 W))
            case rest =>
              obtain ⟨m', ao', co', hm', rfl, hO', hB'⟩ := hcut
              clear HZ HSU HPS HD HVV HO HBB HBw
              go_wp2_with fail
              go_roundw
              case rel => exact ⟨k + 1, m', _, co', by omega, by omega, by go_num, rfl, hO', hB'⟩
              case measure => simp [intOf]; omega
            case first =>
              by_cases hz : v = zer n
              · have HN := Lib.hid (show powR p (k + 1) = powR p k from by
                  rw [HPS.out]; unfold pwF
                  rw [HD.out, H.out.gd.sh.os, if_pos hz]; simp)
                have HZT := Lib.hid ((zero_zer v).2 (by rw [HVV.out.1]; exact hz))
                clear hz
                go_wp2_with (first | (go_at_call 125; refine HZ.out.mono ?_; rintro e w5 ⟨r, rfl, hr, rfl⟩; obtain rfl : r = true := hr.2 HZT.out; clear hr) | fail)
                go_meet
                exact ⟨m, _, co, by omega, rfl, Lib.hid (by rw [HN.out]; exact HO.out), HBB⟩
              · have HZF := Lib.hid (fun h => hz (((zero_zer v).1 h).trans (by rw [HVV.out.1])))
                have hO := HO
                have hB := HBB
                have HN := Lib.hid (show powR p (k + 1) = powR p k ++ [⟨k, none, v⟩] from by
                  rw [HPS.out]; unfold pwF
                  rw [HD.out, H.out.gd.sh.os, if_neg hz]; rfl)
                obtain ⟨x, hx⟩ : ∃ x, p.os[k]? = some x := ⟨_, List.getElem?_eq_getElem (by rw [H.out.gd.sh.os]; exact hlt)⟩
                have hm1n : m1 = n ∧ OT p.os = p.os.map dT := by
                  have h1 := HLT.out
                  have h2 : OT p.os = p.os.map dT := by
                    unfold OT
                    rw [if_neg (fun e => by have := H.out.gd.sh.os; rw [e] at this; simp at this; omega)]
                  refine ⟨?_, h2⟩
                  have h3 := congrArg List.length h1.2
                  rw [h2, List.length_map, List.length_map, h1.1, H.out.gd.sh.os] at h3
                  exact h3
                obtain ⟨xt, hxt⟩ : ∃ xt, L1[k]? = some xt := ⟨_, List.getElem?_eq_getElem (by rw [HLT.out.1, hm1n.1]; exact hlt)⟩
                have hxd : xt.data.toList = dT x := by
                  have h1 := congrArg (·[k]?) (HLT.out.2.trans hm1n.2)
                  simp only [List.getElem?_map, hxt, hx] at h1
                  exact Option.some.inj h1
                have hxs : xt.size = 1 := by
                  obtain ⟨b, e2, _⟩ := dT_prime (H.out.gd.pr x (List.mem_of_getElem? hx))
                  have := congrArg List.length (hxd.trans e2)
                  simpa using this
                have HWL := Lib.hid (show ∀ s : ByteArray, s.data.toList = wtx v → s.size ≤ 1000 from fun s hs => by
                  have h1 := wtx_len v HVV.out.2
                  rw [HVV.out.1] at h1
                  have h2 := congrArg List.length hs
                  have h3 : s.data.toList.length = s.size := by simp
                  omega)
                have HNP := Lib.hid (show (nwF 0 v).length ≤ 100000 ∧ (∀ x ∈ nwF 0 v, 1 ≤ x ∧ x ≤ 100) from ⟨by
                  have := nwF_len v 0 100 HVV.out.2
                  rw [HVV.out.1] at this
                  omega, fun x hx => by
                  obtain ⟨i, hi, rfl⟩ := nwF_mem v 0 x hx
                  rw [HVV.out.1] at hi
                  omega⟩)
                have HXD := Lib.hid (show xt.data.toList = byT p.os ⟨k, none, v⟩ from by rw [hxd]; show _ = dT (p.os.getD k 0); rw [getD_of hx])
                obtain ⟨gc, gl⟩ := HG1.out k xt hxt
                have hg1 := (hB.out.cell (p := ⟨g1, k, none⟩) gl).trans gc
                have hkm1 : (k : Int) < (m1 : Int) := by rw [hm1n.1]; exact hki
                have hsm : g4 ≤ wr.heap.size := Nat.le_trans HS4.out.1 hB.out.size
                obtain ⟨Ls, hO1, hO2, hO3⟩ := hO.out
                have hgr : ∀ k, k < g4 → some k ≠ (Value.slice ao m co).ownBlock := fun k hk e => by
                  have := (World.ownsRow.lt hO2 k e.symm).1
                  omega
                have HO2 := Lib.hid hO2
                have HO3 := Lib.hid (And.intro hO1 hO3)
                have HNW := Lib.hid (fun W (hk : Keep (fun _ => True) wr W) => inw_any au n cu v HVV.out.1 (by omega) HVV.out.2 W (HSU.out.keep hk))
                have HLE := Lib.hid (fun W => letterOf_any k (by omega) W)
                have HB := Lib.hid hB.out
                clear hx hxt hxd hm1n gc hO hO1 hO2 hO3 hB hz
                have hg1l : g1 < wr.heap.size := Nat.lt_of_lt_of_le gl hsm
                clear HPS HD HO HBB
                go_upto_region 14 with (first | (go_at_call 125; refine HZ.out.mono ?_; rintro e w5 ⟨r, rfl, hr, rfl⟩; obtain rfl : r = false := (by cases r; exact rfl; exact absurd (hr.1 rfl) HZF.out); clear hr) | fail)
                clear HZ HZF
                go_region_held3 (fun w' => (∀ b o, b < g4 → w'.cell? ⟨b, o, none⟩ = wr.cell? ⟨b, o, none⟩) ∧ Keep (fun k => k < g4) wr w')
                  (first | exact kS_mk hsm (by repeat (first | exact (Keep.refl _ _).drew | exact Keep.refl _ _ | refine Keep.alloc ?_ _ | refine Keep.trans ?_ (Keep.of_below (by assumption)) | refine Keep.trans ?_ (Keep.grown (by assumption) hgr))))
                  (first | (go_at_call 126; refine (HLE.out _).mono ?_; rintro e w5 ⟨rfl, rfl⟩) | (go_at_call 128; refine (HNW.out _ (by repeat (first | exact (Keep.refl _ _).drew | exact Keep.refl _ _ | exact (Keep.refl _ _).alloc _ | exact ((Keep.refl _ _).alloc _).drew | refine Keep.trans ?_ (Keep.of_below (by assumption))))).mono ?_; rintro e w6 ⟨u6, rfl, ho6, hb6⟩; obtain ⟨a6, c6, rfl, _, _, _⟩ := owns_form ho6) | (go_at_call 127; refine (itext_any a6 _ c6 (nwF 0 v) rfl HNP.out.1 HNP.out.2 _ ((Own.sl ho6).mono fun _ _ => trivial)).mono ?_; rintro e w7 ⟨s7, rfl, hs7, hb7⟩; rw [wtI_nw] at hs7; have hs7s := HWL.out s7 hs7; have hs7c : (9223372036854775807 < 4 + s7.size) = False := eq_false (by omega); have hs78 : wr.heap.size ≤ w7.heap.size := (show Keep (fun _ => True) wr w7 from (by repeat (first | exact (Keep.refl _ _).drew | exact Keep.refl _ _ | exact (Keep.refl _ _).alloc _ | exact ((Keep.refl _ _).alloc _).drew | refine Keep.trans ?_ (Keep.of_below (by assumption))))).size) | (refine step_append_lies _ (by rfl) _ _ _ (by rfl) g4 9 i0 (.string ⟨#[]⟩) 1 16 Tryz.underlying35 hi0 hz0 hz1 hz2 rfl (by omega) _ m (strs Ls) (by rfl) ((ownsRow_keep HO2.out (S := fun _ => True) (by repeat (first | exact (Keep.refl _ _).drew | exact Keep.refl _ _ | exact (Keep.refl _ _).alloc _ | exact ((Keep.refl _ _).alloc _).drew | refine Keep.trans ?_ (Keep.of_below (by assumption)))) (fun _ _ => trivial)).alloc _) ⟨w7.heap.size, 0, none⟩ 1 1 [.string (((((⟨#[ltr k]⟩ : ByteArray) ++ ⟨#[94]⟩) ++ xt) ++ ⟨#[61]⟩) ++ s7)] (by rfl) (by rfl) (World.news_of_block (cs := #[.string (((((⟨#[ltr k]⟩ : ByteArray) ++ ⟨#[94]⟩) ++ xt) ++ ⟨#[61]⟩) ++ s7)]) (t := 9) (fr := (0, 0)) (heap_alloc_new w7 _)) (by simp [Value.oneCell']) (by omega) (by unfold maxLen; omega) (by omega) (by simp; omega) _ rfl ?_; intro gg cap w10 hown10 hgrow10 hat10 hlt10))
                have h7 : Below wr.heap.size wr w7 := (by repeat (first | exact Below.refl _ _ | exact (Below.refl _ _).drew | refine stepB ?_ (Nat.le_refl _) (by assumption)))
                have HN2 := Lib.hid (show ∃ Ls : List ByteArray, Ls.length = m + 1 ∧ w10.ownsRow g4 9 1 (.slice (some ⟨gg, 0, none⟩) (m + 1) cap) (m + 1) (strs Ls) ∧ Ls.map (·.data.toList) = PT p (powR p (k + 1)) from
                  ⟨Ls ++ [(((((⟨#[ltr k]⟩ : ByteArray) ++ ⟨#[94]⟩) ++ xt) ++ ⟨#[61]⟩) ++ s7)], by rw [List.length_append, HO3.out.1]; rfl, strs_push hown10, by
                    rw [HN.out, PT_app, List.map_append, HO3.out.2, List.map_cons, List.map_nil, rel_bytes (((((⟨#[ltr k]⟩ : ByteArray) ++ ⟨#[94]⟩) ++ xt) ++ ⟨#[61]⟩) ++ s7) xt s7 k [] p.os ⟨k, none, v⟩ rfl HXD.out hs7]; rfl⟩)
                have HNB := Lib.hid (show Below g4 w4 w10 from ((HB.out.trans (h7.mono hsm)).alloc (by omega) _).grown hgrow10 (by simp; omega) (fun g hg => (World.ownsRow.lt HO2.out g hg).1))
                clear hown10 hgrow10 hat10 hlt10 h7
                go_wp2_with fail
                go_meet
                exact ⟨m + 1, _, cap, by omega, rfl, HN2, HNB⟩
          · obtain rfl : n = k := by omega
            have HO8 := Lib.hid (show ∃ Ls : List ByteArray, Ls.length = m ∧ wr.ownsRow g4 9 1 (.slice ao m co) m (strs Ls) ∧ Ls.map (·.data.toList) = PT p (powR p n ++ conR p 0) from by
              rw [show conR p 0 = [] from rfl, List.append_nil]; exact hO.out)
            obtain ⟨q0, q1, q2⟩ := HBX.out wr HBw.out
            have HB8 := Lib.hid hB.out
            have hm8 : m ≤ 7 + 0 * 6 := by omega
            clear hO hB hlt hm hk
            rename World => w8
            go_wp2_with fail
            go_loopw [6, 70] (fun ov iv wr => ∃ (i m : Nat) (ao : Option Addr) (co : Nat), i ≤ n ∧ m ≤ 7 + i * 6 ∧ iv = .int .i64 (i : Int) ∧ ov = .slice ao m co ∧ Hid (∃ Ls : List ByteArray, Ls.length = m ∧ wr.ownsRow g4 9 1 (.slice ao m co) m (strs Ls) ∧ Ls.map (·.data.toList) = PT p (powR p n ++ conR p i)) ∧ Hid (Below g4 w4 wr)) (fun _ iv _ => n - (intOf iv).toNat)
            case atStart => exact ⟨0, m, _, co, Nat.zero_le _, hm8, rfl, rfl, HO8, HB8⟩
            case round =>
              clear HO8 HB8 HBw q0 q1 q2 hm8
              obtain ⟨i, m, ao, co, hi, hm, rfl, rfl, hO, hB⟩ := hrel
              have HBw := Lib.hid (HB4.out.trans (hB.out.mono HS4.out.2))
              by_cases hlt : i < n
              · have hki : (i : Int) < (n : Int) := by omega
                obtain ⟨q0, q1, q2⟩ := HBX.out wr HBw.out
                obtain ⟨L, hL⟩ : ∃ L, p.cs[i]? = some L := ⟨_, List.getElem?_eq_getElem (by rw [H.out.gd.sh.cl]; exact hlt)⟩
                obtain ⟨hLl, hLr⟩ := H.out.gd.sh.cr i L hL
                have hLb := H.out.cb L (List.mem_of_getElem? hL)
                obtain ⟨ln, hln⟩ : ∃ ln, n - (i + 1) = ln := ⟨_, rfl⟩
                rw [hln] at hLl
                have HLN := Lib.hid hln
                have hln6 : ln ≤ 6 := by omega
                obtain ⟨bC, oC, u, rfl, _, hbuw, hcuw, hsu⟩ := slg_get HV.out.cs (show p.val.cs[i]? = some (L.map ints) by simp [RP.val, hL])
                have hcu := ((Keep.of_below (S := fun _ => True) HBw.out).cell trivial hbuw).trans hcuw
                have hbu : bC < wr.heap.size := Nat.lt_of_lt_of_le hbuw HBw.out.size
                obtain ⟨aL, cL, rfl⟩ := slv (n := ln) hsu (by rw [List.length_map]; exact hLl)
                have HSL := Lib.hid hsu
                have HD := Lib.hid (show p.cs.getD i [] = L from getD_of hL)
                have HLF := Lib.hid (And.intro hLl (And.intro hLr hLb))
                have HO9 := Lib.hid (show ∃ Ls : List ByteArray, Ls.length = m ∧ wr.ownsRow g4 9 1 (.slice ao m co) m (strs Ls) ∧ Ls.map (·.data.toList) = PT p (powR p n ++ conR p i ++ conI p i 0) from by
                  rw [show conI p i 0 = [] from rfl, List.append_nil]; exact hO.out)
                have HB9 := Lib.hid hB.out
                have hm9 : m ≤ 7 + i * 6 + 0 := by omega
                clear hL hLl hLr hLb hln hsu hO hB hm hbuw hcuw
                go_wp2_with fail
                go_loopw [6, 81] (fun ov iv wr => ∃ (k m : Nat) (ao : Option Addr) (co : Nat), k ≤ ln ∧ m ≤ 7 + i * 6 + k ∧ iv = .int .i64 (k : Int) ∧ ov = .slice ao m co ∧ Hid (∃ Ls : List ByteArray, Ls.length = m ∧ wr.ownsRow g4 9 1 (.slice ao m co) m (strs Ls) ∧ Ls.map (·.data.toList) = PT p (powR p n ++ conR p i ++ conI p i k)) ∧ Hid (Below g4 w4 wr)) (fun _ iv _ => ln - (intOf iv).toNat)
                case atStart => exact ⟨0, m, _, co, Nat.zero_le _, hm9, rfl, rfl, HO9, HB9⟩
                case round =>
                  clear HO9 HB9 q0 q1 q2 hm9
                  obtain ⟨k, m, ao, co, hk, hm, rfl, rfl, hO, hB⟩ := hrel
                  have HBw := Lib.hid (HB4.out.trans (hB.out.mono HS4.out.2))
                  by_cases hlt2 : k < ln
                  · have hki2 : (k : Int) < (ln : Int) := by omega
                    obtain ⟨v, hv⟩ : ∃ v, L[k]? = some v := ⟨_, List.getElem?_eq_getElem (by rw [HLF.out.1]; exact hlt2)⟩
                    have hvl := HLF.out.2.1 v (List.mem_of_getElem? hv)
                    have hvb := HLF.out.2.2 v (List.mem_of_getElem? hv)
                    obtain ⟨j, hj⟩ : ∃ j, i + 1 + k = j := ⟨_, rfl⟩
                    have hjn : j < n := by have := HLN.out; omega
                    have HJ := Lib.hid hj
                    clear hj
                    obtain ⟨b', o', u, rfl, _, hbu2, hcu2, hsu⟩ := slg_get (Sl2.keep HSL.out (Keep.of_below HBw.out)) (show (L.map ints)[k]? = some (ints v) by simp [hv])
                    obtain ⟨au, cu, rfl⟩ := slv (n := n) hsu (by rw [ints_length]; exact hvl)
                    have HSU := Lib.hid hsu
                    have HPS := Lib.hid (conI_succ p i k)
                    have HDK := Lib.hid (show (p.cs.getD i []).getD k [] = v from by rw [HD.out]; exact getD_of hv)
                    have HVV := Lib.hid (And.intro hvl hvb)
                    have hw1 : IntKind.i64.wrap ((i : Int) + 1) = (i : Int) + 1 := IntWalk.i64_in _ (by omega)
                    have hw2 : IntKind.i64.wrap ((i : Int) + 1 + (k : Int)) = (j : Int) := by have := HJ.out; rw [IntWalk.i64_in _ (by omega)]; omega
                    have hsm : g4 ≤ wr.heap.size := Nat.le_trans HS4.out.1 hB.out.size
                    obtain ⟨Ls, hO1, hO2, hO3⟩ := hO.out
                    have HO2 := Lib.hid hO2
                    have HO3 := Lib.hid (And.intro hO1 hO3)
                    have HBr := hB
                    clear hv hvl hvb hsu hO hB hO1 hO2 hO3
                    go_upto_block 7 with (fail)
                    go_cut [6] (fun v W => ∃ (m : Nat) (ao : Option Addr) (co : Nat), m ≤ 7 + i * 6 + (k + 1) ∧ v = .slice ao m co ∧ Hid (∃ Ls : List ByteArray, Ls.length = m ∧ W.ownsRow g4 9 1 (.slice ao m co) m (strs Ls) ∧ Ls.map (·.data.toList) = PT p (powR p n ++ conR p i ++ conI p i (k + 1))) ∧ Hid (Below g4 w4 W))
                    case rest =>
                      obtain ⟨m', ao', co', hm', rfl, hO', hB'⟩ := hcut
                      clear HSU HPS HDK HVV HO2 HO3 HBr hsm
                      go_wp2_with fail
                      go_roundw
                      case rel => exact ⟨k + 1, m', _, co', by omega, by omega, by go_num, rfl, hO', hB'⟩
                      case measure => simp [intOf]; omega
                    case first =>
                      have HU := Lib.hid (fun W => ImplG.unitVector_any n j hn6 hjn W)
                      have hul : (ints ((List.replicate n 0).set j 1)).length = n := by rw [ints_length]; simp
                      have HUL := Lib.hid hul
                      clear hul
                      by_cases hz : v = unt n j
                      · have HN := Lib.hid (show conI p i (k + 1) = conI p i k from by
                          rw [HPS.out]; unfold cjF
                          rw [HDK.out, H.out.gd.sh.os, HJ.out, if_pos hz]; simp)
                        have hdec : decide (ints v = ints ((List.replicate n 0).set j 1)) = true := decide_eq_true (by rw [hz]; rfl)
                        clear hz
                        go_wp2_with (first | (go_at_call 118; refine (HU.out _).mono ?_; rintro e w5 ⟨g5, c5, rfl, ho5, hb5⟩; have hs5 := (Own.sl ho5).mono (S' := fun _ => True) fun _ _ => trivial; rw [HUL.out] at hs5 ⊢) | (go_at_call 129; refine (ImplG.equal_any _ _ _ (ints v) _ (HSU.out.keep (Keep.of_below hb5)) hs5).mono ?_; rintro e w7 ⟨rfl, n7, rfl⟩; rw [hdec]) | fail)
                        go_meet
                        exact ⟨m, _, co, by omega, rfl, Lib.hid (by rw [HN.out]; exact ⟨Ls, HO3.out.1, ownsRow_keep HO2.out (S := fun _ => True) (Keep.drewN (Keep.of_below hb5) _) (fun _ _ => trivial), HO3.out.2⟩), Lib.hid (below_drewN (HBr.out.trans (hb5.mono hsm)) _)⟩
                      · have hdec : decide (ints v = ints ((List.replicate n 0).set j 1)) = false := decide_eq_false (fun e => hz (by
                          have h2 := congrArg (List.map Int.toNat) e
                          unfold ints at h2
                          rw [List.map_map, List.map_map] at h2
                          have h3 : (Int.toNat ∘ Int.ofNat) = id := by funext x; simp
                          rw [h3, List.map_id, List.map_id] at h2
                          exact h2))
                        have HN := Lib.hid (show conI p i (k + 1) = conI p i k ++ [⟨j, some i, v⟩] from by
                          rw [HPS.out]; unfold cjF
                          rw [HDK.out, H.out.gd.sh.os, HJ.out, if_neg hz]; rfl)
                        have HNW := Lib.hid (fun W (hk : Keep (fun _ => True) wr W) => inw_any au n cu v HVV.out.1 (by omega) HVV.out.2 W (HSU.out.keep hk))
                        have hj26 : j < 26 := by omega
                        have hi26 : i < 26 := by omega
                        have HWL := Lib.hid (show ∀ s : ByteArray, s.data.toList = wtx v → s.size ≤ 1000 from fun s hs => by
                          have h1 := wtx_len v HVV.out.2
                          rw [HVV.out.1] at h1
                          have h2 := congrArg List.length hs
                          have h3 : s.data.toList.length = s.size := by simp
                          omega)
                        have HNP := Lib.hid (show (nwF 0 v).length ≤ 100000 ∧ (∀ x ∈ nwF 0 v, 1 ≤ x ∧ x ≤ 100) from ⟨by
                          have := nwF_len v 0 100 HVV.out.2
                          rw [HVV.out.1] at this
                          omega, fun x hx => by
                          obtain ⟨i, hi, rfl⟩ := nwF_mem v 0 x hx
                          rw [HVV.out.1] at hi
                          omega⟩)
                        clear hz HPS HDK
                        go_wp2_with (first | (go_at_call 118; refine (HU.out _).mono ?_; rintro e w5 ⟨g5, c5, rfl, ho5, hb5⟩; have hs5 := (Own.sl ho5).mono (S' := fun _ => True) fun _ _ => trivial; rw [HUL.out] at hs5 ⊢) | (go_at_call 129; refine (ImplG.equal_any _ _ _ (ints v) _ (HSU.out.keep (Keep.of_below hb5)) hs5).mono ?_; rintro e w5' ⟨rfl, n7, rfl⟩; rw [hdec]) | (go_at_call 126; refine (letterOf_any _ (by omega) _).mono ?_; rintro e w8 ⟨rfl, rfl⟩) | (go_at_call 128; refine (HNW.out _ (by repeat (first | exact (Keep.refl _ _).drew | exact Keep.refl _ _ | exact (Keep.refl _ _).alloc _ | refine Keep.drewN ?_ _ | refine Keep.trans ?_ (Keep.of_below (by assumption))))).mono ?_; rintro e w6 ⟨u6, rfl, ho6, hb6⟩; obtain ⟨a6, c6, rfl, _, _, _⟩ := owns_form ho6) | (go_at_call 127; refine (itext_any a6 _ c6 (nwF 0 v) rfl HNP.out.1 HNP.out.2 _ ((Own.sl ho6).mono fun _ _ => trivial)).mono ?_; rintro e w7 ⟨s7, rfl, hs7, hb7⟩; rw [wtI_nw] at hs7; have hs7s := HWL.out s7 hs7; have hs7c : (9223372036854775807 < 4 + s7.size) = False := eq_false (by omega); have hs78 : wr.heap.size ≤ w7.heap.size := (show Keep (fun _ => True) wr w7 from (by repeat (first | exact (Keep.refl _ _).drew | exact Keep.refl _ _ | exact (Keep.refl _ _).alloc _ | refine Keep.drewN ?_ _ | refine Keep.trans ?_ (Keep.of_below (by assumption))))).size) | (at_builtin; (refine wpList_append_lies _ rfl _ _ 35 rfl g4 9 i0 (.string ⟨#[]⟩) 1 16 Tryz.underlying35 hi0 hz0 hz1 hz2 rfl (by decide) _ m (strs Ls) rfl ((ownsRow_keep HO2.out (S := fun _ => True) (by repeat (first | exact (Keep.refl _ _).drew | exact Keep.refl _ _ | exact (Keep.refl _ _).alloc _ | refine Keep.drewN ?_ _ | refine Keep.trans ?_ (Keep.of_below (by assumption)))) (fun _ _ => trivial)).alloc _) ⟨w7.heap.size, 0, none⟩ 1 1 [.string (((((⟨#[ltr j]⟩ : ByteArray) ++ ⟨#[94]⟩) ++ ⟨#[ltr i]⟩) ++ ⟨#[61]⟩) ++ s7)] rfl rfl (World.news_of_block (cs := #[.string (((((⟨#[ltr j]⟩ : ByteArray) ++ ⟨#[94]⟩) ++ ⟨#[ltr i]⟩) ++ ⟨#[61]⟩) ++ s7)]) (t := 9) (fr := (0, 0)) (heap_alloc_new w7 _)) (by simp [Value.oneCell']) (by decide) (by unfold maxLen; omega) (by omega) (by simp; omega) _ rfl ?_)) | fail)
                        intro g2 cap2 w10 hown2 hgrow2 hat2 hlt3
                        have h7 : Below wr.heap.size wr w7 := Below.step' (Below.step' (Below.step' hb5 (below_drewN (Below.refl _ _) _)) hb6) hb7
                        have HN2 := Lib.hid (show ∃ Ls : List ByteArray, Ls.length = m + 1 ∧ w10.ownsRow g4 9 1 (.slice (some ⟨g2, 0, none⟩) (m + 1) cap2) (m + 1) (strs Ls) ∧ Ls.map (·.data.toList) = PT p (powR p n ++ conR p i ++ conI p i (k + 1)) from
                          ⟨Ls ++ [(((((⟨#[ltr j]⟩ : ByteArray) ++ ⟨#[94]⟩) ++ ⟨#[ltr i]⟩) ++ ⟨#[61]⟩) ++ s7)], by rw [List.length_append, HO3.out.1]; rfl, strs_push hown2, by
                            rw [HN.out, ← List.append_assoc, PT_app, List.map_append, HO3.out.2, List.map_cons, List.map_nil, rel_bytes (((((⟨#[ltr j]⟩ : ByteArray) ++ ⟨#[94]⟩) ++ ⟨#[ltr i]⟩) ++ ⟨#[61]⟩) ++ s7) ⟨#[ltr i]⟩ s7 j [] p.os ⟨j, some i, v⟩ rfl rfl hs7]; rfl⟩)
                        have HNB := Lib.hid (show Below g4 w4 w10 from ((HBr.out.trans (h7.mono hsm)).alloc (by omega) _).grown hgrow2 (by simp; omega) (fun g hg => (World.ownsRow.lt HO2.out g hg).1))
                        clear hown2 hgrow2 hat2 hlt3 h7
                        go_wp2_with fail
                        go_meet
                        exact ⟨m + 1, _, cap2, by omega, rfl, HN2, HNB⟩
                  · obtain rfl : ln = k := by omega
                    have HN := Lib.hid (show ∃ Ls : List ByteArray, Ls.length = m ∧ wr.ownsRow g4 9 1 (.slice ao m co) m (strs Ls) ∧ Ls.map (·.data.toList) = PT p (powR p n ++ conR p (i + 1)) from by
                      rw [conR_succ, H.out.gd.sh.os, HLN.out, ← List.append_assoc]; exact hO.out)
                    have HNB := Lib.hid hB.out
                    have hmn : m ≤ 7 + (i + 1) * 6 := by omega
                    clear hO hB hm
                    go_wp2_with fail
                    go_roundw
                    case rel => exact ⟨i + 1, m, _, co, by omega, hmn, by go_num, rfl, HN, HNB⟩
                    case measure => simp [intOf]; omega
              · obtain rfl : n = i := by omega
                obtain ⟨Ls, hO1, hO2, hO3⟩ := hO.out
                have e1 : powR p n ++ conR p n = rels p := by unfold rels; rw [H.out.gd.sh.os]
                rw [e1] at hO3
                have hT := H.out.pieces
                have hne : m ≠ 0 := fun e => by
                  rw [e] at hO1
                  have := congrArg List.length hO3
                  rw [List.length_map, hO1] at this
                  simp [PT] at this
                obtain ⟨g, c, hgc⟩ : ∃ g c, Value.slice ao m co = .slice (some ⟨g, 0, none⟩) m c := by
                  rcases hO2.2 with ⟨_, h0⟩ | ⟨g, cap, cu, h', _⟩
                  · exact absurd h0 hne
                  · exact ⟨g, cap, h'⟩
                obtain ⟨rfl, rfl⟩ : ao = some ⟨g, 0, none⟩ ∧ co = c := by simpa using hgc
                have HJ2 := Lib.hid ((join_any g m co Ls hO1 ⟨#[59, 32]⟩ wr _ hO2 (by omega) (fun x hx => by
                  have h1 : x.data.toList ∈ PT p (rels p) := by rw [← hO3]; exact List.mem_map.2 ⟨x, hx, rfl⟩
                  have h2 := hT _ h1
                  have h3 : x.data.toList.length = x.size := by simp
                  omega) (by decide)).mono (R' := TxR (txt p) w) (by
                  rintro e w' ⟨s, rfl, hs, hb⟩
                  exact ⟨s, rfl, by rw [hs, hO3]; rfl, HBw.out.trans (hb.mono HBw.out.size)⟩))
                clear hgc hO hB hO1 hO2 hO3 e1 hT hne hm
                go_wp2_with (first | (go_at_call 124; refine HJ2.out.mono ?_; rintro e w11 ⟨s11, rfl, hs11, hb11⟩) | fail)
                go_ret
                exact ⟨s11, rfl, hs11, hb11⟩
end Go.Proofs.YtbamkklhkhglnaaGreatDoor.TwD
