import Derived.Test.YtabkibmnghbahaaGreatSortC
import Derived.Test.YtabkibmnghbahaaGreatImplIO
namespace Go.Proofs.YtabkibmnghbahaaGreat.ImplY
open Go.RowKit Go.Proofs.YtabkibmnghbahaaGreat Go.Proofs.YtabkibmnghbahaaGreat.Tow Go.Proofs.YtabkibmnghbahaaGreat.Grps Go.Proofs.YtabkibmnghbahaaGreat.NumT Go.Proofs.YtabkibmnghbahaaGreat.ImplN Go.Proofs.YtabkibmnghbahaaGreat.ImplP Go.Proofs.YtabkibmnghbahaaGreat.ImplQ Go.Proofs.YtabkibmnghbahaaGreat.ImplR Go.Proofs.YtabkibmnghbahaaGreat.ImplS Go.Proofs.YtabkibmnghbahaaGreat.ImplT Go.Proofs.YtabkibmnghbahaaGreat.ImplU Go.Proofs.YtabkibmnghbahaaGreat.ImplW Go.Proofs.YtabkibmnghbahaaGreat.ImplX Go.Proofs.YtabkibmnghbahaaGreat.Grow Go.Proofs.YtabkibmnghbahaaGreat.Srt
set_option linter.unusedVariables false
set_option linter.unusedSimpArgs false

theorem SlG.strong {α : Type} {E E' : World → Value → α → Prop} {S : Nat → Prop} {w : World} {v : Value} {l : List α} (h : SlG E S w v l) (hE : ∀ u x, E w u x → E' w u x) : SlG E' (fun k => k < w.heap.size) w v l := by
  obtain ⟨ao, c, h1, h2, h3, h0, h4⟩ := h
  refine ⟨ao, c, h1, h2, h3, h0, fun i x hx => ?_⟩
  obtain ⟨b, o, e1, e2, e3, u, e4, e5⟩ := h4 i x hx
  exact ⟨b, o, e1, e3, e3, u, e4, hE _ _ e5⟩
theorem SlI.strong {S : Nat → Prop} {w : World} {v : Value} {l : List Int} (h : SlI S w v l) : SlI (fun k => k < w.heap.size) w v l := SlG.strong h (fun _ _ e => e)
theorem Sl2.strong {S : Nat → Prop} {w : World} {v : Value} {l : List (List Int)} (h : Sl2 S w v l) : Sl2 (fun k => k < w.heap.size) w v l := SlG.strong h (fun _ _ e => SlI.strong e)
theorem Sl3.strong {S : Nat → Prop} {w : World} {v : Value} {l : List (List (List Int))} (h : Sl3 S w v l) : Sl3 (fun k => k < w.heap.size) w v l := SlG.strong h (fun _ _ e => Sl2.strong e)
theorem PtrP.strong {S : Nat → Prop} {w : World} {b o : Nat} {P : Pres} (h : PtrP S w b o P) : PtrP (fun k => k < w.heap.size) w b o P := by
  obtain ⟨h1, h2, vO, vP, vC, c1, c2, c3, hv⟩ := h
  exact ⟨h2, h2, vO, vP, vC, c1, c2, c3, ⟨SlI.strong hv.os, Sl2.strong hv.ps, Sl3.strong hv.cs⟩⟩

/-- the isomorphisms of two presentations -/
def IsoRes (P Q : Pres) (w : World) (e : Ending) (w' : World) : Prop :=
  ∃ (v : Value) (k : Int), e = .returned (.tuple #[v, .int .i64 k]) ∧ Below w.heap.size w w' ∧
    ((v = .slice none 0 0 ∧ k = 1 ∧ ¬ (Grp P ∧ Grp Q)) ∨
     ∃ T U, P = ofTw T ∧ Q = ofTw U ∧ Grp P ∧ Grp Q ∧
      ((v = .slice none 0 0 ∧ k = 3 ∧ (27 < sz T ∨ 27 < sz U)) ∨ (v = .slice none 0 0 ∧ k = 0 ∧ sz T ≤ 27 ∧ sz U ≤ 27 ∧ sz T ≠ sz U) ∨
       (k = 0 ∧ sz T = sz U ∧ sz U ≤ 27 ∧ ∃ F, F.Perm (grow U T T.length []) ∧ Asc F ∧ Own2 78 3 w.heap.size w' v F)))

theorem msk_one (Q : Tw) : Msk Q [] [] 1 := ⟨by omega, fun c => by
  simp only [inS]
  cases c with
  | zero => simp
  | succ c => simp [Nat.testBit_succ]⟩
theorem grow_rows {Q T : Tw} : ∀ (k : Nat) (im : List Nat), ∀ r ∈ grow Q T k im, r.length = k + im.length
  | 0, im, r, h => by simp only [grow, List.mem_singleton] at h; rw [h]; simp
  | k + 1, im, r, h => by
    rw [grow, List.mem_flatMap] at h
    obtain ⟨x, _, h⟩ := h
    split at h
    · rw [grow_rows k _ r h]; simp; omega
    · simp at h

theorem mkN (n : Nat) (hn : n ≤ 6) (w : World) : (Instr.makeSlice 78 (.int .i64 (n : Int)) (.int .i64 (n : Int))).run Tryz.prog w = .ok (.slice (some ⟨w.heap.size, 0, none⟩) n n) (w.alloc (.cells (madeCells #[.int .i64 0] n) 3)) :=
  run_make_row' (P := Tryz.prog) 78 3 (.int .i64 0) 8 Tryz.underlying78 infoN rfl .i64 .i64 n (by omega) (by omega) w

/-- a search that begins -/
structure Ini (w W : World) (bs bp op bg gi n : Nat) (U : Tw) : Prop where
  bel : Below w.heap.size w W
  a1 : w.heap.size ≤ bs
  a2 : w.heap.size ≤ bg
  a3 : w.heap.size ≤ gi
  b1 : bs < W.heap.size
  b2 : bg < W.heap.size
  b3 : gi < W.heap.size
  c1 : bs ≠ gi
  c2 : bg ≠ bs
  c3 : bg ≠ gi
  row : W.heap[bs]? = some (.cells #[.pointer (some ⟨bp, op, none⟩), .pointer (some ⟨bg, 0, none⟩), .slice (some ⟨gi, 0, none⟩) n n, .bool false, .slice none 0 0] 106)
  img : W.heap[gi]? = some (.cells (madeCells #[.int .i64 0] n) 3)
  tab : ∃ v, W.cell? ⟨bg, 0, none⟩ = some v ∧ Sl2 (fun k => k ≠ bs ∧ k ≠ gi ∧ k < W.heap.size) W v ((tabl U (sz U)).map ints)

theorem SlG.strong2 {α : Type} {E E' : World → Value → α → Prop} {S : Nat → Prop} {w : World} {v : Value} {l : List α} (h : SlG E S w v l) (hE : ∀ u x, E w u x → E' w u x) : SlG E' (fun k => S k ∧ k < w.heap.size) w v l := by
  obtain ⟨ao, c, h1, h2, h3, h0, h4⟩ := h
  refine ⟨ao, c, h1, h2, h3, h0, fun i x hx => ?_⟩
  obtain ⟨b, o, e1, e2, e3, u, e4, e5⟩ := h4 i x hx
  exact ⟨b, o, e1, ⟨e2, e3⟩, e3, u, e4, hE _ _ e5⟩
theorem Sl2.strong2 {S : Nat → Prop} {w : World} {v : Value} {l : List (List Int)} (h : Sl2 S w v l) : Sl2 (fun k => S k ∧ k < w.heap.size) w v l := SlG.strong2 h (fun _ _ e => SlG.strong2 e (fun _ _ e => e))
theorem ini_tab {w7 W : World} {B bs gi : Nat} {v : Value} {U : Tw} (h : Own2 78 3 B w7 v (tabl U (sz U))) (hk : Keep (fun _ => True) w7 W) (hn : ∀ k, B ≤ k → k < w7.heap.size → k ≠ bs ∧ k ≠ gi) :
    Sl2 (fun k => k ≠ bs ∧ k ≠ gi ∧ k < W.heap.size) W v ((tabl U (sz U)).map ints) :=
  Sl2.mono ((Sl2.strong2 h.sl).keep (hk.mono (fun _ _ => trivial))) (fun k hk' => ⟨(hn k hk'.1 hk'.2).1, (hn k hk'.1 hk'.2).2, Nat.lt_of_lt_of_le hk'.2 hk.size⟩)
theorem new_at (w : World) (o : Obj) (k : Nat) (h : k = w.heap.size) : (w.alloc o).heap[k]? = some o := by subst h; exact heap_alloc_new _ _
theorem ini_a {w w6 w7 : World} {bp op n B : Nat} {v : Value} {U : Tw} (hb : Below w.heap.size w w7) (h : Own2 78 3 B w7 v (tabl U (sz U))) :
    Ini w (((w7.alloc (.cells #[v] 104)).alloc (.cells (madeCells #[.int .i64 0] n) 3)).alloc (.cells #[.pointer (some ⟨bp, op, none⟩), .pointer (some ⟨w7.heap.size, 0, none⟩), .slice (some ⟨w7.heap.size + 1, 0, none⟩) n n, .bool false, .slice none 0 0] 106)) (w7.heap.size + 1 + 1) bp op w7.heap.size (w7.heap.size + 1) n U := by
  have hs := hb.size
  refine ⟨((hb.alloc hs _).alloc (by simp; omega) _).alloc (by simp; omega) _, by omega, by omega, by omega, by simp, by simp; omega, by simp, by omega, by omega, by omega, new_at _ _ _ (by simp), (heap_alloc_old _ _ (by simp)).trans (new_at _ _ _ (by simp)), v, ?_, ini_tab h ((((Keep.refl _ _).alloc _).alloc _).alloc _) (fun k _ hk => by omega)⟩
  exact (cell_of_row _ _ _ #[v] 104 (0, 0) ((heap_alloc_old _ _ (by simp; omega)).trans ((heap_alloc_old _ _ (by simp)).trans (new_at _ _ _ (by simp))))).trans rfl
theorem ini_b {w w6 w7 : World} {bp op n B : Nat} {v : Value} {U : Tw} (hb : Below w.heap.size w w7) (h : Own2 78 3 B w7 v (tabl U (sz U))) :
    Ini w (((w7.alloc (.cells (madeCells #[.int .i64 0] n) 3)).alloc (.cells #[v] 104)).alloc (.cells #[.pointer (some ⟨bp, op, none⟩), .pointer (some ⟨w7.heap.size + 1, 0, none⟩), .slice (some ⟨w7.heap.size, 0, none⟩) n n, .bool false, .slice none 0 0] 106)) (w7.heap.size + 1 + 1) bp op (w7.heap.size + 1) w7.heap.size n U := by
  have hs := hb.size
  refine ⟨((hb.alloc hs _).alloc (by simp; omega) _).alloc (by simp; omega) _, by omega, by omega, by omega, by simp, by simp, by simp; omega, by omega, by omega, by omega, new_at _ _ _ (by simp), (heap_alloc_old _ _ (by simp; omega)).trans ((heap_alloc_old _ _ (by simp)).trans (new_at _ _ _ (by simp))), v, ?_, ini_tab h ((((Keep.refl _ _).alloc _).alloc _).alloc _) (fun k _ hk => by omega)⟩
  exact (cell_of_row _ _ _ #[v] 104 (0, 0) ((heap_alloc_old _ _ (by simp)).trans (new_at _ _ _ (by simp)))).trans rfl
theorem ini_c {w w6 w7 : World} {bp op n : Nat} {v : Value} {U : Tw} (hb6 : Below w.heap.size w w6) (hb7 : Below (w6.heap.size + 1) (w6.alloc (.cells (madeCells #[.int .i64 0] n) 3)).drew w7) (h : Own2 78 3 (w6.heap.size + 1) w7 v (tabl U (sz U))) :
    Ini w ((w7.alloc (.cells #[v] 104)).alloc (.cells #[.pointer (some ⟨bp, op, none⟩), .pointer (some ⟨w7.heap.size, 0, none⟩), .slice (some ⟨w6.heap.size, 0, none⟩) n n, .bool false, .slice none 0 0] 106)) (w7.heap.size + 1) bp op w7.heap.size w6.heap.size n U := by
  have hs6 := hb6.size
  have hs7 := hb7.size
  simp at hs7
  have hb : Below w.heap.size w w7 := ((hb6.alloc hs6 _).drew).trans (hb7.mono (by omega))
  have hs := hb.size
  have hg : w7.heap[w6.heap.size]? = some (.cells (madeCells #[.int .i64 0] n) 3) := by
    rw [hb7.block _ (by omega)]; exact new_at w6 _ _ rfl
  refine ⟨(hb.alloc hs _).alloc (by simp; omega) _, by omega, by omega, by omega, by simp, by simp; omega, by simp; omega, by omega, by omega, by omega, new_at _ _ _ (by simp), ?_, v, ?_, ini_tab h (((Keep.refl _ _).alloc _).alloc _) (fun k hk hk' => by omega)⟩
  · have hk : Keep (fun _ => True) w7 ((w7.alloc (.cells #[v] 104)).alloc (.cells #[.pointer (some ⟨bp, op, none⟩), .pointer (some ⟨w7.heap.size, 0, none⟩), .slice (some ⟨w6.heap.size, 0, none⟩) n n, .bool false, .slice none 0 0] 106)) := ((Keep.refl _ _).alloc _).alloc _
    rw [hk.block _ trivial (by omega)]; exact hg
  · exact (cell_of_row _ _ _ #[v] 104 (0, 0) ((heap_alloc_old _ _ (by simp)).trans (new_at _ _ _ (by simp)))).trans rfl

theorem Ini.iso {w W : World} {bs bp op bg gi : Nat} {T U : Tw} (h : Ini w W bs bp op bg gi T.length U) (hP : PtrP (fun k => k < w.heap.size) w bp op (ofTw T)) (h6 : T.length ≤ 6) :
    Iso W bs bp op bg gi T.length W.heap.size T U false (List.replicate T.length 0) [] (.slice none 0 0) := by
  have hs := h.bel.size
  have h1 := h.a1
  have h3 := h.a3
  obtain ⟨v, hv, ht⟩ := h.tab
  refine ⟨h.b1, h.b3, h.c1, Nat.le_refl _, h.row, ?_, ⟨⟨h.b2, h.c2, h.c3⟩, h.b2, v, hv, ht.mono (fun k hk => ⟨hk.2.2, hk.1, hk.2.1⟩)⟩, by simp, ?_, Own2.nil _ _ _ _⟩
  · exact (hP.keep ⟨hs, fun k hk _ => h.bel.block k hk⟩).mono (fun k hk => ⟨by omega, by omega, by omega⟩)
  · refine ⟨by simp [vals, ints], .inr ⟨gi, T.length, _, rfl, Nat.zero_le _, h.img, Nat.le_refl _, by unfold maxLen; omega, by simp [madeCells], ?_⟩⟩
    rw [toList_madeCells_one]
    simp [vals, ints]

set_option maxRecDepth 100000 in
set_option maxHeartbeats 8000000 in
theorem isomorphisms_any (w : World) (bp op bq oq : Nat) (P Q : Pres) (hP : PtrP Any w bp op P) (hQ : PtrP Any w bq oq Q) :
    Calls Tryz.prog 29 #[.pointer (some ⟨bp, op, none⟩), .pointer (some ⟨bq, oq, none⟩)] w (IsoRes P Q w) := by
  have HP := Lib.hid hP
  have HQ := Lib.hid hQ
  obtain ⟨_, hpl, vO, vP, vC, p0, p1, p2, hVP⟩ := hP
  obtain ⟨_, hql, uO, uP, uC, q0, q1, q2, hVQ⟩ := hQ
  have HVP := Lib.hid hVP
  have HVQ := Lib.hid hVQ
  have HG := Lib.hid (fun W a b c P h => ImplI.group_any W a b c P h)
  have HN1 : Hid (¬ (Grp P ∧ Grp Q) → ∀ w', Below w.heap.size w w' → IsoRes P Q w (.returned (.tuple #[.slice none 0 0, .int .i64 1])) w') := Lib.hid fun h w' hb => ⟨_, _, rfl, hb, .inl ⟨rfl, rfl, h⟩⟩
  clear hVP hVQ
  go_enter Tryz.func29, Tryz.ntmps29
  go_wp2_with fail
  refine (HG.out _ _ _ _ _ HVP.out).mono ?_
  rintro e w1 ⟨r, rfl, hr, hb1⟩
  have HB1 := Lib.hid hb1
  by_cases hGP : Grp P
  · obtain rfl : r = true := hr.2 hGP
    have HGP := Lib.hid hGP
    have k1 := ks_mk (Keep.of_below hb1)
    have r0 := (k1.1 bq oq hql).trans q0
    have r1 := (k1.1 bq (oq + 1) hql).trans q1
    have r2 := (k1.1 bq (oq + 2) hql).trans q2
    have HVQ1 := Lib.hid (HVQ.out.keep (Keep.of_below hb1))
    clear hr hb1 hGP k1
    go_wp2_with fail
    refine (HG.out _ _ _ _ _ HVQ1.out).mono ?_
    rintro e w2 ⟨r, rfl, hr, hb2⟩
    have HB2 := Lib.hid (HB1.out.trans (hb2.mono HB1.out.size))
    by_cases hGQ : Grp Q
    · obtain rfl : r = true := hr.2 hGQ
      have HGQ := Lib.hid hGQ
      clear hr hb2 r0 r1 r2 p0 p1 p2 q0 q1 q2 HVQ1
      obtain ⟨U, hU, hsU, rfl, hValU, hgU⟩ := hGQ
      obtain ⟨T, hT, hs, rfl, hVal, hgd⟩ := HGP.out
      have hzT := valid_sz hVal
      have hzU := valid_sz hValU
      have HPW := Lib.hid (fun W (h : Below w.heap.size w W) => HP.out.keep (S := Any) (Keep.of_below h))
      have HQW := Lib.hid (fun W (h : Below w.heap.size w W) => HQ.out.keep (S := Any) (Keep.of_below h))
      have HOP := Lib.hid (fun W (h : Below w.heap.size w W) => order_any T hT hs.1 hzT W bp op (HPW.out W h))
      have HOQ := Lib.hid (fun W (h : Below w.heap.size w W) => order_any U hU hsU.1 hzU W bq oq (HQW.out W h))
      have HTM := Lib.hid (fun W (h : Below w.heap.size w W) => table_any U hU hsU hgU hzU W bq oq (HQW.out W h))
      have hT6 := hs.1
      have HT := Lib.hid hT
      have HS := Lib.hid hs
      have HU := Lib.hid hU
      have HSU := Lib.hid hsU
      clear hT hs hU hsU hVal hValU hgU hgd
      have HEND : Hid (∀ v k w', Below w.heap.size w w' → ((v = .slice none 0 0 ∧ k = 3 ∧ (27 < sz T ∨ 27 < sz U)) ∨ (v = .slice none 0 0 ∧ k = 0 ∧ sz T ≤ 27 ∧ sz U ≤ 27 ∧ sz T ≠ sz U) ∨
          (k = 0 ∧ sz T = sz U ∧ sz U ≤ 27 ∧ ∃ F, F.Perm (grow U T T.length []) ∧ Asc F ∧ Own2 78 3 w.heap.size w' v F)) → IsoRes (ofTw T) (ofTw U) w (.returned (.tuple #[v, .int .i64 k])) w') :=
        Lib.hid fun v k w' hb h => ⟨v, k, rfl, hb, .inr ⟨T, U, rfl, rfl, HGP.out, HGQ.out, h⟩⟩
      go_wp2_with fail
      refine (HOP.out _ HB2.out).mono ?_
      rintro e w3 ⟨rfl, hb3⟩
      have HB3 := Lib.hid (HB2.out.trans (hb3.mono HB2.out.size))
      clear hb3
      by_cases h27 : 27 < sz T
      · have hd : decide ((sz T : Int) > 27) = true := by simp; omega
        have HR := Lib.hid (HEND.out (.slice none 0 0) 3 w3 HB3.out (.inl ⟨rfl, rfl, .inl h27⟩))
        clear HPW HQW HOP HOQ HTM HG h27
        go_wp2_with fail
        exact bodyPost_ret (v := .tuple #[.slice none 0 0, .int .i64 3]) (by simp [results, Tryz.results29, go_sem]) rfl HR.out
      · have hd : decide ((sz T : Int) > 27) = false := by simp; omega
        go_wp2_with fail
        refine (HOQ.out _ HB3.out).mono ?_
        rintro e w4 ⟨rfl, hb4⟩
        have HB4 := Lib.hid (HB3.out.trans (hb4.mono HB3.out.size))
        clear hb4
        by_cases h27U : 27 < sz U
        · have hd2 : decide ((sz U : Int) > 27) = true := by simp; omega
          have HR := Lib.hid (HEND.out (.slice none 0 0) 3 w4 HB4.out (.inl ⟨rfl, rfl, .inr h27U⟩))
          clear HPW HQW HOP HOQ HTM HG h27 h27U
          go_wp2_with fail
          exact bodyPost_ret (v := .tuple #[.slice none 0 0, .int .i64 3]) (by simp [results, Tryz.results29, go_sem]) rfl HR.out
        · have hd2 : decide ((sz U : Int) > 27) = false := by simp; omega
          go_wp2_with fail
          refine (HOP.out _ HB4.out).mono ?_
          rintro e w5 ⟨rfl, hb5⟩
          have HB5 := Lib.hid (HB4.out.trans (hb5.mono HB4.out.size))
          clear hb5
          go_wp2_with fail
          refine (HOQ.out _ HB5.out).mono ?_
          rintro e w6 ⟨rfl, hb6⟩
          have HB6 := Lib.hid (HB5.out.trans (hb6.mono HB5.out.size))
          clear hb6
          by_cases hne : sz T = sz U
          · have hd3 : ((sz T : Int) != (sz U : Int)) = false := by simp [hne]
            have HPW0 := Lib.hid (PtrP.strong (HPW.out w (Below.refl _ _)))
            obtain ⟨_, hpl6, vO, vP, vC, p0, p1, p2, hVP⟩ := HPW.out _ HB6.out
            obtain ⟨aO, cO, aP, cP, aC, cC, rfl, rfl, rfl, hO1, hP1, hC1⟩ := hVP.open
            clear hVP p1 p2 h27 hd hd2
            have hmk : ∀ W : World, (Instr.makeSlice 78 (.int .i64 (T.length : Int)) (.int .i64 (T.length : Int))).run Tryz.prog W = .ok (.slice (some ⟨W.heap.size, 0, none⟩) T.length T.length) (W.alloc (.cells (madeCells #[.int .i64 0] T.length) 3)) := fun W => mkN T.length (by omega) W
            go_upto_region 7 with fail
            clear HG HN1 HB2 HB3 HB4 HB5
            go_cut [6] (fun sv W => ∃ bs bg gi, sv = .pointer (some ⟨bs, 0, none⟩) ∧ Ini w W bs bp op bg gi T.length U)
            case rest =>
              obtain ⟨bs, bg, gi, rfl, hI⟩ := hcut
              have HI := Lib.hid hI
              obtain ⟨_, hplc, vO', vP', vC', p0', _, _, hVP'⟩ := HPW.out _ hI.bel
              obtain ⟨aO', cO', aP', cP', aC', cC', rfl, rfl, rfl, _, _, _⟩ := hVP'.open
              have HISO := Lib.hid (hI.iso (HPW0.out) hT6)
              have HCH := Lib.hid (fun hiso => choose_any w.heap.size T U HT.out HS.out HU.out (by omega) bs bp op bg gi T.length wc.heap.size false ⟨hI.a1, hI.a3⟩ T.length (Nat.le_refl _) wc (List.replicate T.length 0) [] (.slice none 0 0) 1 hiso
                (fun y hy => by rw [(List.mem_replicate.1 hy).2]; exact sz_pos HU.out) (by rw [List.drop_length]; simpa using msk_one U) (by have h6 : 27 ^ T.length ≤ 27 ^ 6 := Nat.pow_le_pow_right (by omega) hT6; simp; omega) (fun h => by simp at h))
              have HB8 := Lib.hid hI.bel
              clear hVP' hI p0
              go_wp2_with fail
              refine (HCH.out HISO.out).mono ?_
              rintro e w8 ⟨rfl, ims', vF', hI8, _, _, hch8⟩
              have hbs8 : bs < w8.heap.size := Nat.lt_of_lt_of_le HI.out.b1 hI8.hB
              have hF8 : Own2 78 3 wc.heap.size w8 vF' (grow U T T.length []) := by
                have h := hI8.fnd
                rwa [cutB_false, List.nil_append, show (List.replicate T.length 0).drop T.length = [] by simp] at h
              have q4 := hI8.cells.2.2.2.2
              have hne4 : some bs ≠ vF'.ownBlock := fun e => by
                obtain ⟨us, hu, _⟩ := hF8
                have := (World.ownsRow.lt hu bs e.symm).1
                have := HI.out.b1
                omega
              have HF8 := Lib.hid hF8
              have HB9 := Lib.hid (HB8.out.trans hch8.1)
              have hB8 := hI8.hB
              clear hI8 hch8 hF8 p0'
              go_wp2_with fail
              refine (sort_any wc.heap.size T.length (by omega) w8 vF' _ HF8.out (by have h6 : 27 ^ T.length ≤ 27 ^ 6 := Nat.pow_le_pow_right (by omega) hT6; have := grow_length U T (by omega) T.length []; omega) (fun r hr => by have := grow_rows _ _ r hr; simpa using this)).mono ?_
              rintro e w9 ⟨rfl, F', hperm, hasc, hown, hkeep, hbel⟩
              have q49 := (hkeep.cell (b := bs) (o := 4) hne4 hbs8).trans q4
              have HR := Lib.hid (HEND.out vF' 0 w9 (HB9.out.trans (hbel.mono (by have := HB8.out.size; omega))) (.inr (.inr ⟨rfl, hne, by omega, F', hperm, hasc, hown.mono HB8.out.size⟩)))
              clear hperm hasc hown hkeep hbel q4 hne4
              go_wp2_with fail
              exact bodyPost_ret (v := .tuple #[vF', .int .i64 0]) (by simp [results, Tryz.results29, go_sem]) rfl HR.out
            go_region_law
              (first | (go_simp; go_at_call 46; refine (HTM.out _ (by first | exact HB6.out | exact (HB6.out).drew)).mono ?_; rintro e w7 ⟨v7, rfl, hr7, hb7⟩; obtain ⟨a7, c7, rfl, _, _⟩ := hr7.form; have k7 := ks_mk (Keep.of_below hb7); have p7 := (k7.1 bp op hpl6).trans p0; have hpl7 : bp < w7.heap.size := Nat.lt_of_lt_of_le hpl6 hb7.size) | (go_simp; go_at_call 46; refine (HTM.out _ (by first | exact ((HB6.out).alloc (by have := HB6.out.size; omega) _).drew | exact (HB6.out).alloc (by have := HB6.out.size; omega) _)).mono ?_; rintro e w7 ⟨v7, rfl, hr7, hb7⟩; obtain ⟨a7, c7, rfl, _, _⟩ := hr7.form))
            all_goals (go_wp2_with fail; go_meet)
            all_goals first
              | exact ⟨_, _, _, rfl, ini_a (w6 := w6) ((HB6.out.drew).trans (hb7.mono HB6.out.size)) hr7⟩
              | exact ⟨_, _, _, rfl, ini_b (w6 := w6) ((HB6.out.drew).trans (hb7.mono HB6.out.size)) hr7⟩
              | exact ⟨_, _, _, rfl, ini_c HB6.out (by simpa using hb7) (by simpa using hr7)⟩
          · have hd3 : ((sz T : Int) != (sz U : Int)) = true := by simp; omega
            have HR := Lib.hid (HEND.out (.slice none 0 0) 0 w6 HB6.out (.inr (.inl ⟨rfl, rfl, by omega, by omega, hne⟩)))
            clear HPW HQW HOP HOQ HTM HG h27 h27U hne
            go_wp2_with fail
            exact bodyPost_ret (v := .tuple #[.slice none 0 0, .int .i64 0]) (by simp [results, Tryz.results29, go_sem]) rfl HR.out
    · obtain rfl : r = false := by
        cases r with
        | false => rfl
        | true => exact absurd (hr.1 rfl) hGQ
      have HR := Lib.hid (HN1.out (fun h => hGQ h.2) w2 HB2.out)
      clear hr hb2 hGQ r0 r1 r2
      go_wp2_with fail
      exact bodyPost_ret (v := .tuple #[.slice none 0 0, .int .i64 1]) (by simp [results, Tryz.results29, go_sem]) rfl HR.out
  · obtain rfl : r = false := by
      cases r with
      | false => rfl
      | true => exact absurd (hr.1 rfl) hGP
    have HR := Lib.hid (HN1.out (fun h => hGP h.1) w1 HB1.out)
    clear hr hb1 hGP
    go_wp2_with fail
    exact bodyPost_ret (v := .tuple #[.slice none 0 0, .int .i64 1]) (by simp [results, Tryz.results29, go_sem]) rfl HR.out
end Go.Proofs.YtabkibmnghbahaaGreat.ImplY
