import Derived.Test.YtabeedimnbkcgaaGreatPvD
/-
  The law FnExactProveIsomorphic, walked.
-/
namespace Go.Proofs.YtabeedimnbkcgaaGreat.PvE
open Go.RowKit Go.Proofs.YtabeedimnbkcgaaGreat Go.Proofs.YtabeedimnbkcgaaGreat.Tow Go.Proofs.YtabeedimnbkcgaaGreat.SpecB Go.Proofs.YtabeedimnbkcgaaGreat.LawB Go.Proofs.YtabeedimnbkcgaaGreat.LawC Go.Proofs.YtabeedimnbkcgaaGreat.LawD Go.Proofs.YtabeedimnbkcgaaGreat.LawE Go.Proofs.YtabeedimnbkcgaaGreat.LawN Go.Proofs.YtabeedimnbkcgaaGreat.Mark Go.Proofs.YtabeedimnbkcgaaGreat.FindA Go.Proofs.YtabeedimnbkcgaaGreat.FindB Go.Proofs.YtabeedimnbkcgaaGreat.FindC Go.Proofs.YtabeedimnbkcgaaGreat.FindD Go.Proofs.YtabeedimnbkcgaaGreat.AllB Go.Proofs.YtabeedimnbkcgaaGreat.AllC Go.Proofs.YtabeedimnbkcgaaGreat.PvA Go.Proofs.YtabeedimnbkcgaaGreat.PvB Go.Proofs.YtabeedimnbkcgaaGreat.PvC Go.Proofs.YtabeedimnbkcgaaGreat.PvD
set_option linter.unusedVariables false
set_option linter.unusedSimpArgs false

/-- the reference's answer -/
structure VW (S : Nat → Prop) (w : World) (vg vl : Value) (gs : List Pres) (ls : List (List Int)) : Prop where
  g : SlP S w vg gs
  l : Sl2 S w vl ls
theorem VW.keep {S : Nat → Prop} {w w' : World} {vg vl : Value} {gs : List Pres} {ls : List (List Int)} (h : VW S w vg vl gs ls) (hk : Keep S w w') : VW S w' vg vl gs ls := ⟨h.g.keep hk, Sl2.keep h.l hk⟩
theorem VW.mono {S S' : Nat → Prop} {w : World} {vg vl : Value} {gs : List Pres} {ls : List (List Int)} (h : VW S w vg vl gs ls) (hS : ∀ k, S k → S' k) : VW S' w vg vl gs ls := ⟨h.g.mono hS, Sl2.mono h.l hS⟩
theorem tt3_tot3 : ∀ LL : List (List (Nat × List Int)), tt3 LL = tot3 (LL.map fun L => L.map (·.2))
  | [] => rfl
  | L :: LL => by rw [tt3, List.map_cons, tot3, tt3_tot3 LL, tot_tot2]
theorem totE_totP (E : PresE) : totE E = totP E.val := by
  unfold totE totP PresE.val
  rw [tt3_tot3, tot_tot2]
theorem totEs_bd {P Q : Pres} {kd k : Int} {Es : List PresE} {ls : List (List Int)} (h : CertV P Q kd (Es.map PresE.val) ls k) (hP : BP 1048576 P) (hQ : BP 1048576 Q) : totEs Es ≤ 2305845208239046656 := by
  have h1 := totP_B hP
  have h2 := totP_B hQ
  rcases h.2 with ⟨_, _, h3⟩ | ⟨_, _, h3⟩
  · match Es, h3 with
    | [], h3 => simp at h3
    | [_], h3 => simp at h3
    | [E, F], h3 =>
      simp only [List.map_cons, List.map_nil, List.cons.injEq, and_true] at h3
      rw [totEs, totEs, totEs, totE_totP, totE_totP, h3.1, h3.2]
      omega
    | _ :: _ :: _ :: _, h3 => simp at h3
  · have : Es = [] := by simpa using h3
    subst this
    simp [totEs]
theorem bkc_lt {B : Nat} {w : World} {vg vl : Value} {Es : List PresE} {L : List (Nat × List Int)} (h : OwnPs B w vg Es) (hl : OwnE B w vl L) {b : Nat} (hb : BkC Es L b) : B ≤ b ∧ b < w.heap.size := by
  rcases hb with ⟨E, hE, hb⟩ | hb
  · obtain ⟨ao, c, _, _, _, h4⟩ := h
    obtain ⟨i, hi⟩ := List.getElem?_of_mem hE
    obtain ⟨_, _, _, _, _, _, _, _, _, _, _, ho⟩ := h4 i E hi
    exact OwnP.lt ho hb
  · obtain ⟨p, hp, rfl⟩ := List.mem_map.1 hb
    exact hl.lt p hp
theorem nfs_own {B : Nat} {w : World} {vg vl : Value} {Es : List PresE} {L : List (Nat × List Int)} (h : OwnPs B w vg Es) (hl : OwnE B w vl L) : NFS (BkC Es L) w := fun g cs t fr hg hh => by
  rcases hg with ⟨E, hE, hb⟩ | hb
  · obtain ⟨ao, c, _, _, _, h4⟩ := h
    obtain ⟨i, hi⟩ := List.getElem?_of_mem hE
    obtain ⟨_, _, _, _, _, _, _, _, _, _, _, ho⟩ := h4 i E hi
    rcases hb with ⟨rfl, h0⟩ | hb | hb
    · obtain ⟨c, hc⟩ := ho.a.2 h0
      have h1 := ho.a.1
      rw [hc] at h1
      rcases h1.2 with ⟨e, _⟩ | ⟨g', cap, cur, e, _, hgg, _⟩
      · cases e
      · cases e
        rw [hgg] at hh
        cases hh
        rfl
    · exact ho.R.nfs g cs t fr hb hh
    · exact ho.C.nfs g cs t fr hb hh
  · exact hl.nfs g cs t fr hb hh
/-- what the law has in memory -/
structure St (n5 g g' gW gG : Nat) (kd : Int) (vWg vWl vGg vGl x0 x1 x2 y0 y1 y2 : Value) (P Q : Pres) (Es : List PresE) (L : List (Nat × List Int)) (W : World) : Prop where
  vw : VW (fun b => b < n5) W vWg vWl (Es.map PresE.val) (L.map (·.2))
  xs : ValP (fun b => n5 ≤ b ∧ b < g) W x0 x1 x2 P
  ys : ValP (fun b => g + 1 ≤ b ∧ b < g') W y0 y1 y2 Q
  fx : NFS (fun b => n5 ≤ b ∧ b < g) W
  fy : NFS (fun b => g + 1 ≤ b ∧ b < g') W
  bx : W.heap[g]? = some (.cells #[x0, x1, x2] 30 (0, 0))
  by' : W.heap[g']? = some (.cells #[y0, y1, y2] 30 (0, 0))
  own : OwnPs (g' + 1) W vGg Es
  ol : OwnE (g' + 1) W vGl L
  bw : W.heap[gW]? = some (.cells #[.int .i64 kd, vWg, vWl] 47 (0, 0))
  bg : W.heap[gG]? = some (.cells #[.int .i64 kd, vGg, vGl] 47 (0, 0))
  bk : ∀ b, BkC Es L b → b < gG
  le : n5 ≤ g ∧ g + 1 ≤ g' ∧ g' < W.heap.size ∧ gW < n5 ∧ g' < gG
theorem St.below {n5 g g' gW gG : Nat} {kd : Int} {vWg vWl vGg vGl x0 x1 x2 y0 y1 y2 : Value} {P Q : Pres} {Es : List PresE} {L : List (Nat × List Int)} {W W' : World} (h : PvE.St n5 g g' gW gG kd vWg vWl vGg vGl x0 x1 x2 y0 y1 y2 P Q Es L W) (hb : Below W.heap.size W W') : PvE.St n5 g g' gW gG kd vWg vWl vGg vGl x0 x1 x2 y0 y1 y2 P Q Es L W' := by
  have hl := h.le
  have hs := hb.size
  exact ⟨h.vw.keep (Keep.of_below hb), h.xs.keep (Keep.of_below hb), h.ys.keep (Keep.of_below hb), h.fx.keep (Keep.of_below (S := Any) hb) (fun b hb => ⟨trivial, by omega⟩), h.fy.keep (Keep.of_below (S := Any) hb) (fun b hb => ⟨trivial, by omega⟩),
    blk hb (by omega) h.bx, blk hb (by omega) h.by', h.own.keepS (Keep.of_below (S := Any) hb) (fun _ _ => trivial), h.ol.keep hb, blk hb (Array.getElem?_eq_some_iff.1 h.bw).1 h.bw, blk hb (Array.getElem?_eq_some_iff.1 h.bg).1 h.bg, h.bk, by omega⟩
structure St2 (n5 g' gW gG : Nat) (kd : Int) (vWg vWl vGg vGl : Value) (Es : List PresE) (L : List (Nat × List Int)) (W : World) : Prop where
  vw : VW (fun b => b < n5) W vWg vWl (Es.map PresE.val) (L.map (·.2))
  own : OwnPs (g' + 1) W vGg Es
  ol : OwnE (g' + 1) W vGl L
  bw : W.heap[gW]? = some (.cells #[.int .i64 kd, vWg, vWl] 47 (0, 0))
  bg : W.heap[gG]? = some (.cells #[.int .i64 kd, vGg, vGl] 47 (0, 0))
  bk : ∀ b, BkC Es L b → b < gG
  le : n5 ≤ g' ∧ gW < n5
theorem St2.below {n5 g' gW gG : Nat} {kd : Int} {vWg vWl vGg vGl : Value} {Es : List PresE} {L : List (Nat × List Int)} {W W' : World} (h : PvE.St2 n5 g' gW gG kd vWg vWl vGg vGl Es L W) (hb : Below W.heap.size W W') : PvE.St2 n5 g' gW gG kd vWg vWl vGg vGl Es L W' :=
  ⟨h.vw.keep (Keep.of_below hb), h.own.keepS (Keep.of_below (S := Any) hb) (fun _ _ => trivial), h.ol.keep hb, blk hb (Array.getElem?_eq_some_iff.1 h.bw).1 h.bw, blk hb (Array.getElem?_eq_some_iff.1 h.bg).1 h.bg, h.bk, h.le⟩
structure St3 (n5 gW gG : Nat) (kd : Int) (vWg vWl vGg vGl : Value) (Es : List PresE) (L : List (Nat × List Int)) (W : World) : Prop where
  vw : VW (fun b => b < n5) W vWg vWl (Es.map PresE.val) (L.map (·.2))
  ps : PsM W vGg (mrkEs 1 Es)
  rows : Rows2 Any W vGl (mrk (1 + totEs Es) L)
  bw : W.heap[gW]? = some (.cells #[.int .i64 kd, vWg, vWl] 47 (0, 0))
  bg : W.heap[gG]? = some (.cells #[.int .i64 kd, vGg, vGl] 47 (0, 0))
theorem St3.below {n5 gW gG : Nat} {kd : Int} {vWg vWl vGg vGl : Value} {Es : List PresE} {L : List (Nat × List Int)} {W W' : World} (h : PvE.St3 n5 gW gG kd vWg vWl vGg vGl Es L W) (hb : Below W.heap.size W W') : PvE.St3 n5 gW gG kd vWg vWl vGg vGl Es L W' :=
  ⟨h.vw.keep (Keep.of_below hb), h.ps.keep (Keep.of_below hb), FindD.Rows2.keep h.rows hb, blk hb (Array.getElem?_eq_some_iff.1 h.bw).1 h.bw, blk hb (Array.getElem?_eq_some_iff.1 h.bg).1 h.bg⟩
theorem St2.fin {n5 g' gW gG : Nat} {kd : Int} {vWg vWl vGg vGl : Value} {Es : List PresE} {L : List (Nat × List Int)} {W W1 W2 : World} (h : PvE.St2 n5 g' gW gG kd vWg vWl vGg vGl Es L W) (hb : Below W.heap.size W W1) (hm : Mrk (BkC Es L) W1 W2) (hps : PsM W2 vGg (mrkEs 1 Es)) (hr : Rows2 Any W2 vGl (mrk (1 + totEs Es) L)) : PvE.St3 n5 gW gG kd vWg vWl vGg vGl Es L W2 := by
  have hl := h.le
  have hlow : ∀ b, b < n5 → ¬ BkC Es L b := fun b hb hm => by
    have := (bkc_lt h.own h.ol hm).1
    omega
  exact ⟨(h.vw.keep (Keep.of_below hb)).keep (hm.keep.mono hlow), hps, hr, (hm.block gW (hlow gW hl.2)).trans (blk hb (Array.getElem?_eq_some_iff.1 h.bw).1 h.bw), (hm.block gG (fun hk => by have := h.bk gG hk; omega)).trans (blk hb (Array.getElem?_eq_some_iff.1 h.bg).1 h.bg)⟩
theorem St.marks {n5 g g' gW gG : Nat} {kd : Int} {vWg vWl vGg vGl x0 x1 x2 y0 y1 y2 : Value} {P Q : Pres} {Es : List PresE} {L : List (Nat × List Int)} {W W1 W2 W3 W4 : World} (h : PvE.St n5 g g' gW gG kd vWg vWl vGg vGl x0 x1 x2 y0 y1 y2 P Q Es L W)
    (hb : Below W.heap.size W W1) (hm : Mrk (fun b => n5 ≤ b ∧ b < g) W1 W2) (hb2 : Below W2.heap.size W2 W3) (hm2 : Mrk (fun b => g + 1 ≤ b ∧ b < g') W3 W4) : PvE.St2 n5 g' gW gG kd vWg vWl vGg vGl Es L W4 := by
  have hl := h.le
  refine ⟨(((h.vw.keep (Keep.of_below hb)).keep (hm.keep.mono (fun b hb => by omega))).keep (Keep.of_below hb2)).keep (hm2.keep.mono (fun b hb => by omega)), ?_, ?_, (hm2.block gW (by omega)).trans (blk hb2 (by rw [hm.size]; have := hb.size; have := (Array.getElem?_eq_some_iff.1 h.bw).1; omega) ((hm.block gW (by omega)).trans (blk hb (Array.getElem?_eq_some_iff.1 h.bw).1 h.bw))), (hm2.block gG (by omega)).trans (blk hb2 (by rw [hm.size]; have := hb.size; have := (Array.getElem?_eq_some_iff.1 h.bg).1; omega) ((hm.block gG (by omega)).trans (blk hb (Array.getElem?_eq_some_iff.1 h.bg).1 h.bg))), h.bk, by omega⟩
  · exact ((((h.own.keepS (Keep.of_below (S := Any) hb) (fun _ _ => trivial)).keepS hm.keep (fun k hk => by omega)).keepS (Keep.of_below (S := Any) hb2) (fun _ _ => trivial)).keepS hm2.keep (fun k hk => by omega))
  · exact FindD.OwnE.keepS ((FindD.OwnE.keepS (h.ol.keep hb) hm.keep (fun k hk => by omega)).keep hb2) hm2.keep (fun k hk => by omega)
theorem St.mark1y {n5 g g' gW gG : Nat} {kd : Int} {vWg vWl vGg vGl x0 x1 x2 y0 y1 y2 : Value} {P Q : Pres} {Es : List PresE} {L : List (Nat × List Int)} {W W1 W2 : World} (h : PvE.St n5 g g' gW gG kd vWg vWl vGg vGl x0 x1 x2 y0 y1 y2 P Q Es L W)
    (hb : Below W.heap.size W W1) (hm : Mrk (fun b => n5 ≤ b ∧ b < g) W1 W2) : ValP (fun b => g + 1 ≤ b ∧ b < g') W2 y0 y1 y2 Q ∧ NFS (fun b => g + 1 ≤ b ∧ b < g') W2 ∧ W2.heap[g']? = some (.cells #[y0, y1, y2] 30 (0, 0)) := by
  have hl := h.le
  have h1 := h.below hb
  have hl1 := h1.le
  exact ⟨h1.ys.keep (hm.keep.mono (fun b hb => by omega)), hm.nf _ h1.fy, (hm.block g' (by omega)).trans h1.by'⟩

def C8 (BX : World) (n : Nat) (W : World) (gW : Nat) (kd : Int) (vg vl : Value) (gs : List Pres) (ls : List (List Int)) (P Q : Pres) (k : Int) : Prop := CertV P Q kd gs ls k ∧ W.heap[gW]? = some (.cells #[.int .i64 kd, vg, vl] 47 (0, 0)) ∧ Below n BX W ∧ VW (fun b => b < W.heap.size) W vg vl gs ls
theorem c8_set {BX w5 : World} {n gW base : Nat} {kd k : Int} {vg vl : Value} {gs : List Pres} {ls : List (List Int)} {P Q : Pres} (hc : CertV P Q kd gs ls k) (hG : w5.heap[gW]? = some (.cells #[.int .i64 0, .slice none 0 0, .slice none 0 0] 47 (0, 0))) (hn : n ≤ gW) (hb : gW < base) (hg : SlP (fun b => base ≤ b) w5 vg gs) (hl : Sl2 (fun b => base ≤ b) w5 vl ls) (hB : Below n BX w5) :
    C8 BX n (((w5.setCell ⟨gW, 0, none⟩ (.int .i64 kd)).setCell ⟨gW, 1, none⟩ vg).setCell ⟨gW, 2, none⟩ vl) gW kd vg vl gs ls P Q k := by
  have hk : Keep (fun b => b ≠ gW) w5 (((w5.setCell ⟨gW, 0, none⟩ (.int .i64 kd)).setCell ⟨gW, 1, none⟩ vg).setCell ⟨gW, 2, none⟩ vl) := (((Keep.refl _ _).setCell (by simp) _).setCell (by simp) _).setCell (by simp) _
  have hk' := hk.mono (S' := fun b => base ≤ b) (fun b hb' => by omega)
  exact ⟨hc, put3 hG, ((hB.setCell (p := ⟨gW, 0, none⟩) hn _).setCell (p := ⟨gW, 1, none⟩) hn _).setCell (p := ⟨gW, 2, none⟩) hn _, (hg.keep hk').bnd, Sl2.mono (Sl2.bnd (Sl2.keep hl hk')) (fun b h => h.2)⟩
theorem c8_new {BX w5 : World} {n : Nat} {S : Nat → Prop} {kd k : Int} {vg vl : Value} {gs : List Pres} {ls : List (List Int)} {P Q : Pres} (hc : CertV P Q kd gs ls k) (hg : SlP S w5 vg gs) (hl : Sl2 S w5 vl ls) (hB : Below n BX w5) (hn : n ≤ w5.heap.size) :
    C8 BX n (w5.alloc (.cells #[.int .i64 kd, vg, vl] 47)) w5.heap.size kd vg vl gs ls P Q k :=
  ⟨hc, heap_alloc_new _ _, hB.alloc hn _, (hg.keep ((Keep.refl _ _).alloc _)).bnd, Sl2.mono (Sl2.bnd (Sl2.keep hl ((Keep.refl _ _).alloc _))) (fun b h => h.2)⟩
theorem OwnP.valS {B : Nat} {w : World} {v0 v1 v2 : Value} {E : PresE} (h : OwnP B w v0 v1 v2 E) : ValP (fun b => B ≤ b) w v0 v1 v2 E.val := ⟨h.a.1.sl, PvB.OwnE.sl2 h.R, PvB.OwnE3.sl3S h.C⟩
theorem OwnPs.slS {B : Nat} {w : World} {v : Value} {Es : List PresE} (h : OwnPs B w v Es) : SlP (fun b => B ≤ b) w v (Es.map PresE.val) := by
  obtain ⟨ao, c, h1, h2, h3, h4⟩ := h
  refine ⟨ao, c, by simpa using h1, by simpa using h2, h3, fun i P hP => ?_⟩
  rw [List.getElem?_map, Option.map_eq_some_iff] at hP
  obtain ⟨E, hE, rfl⟩ := hP
  obtain ⟨b, o, e1, e0, e2, v0, v1, v2, c0, c1, c2, hv⟩ := h4 i E hE
  exact ⟨b, o, e1, e0, e2, v0, v1, v2, c0, c1, c2, OwnP.valS hv⟩
theorem frmP {S : Nat → Prop} {w : World} {v : Value} {Ps : List Pres} (h : SlP S w v Ps) : ∃ a n c, v = .slice a n c := by obtain ⟨a, c, h, _⟩ := h; exact ⟨_, _, _, h⟩
theorem frm2 {S : Nat → Prop} {w : World} {v : Value} {l : List (List Int)} (h : Sl2 S w v l) : ∃ a n c, v = .slice a n c := by obtain ⟨a, c, h, _⟩ := h; exact ⟨_, _, _, h⟩

set_option maxRecDepth 100000 in
set_option maxHeartbeats 4000000 in
theorem walk (pO pP pC : Value) (P : Pres) (qO qP qC : Value) (Q : Pres) (w : World) (hP : ValP Any w pO pP pC P) (hQ : ValP Any w qO qP qC Q) :
    Calls Tryz.prog 7 #[.agg #[pO, pP, pC], .agg #[qO, qP, qC]] w fun e w' => e = .returned (.bool true) ∧ Below w.heap.size w w' := by
  have HP := Lib.hid hP
  have HQ := Lib.hid hQ
  have HSZ := Lib.hid (fun W h => (szP_any W pO pP pC P h 1048576 (by omega) : Calls Tryz.prog 12 #[.agg #[pO, pP, pC], .int .i64 1048576] W (SzPR 1048576 (BP 1048576 P) W)))
  have HTO := Lib.hid (fun W h hl => toP_any W pO pP pC P h hl)
  have HTQ := Lib.hid (fun W h hl => toP_any W qO qP qC Q h hl)
  have HTN := Lib.hid (fun W h hl => toP_nf W pO pP pC P h hl)
  have HTQN := Lib.hid (fun W h hl => toP_nf W qO qP qC Q h hl)
  obtain ⟨W0, hW0⟩ : ∃ W0, W0 = (w.alloc (.cells #[pO, pP, pC] 26)).alloc (.cells #[qO, qP, qC] 26) := ⟨_, rfl⟩
  have HB0 := Lib.hid (show Below (w.heap.size + 2) ((w.alloc (.cells #[pO, pP, pC] 26)).alloc (.cells #[qO, qP, qC] 26)) W0 by rw [hW0]; exact Below.refl _ _)
  clear hP hQ
  go_enter Tryz.func7, Tryz.ntmps7
  go_upto_region 1 with fail
  rw [← hW0]
  clear hW0
  obtain ⟨⟨p0, p1, p2⟩, ⟨q0, q1, q2⟩, hk0, hbw0, hs0⟩ := bx2 HB0.out
  go_wp2_with fail
  refine (HSZ.out _ (HP.out.keep hk0)).mono ?_
  rintro e w1 ⟨⟨r, rfl, hr⟩, hb1⟩
  have HB1 := Lib.hid (HB0.out.trans (hb1.mono hs0))
  clear p0 p1 p2 q0 q1 q2 hk0 hbw0 hs0 hb1
  obtain ⟨⟨p0, p1, p2⟩, ⟨q0, q1, q2⟩, hk0, hbw0, hs0⟩ := bx2 HB1.out
  have HBW1 := Lib.hid hbw0
  rcases hr with rfl | ⟨m, rfl, hm, hBP⟩
  · go_wp2_with fail
    go_ret
    exact ⟨rfl, HBW1.out⟩
  have HBP := Lib.hid hBP
  have hm0 : decide ((m : Int) < 0) = false := by simp
  have HM := Lib.hid hm
  have HSQ := Lib.hid (szP_any w1 qO qP qC Q (HQ.out.keep hk0) m (by omega))
  clear hBP hm hk0 hbw0
  go_wp2_with fail
  refine HSQ.out.mono ?_
  rintro e w2 ⟨⟨r, rfl, hr⟩, hb2⟩
  have HB2 := Lib.hid (HB1.out.trans (hb2.mono hs0))
  clear p0 p1 p2 q0 q1 q2 hs0 hb2
  obtain ⟨⟨p0, p1, p2⟩, ⟨q0, q1, q2⟩, hk0, hbw0, hs0⟩ := bx2 HB2.out
  have HBW2 := Lib.hid hbw0
  rcases hr with rfl | ⟨m2, rfl, hm2, hBQ⟩
  · go_wp2_with fail
    go_ret
    exact ⟨rfl, HBW2.out⟩
  have HBQ := Lib.hid (BP.le HM.out hBQ)
  have hm02 : decide ((m2 : Int) < 0) = false := by simp
  have HP2 := Lib.hid (HP.out.keep hk0)
  have HQ2 := Lib.hid (HQ.out.keep hk0)
  have hl0 : w.heap.size < w2.heap.size := by omega
  have hl1 : w.heap.size + 1 < w2.heap.size := by omega
  clear hBQ hm2 hk0 hbw0 HM HSQ HSZ
  have HB2' := Lib.hid HB2.out
  go_upto_region 8 with fail
  go_cut [6, 7] (fun sv kv W => ∃ (gW : Nat) (kd : Int) (aW1 : Option Addr) (nW1 cW1 : Nat) (aW2 : Option Addr) (nW2 cW2 : Nat) (k : Int) (gs : List Pres) (res : List (List Int)), sv = .pointer (some ⟨gW, 0, none⟩) ∧ kv = .int .i64 k ∧ Hid (C8 ((w.alloc (.cells #[pO, pP, pC] 26)).alloc (.cells #[qO, qP, qC] 26)) (w.heap.size + 2) W gW kd (.slice aW1 nW1 cW1) (.slice aW2 nW2 cW2) gs res P Q k))
  case rest =>
    obtain ⟨gW, kd, aW1, nW1, cW1, aW2, nW2, cW2, k, gs, res, rfl, rfl, h8⟩ := hcut
    have HC := Lib.hid h8.out.1
    have KW5 := Lib.hid h8.out.2.1
    have HB5 := Lib.hid h8.out.2.2.1
    have HVW := Lib.hid h8.out.2.2.2
    have HGN := Lib.hid (show gW < wc.heap.size from (Array.getElem?_eq_some_iff.1 KW5.out).1)
    clear h8 p0 p1 p2 q0 q1 q2 hs0 HP2 HQ2 hl0 hl1 HB0 HB1 HBW1 HB2 HBW2 hm0 hm02 HB2'
    obtain ⟨⟨p0, p1, p2⟩, ⟨q0, q1, q2⟩, hk, hbw, hs⟩ := bx2 HB5.out
    go_wp2_with fail
    refine (HTN.out _ (HP.out.keep hk) HBP.out).mono ?_
    rintro e w6 ⟨xO, xP, xC, rfl, hV, hb6, hn6⟩
    obtain ⟨aO, cO, rfl, _, _⟩ := SlG.form hV.os
    obtain ⟨aP, cP, rfl, _, _⟩ := SlG.form hV.ps
    obtain ⟨aC, cC, rfl, _, _⟩ := SlG.form hV.cs
    have HB6 := Lib.hid (HB5.out.trans (hb6.mono hs))
    have KW6 := Lib.hid (blk hb6 HGN.out KW5.out)
    have HS56 := Lib.hid hb6.size
    have HVW6 := Lib.hid (VW.keep HVW.out (Keep.of_below hb6))
    have HN5 := Lib.hid hs
    have HX := Lib.hid (show ValP (fun b => wc.heap.size ≤ b ∧ b < w6.heap.size) w6 (.slice aO P.os.length cO) (.slice aP P.ps.length cP) (.slice aC P.cs.length cC) P from hV.bnd)
    have HNX := Lib.hid (show NFS (fun b => wc.heap.size ≤ b ∧ b < w6.heap.size) w6 from NFS.of hn6 (fun b hb => hb.1))
    clear p0 p1 p2 q0 q1 q2 hk hbw hs hb6 hV hn6 HVW
    go_upto_region 10 with fail
    obtain ⟨n5, hn5⟩ : ∃ n5, wc.heap.size = n5 := ⟨_, rfl⟩
    rw [hn5] at HS56 HVW6 HX HNX HN5 HGN
    clear hn5
    obtain ⟨g, hg⟩ : ∃ g, w6.heap.size = g := ⟨_, rfl⟩
    obtain ⟨W7, hW7⟩ : ∃ W7, W7 = w6.alloc (.cells #[.slice aO P.os.length cO, .slice aP P.ps.length cP, .slice aC P.cs.length cC] 30) := ⟨_, rfl⟩
    rw [← hW7]
    rw [hg] at HS56 HX HNX
    have hb67 : Below w6.heap.size w6 W7 := by rw [hW7]; exact (Below.refl _ _).alloc (Nat.le_refl _) _
    have G7 := Lib.hid (show W7.heap[g]? = some (.cells #[.slice aO P.os.length cO, .slice aP P.ps.length cP, .slice aC P.cs.length cC] 30 (0, 0)) by rw [hW7, ← hg]; exact new_blk)
    have HS7 := Lib.hid (show W7.heap.size = g + 1 by rw [hW7, ← hg]; simp)
    have HB7 := Lib.hid (show Below (w.heap.size + 2) ((w.alloc (.cells #[pO, pP, pC] 26)).alloc (.cells #[qO, qP, qC] 26)) W7 by rw [hW7]; exact HB6.out.alloc (bx2 HB6.out).2.2.2.2 _)
    have HX7 := Lib.hid (HX.out.keep (Keep.of_below hb67))
    have KW7 := Lib.hid (blk hb67 (Array.getElem?_eq_some_iff.1 KW6.out).1 KW6.out)
    have HNX7 := Lib.hid (HNX.out.keep (Keep.of_below (S := Any) hb67) (fun b hb => ⟨trivial, by omega⟩))
    have HVW7 := Lib.hid (VW.keep HVW6.out (Keep.of_below hb67))
    simp only [hg]
    clear hW7 hg hb67 HX HNX HVW6 HB6 HB5
    obtain ⟨⟨p0, p1, p2⟩, ⟨q0, q1, q2⟩, hk, hbw, hs⟩ := bx2 HB7.out
    go_wp2_with fail
    refine (HTQN.out _ (HQ.out.keep hk) HBQ.out).mono ?_
    rintro e w8 ⟨yO, yP, yC, rfl, hV, hb8, hn8⟩
    obtain ⟨bO, dO, rfl, _, _⟩ := SlG.form hV.os
    obtain ⟨bP, dP, rfl, _, _⟩ := SlG.form hV.ps
    obtain ⟨bC, dC, rfl, _, _⟩ := SlG.form hV.cs
    have HB8 := Lib.hid (HB7.out.trans (hb8.mono hs))
    have HS78 := Lib.hid (show g + 1 ≤ w8.heap.size by rw [← HS7.out]; exact hb8.size)
    have G8 := Lib.hid (blk hb8 (by rw [HS7.out]; omega) G7.out)
    have HX8 := Lib.hid (HX7.out.keep (Keep.of_below hb8))
    have KW8 := Lib.hid (blk hb8 (Array.getElem?_eq_some_iff.1 KW7.out).1 KW7.out)
    have HNX8 := Lib.hid (HNX7.out.keep (Keep.of_below (S := Any) hb8) (fun b hb => ⟨trivial, by rw [HS7.out]; omega⟩))
    have HVW8 := Lib.hid (VW.keep HVW7.out (Keep.of_below hb8))
    have HY := Lib.hid (show ValP (fun b => g + 1 ≤ b ∧ b < w8.heap.size) w8 (.slice bO Q.os.length dO) (.slice bP Q.ps.length dP) (.slice bC Q.cs.length dC) Q from by
      have h := hV.bnd
      rw [HS7.out] at h
      exact h)
    have HNY := Lib.hid (show NFS (fun b => g + 1 ≤ b ∧ b < w8.heap.size) w8 from NFS.of hn8 (fun b hb => by rw [HS7.out]; exact hb.1))
    clear p0 p1 p2 q0 q1 q2 hk hbw hs hb8 hV hn8 HX7 HNX7 HVW7 G7
    go_upto_region 11 with fail
    obtain ⟨g', hg'⟩ : ∃ g', w8.heap.size = g' := ⟨_, rfl⟩
    obtain ⟨W9, hW9⟩ : ∃ W9, W9 = w8.alloc (.cells #[.slice bO Q.os.length dO, .slice bP Q.ps.length dP, .slice bC Q.cs.length dC] 30) := ⟨_, rfl⟩
    rw [← hW9]
    rw [hg'] at HS78 HY HNY
    have hb89 : Below w8.heap.size w8 W9 := by rw [hW9]; exact (Below.refl _ _).alloc (Nat.le_refl _) _
    have hs78 := HS78.out
    have G9 := Lib.hid (show W9.heap[g]? = some (.cells #[.slice aO P.os.length cO, .slice aP P.ps.length cP, .slice aC P.cs.length cC] 30 (0, 0)) by rw [hW9]; exact old_blk G8.out)
    have K9 := Lib.hid (show W9.heap[g']? = some (.cells #[.slice bO Q.os.length dO, .slice bP Q.ps.length dP, .slice bC Q.cs.length dC] 30 (0, 0)) by rw [hW9, ← hg']; exact new_blk)
    have HS9 := Lib.hid (show W9.heap.size = g' + 1 by rw [hW9, ← hg']; simp)
    have HB9 := Lib.hid (show Below (w.heap.size + 2) ((w.alloc (.cells #[pO, pP, pC] 26)).alloc (.cells #[qO, qP, qC] 26)) W9 by rw [hW9]; exact HB8.out.alloc (bx2 HB8.out).2.2.2.2 _)
    have HX9 := Lib.hid (HX8.out.keep (Keep.of_below hb89))
    have KW9 := Lib.hid (blk hb89 (Array.getElem?_eq_some_iff.1 KW8.out).1 KW8.out)
    have HY9 := Lib.hid (HY.out.keep (Keep.of_below hb89))
    have HNX9 := Lib.hid (HNX8.out.keep (Keep.of_below (S := Any) hb89) (fun b hb => ⟨trivial, by omega⟩))
    have HNY9 := Lib.hid (HNY.out.keep (Keep.of_below (S := Any) hb89) (fun b hb => ⟨trivial, by omega⟩))
    have HVW9 := Lib.hid (VW.keep HVW8.out (Keep.of_below hb89))
    simp only [hg']
    clear hW9 hg' hb89 hs78 HX8 HY HNX8 HNY HVW8 HB8 HB7 G8 HS7
    obtain ⟨⟨x0, x1, x2⟩, _⟩ := row3 G9.out
    obtain ⟨⟨y0, y1, y2⟩, _⟩ := row3 K9.out
    go_wp2_with fail
    have HC9 := Lib.hid (impl_prove W9 _ _ _ _ _ _ P Q (HX9.out.mono (fun _ _ => trivial)) (HY9.out.mono (fun _ _ => trivial)))
    refine HC9.out.mono ?_
    rintro e w10a ⟨kd', vGg, vGl, k', Es, L, rfl, hc, hE, hL, hD, hb10⟩
    obtain ⟨aG1, nG1, cG1, rfl⟩ := frmP (OwnPs.sl hE)
    obtain ⟨aG2, nG2, cG2, rfl⟩ := frm2 (Rows2.sl2 hL.rows)
    obtain ⟨rfl, hgs, hls, rfl⟩ := cert_one HC.out hc
    subst hgs
    subst hls
    have HB10a := Lib.hid (HB9.out.trans (hb10.mono (bx2 HB9.out).2.2.2.2))
    go_upto_region 12 with fail
    obtain ⟨gG, hgG⟩ : ∃ gG, w10a.heap.size = gG := ⟨_, rfl⟩
    obtain ⟨w10, hw10⟩ : ∃ w10, w10 = w10a.alloc (.cells #[.int .i64 kd', (.slice aG1 nG1 cG1), (.slice aG2 nG2 cG2)] 47) := ⟨_, rfl⟩
    rw [← hw10]
    have hba : Below w10a.heap.size w10a w10 := by rw [hw10]; exact (Below.refl _ _).alloc (Nat.le_refl _) _
    have hb10' := hb10.trans (hba.mono hb10.size)
    have HB10 := Lib.hid (HB10a.out.trans (hba.mono (bx2 HB10a.out).2.2.2.2))
    have HST := Lib.hid (show PvE.St n5 g g' gW gG kd' (.slice aW1 nW1 cW1) (.slice aW2 nW2 cW2) (.slice aG1 nG1 cG1) (.slice aG2 nG2 cG2) _ _ _ _ _ _ P Q Es L w10 from by
      rw [HS9.out] at hE hL
      have hg9 := (Array.getElem?_eq_some_iff.1 G9.out).1
      have hk9 := (Array.getElem?_eq_some_iff.1 K9.out).1
      have hw9 := (Array.getElem?_eq_some_iff.1 KW9.out).1
      have h1 := HS56.out
      have h2 := HS78.out
      have h3 := hb10.size
      have h4 := hba.size
      have h5 := HS9.out
      have h6 := HGN.out
      refine ⟨VW.keep HVW9.out (Keep.of_below hb10'), HX9.out.keep (Keep.of_below hb10'), HY9.out.keep (Keep.of_below hb10'), HNX9.out.keep (Keep.of_below (S := Any) hb10') (fun b hb => ⟨trivial, by omega⟩), HNY9.out.keep (Keep.of_below (S := Any) hb10') (fun b hb => ⟨trivial, by omega⟩), blk hb10' hg9 G9.out, blk hb10' hk9 K9.out, hE.keepS (Keep.of_below (S := Any) hba) (fun _ _ => trivial), hL.keep hba, blk hb10' hw9 KW9.out, by rw [hw10, ← hgG]; exact heap_alloc_new _ _, fun b hb => by rw [← hgG]; exact (bkc_lt hE hL hb).2, by omega, by omega, by omega, by omega, by omega⟩)
    simp only [hgG]
    have HD := Lib.hid hD
    have n2 : (k' != k') = false := by simp
    clear hc hb10 hb10' hba hw10 hgG x0 x1 x2 y0 y1 y2 G9 K9 HX9 HY9 HNX9 HNY9 HVW9 HB9 hE hL hD HS9 HS56 HS78 HC9 HB10a KW9
    obtain ⟨⟨i0, i1, i2⟩, _⟩ := row3 HST.out.bw
    obtain ⟨⟨j0, j1, j2⟩, _⟩ := row3 HST.out.bg
    go_wp2_with fail
    refine (eqCert w10 kd' (.slice aG1 nG1 cG1) (.slice aG2 nG2 cG2) (.slice aW1 nW1 cW1) (.slice aW2 nW2 cW2) (Es.map PresE.val) (L.map (·.2)) (OwnPs.sl HST.out.own) (HST.out.vw.g.mono (fun _ _ => trivial)) (Rows2.sl2 HST.out.ol.rows) (Sl2.mono HST.out.vw.l (fun _ _ => trivial))).mono ?_
    rintro e w11 ⟨rfl, hb11⟩
    have HB11 := Lib.hid (HB10.out.trans (hb11.mono (bx2 HB10.out).2.2.2.2))
    have HST11 := Lib.hid (HST.out.below hb11)
    clear hb11 HB10 HST i0 i1 i2 j0 j1 j2
    obtain ⟨⟨x0, x1, x2⟩, _⟩ := row3 HST11.out.bx
    obtain ⟨⟨p0, p1, p2⟩, ⟨q0, q1, q2⟩, hk, hbw, hs⟩ := bx2 HB11.out
    have HP11 := Lib.hid (HP.out.keep hk)
    have HX11 := Lib.hid (HST11.out.xs.mono (S' := Any) (fun _ _ => trivial))
    have hw0 : w.heap.size < w11.heap.size := by omega
    have hw1 : w.heap.size + 1 < w11.heap.size := by omega
    have hg11 : g < w11.heap.size := by have := HST11.out.le; omega
    clear hk hbw
    go_wp2_with fail
    go_region_held3 (fun w' => (∀ b o, b < w11.heap.size → w'.cell? ⟨b, o, none⟩ = w11.cell? ⟨b, o, none⟩) ∧ Keep (fun _ => True) w11 w')
      (first | exact ks_mk (by repeat (first | exact (Keep.refl _ _).drew | exact Keep.refl _ _ | refine Keep.drewN ?_ _ | refine Keep.trans ?_ (Keep.of_below (by assumption)))))
      (first | (go_at_call 14; refine (HTO.out _ (HP11.out.keep (by repeat (first | exact (Keep.refl _ _).drew | exact Keep.refl _ _ | exact (Keep.refl _ _).alloc _ | exact ((Keep.refl _ _).alloc _).drew | refine Keep.drewN ?_ _ | refine Keep.trans ?_ (Keep.of_below (by assumption))))) HBP.out).mono ?_; rintro e w12 ⟨zO, zP, zC, rfl, hV12, hb12⟩) | (go_at_call 16; refine (eqP_any _ _ _ _ zO zP zC P P (HX11.out.keep (by repeat (first | exact (Keep.refl _ _).drew | exact Keep.refl _ _ | exact (Keep.refl _ _).alloc _ | exact ((Keep.refl _ _).alloc _).drew | refine Keep.drewN ?_ _ | refine Keep.trans ?_ (Keep.of_below (by assumption))))) ((hV12.mono (fun _ _ => trivial)).keep (by repeat (first | exact (Keep.refl _ _).drew | exact Keep.refl _ _ | exact (Keep.refl _ _).alloc _ | exact ((Keep.refl _ _).alloc _).drew | refine Keep.drewN ?_ _ | refine Keep.trans ?_ (Keep.of_below (by assumption)))))).mono ?_; rintro e w13 ⟨b, rfl, hbt, hb13⟩; obtain rfl : b = true := hbt.2 rfl))
    rename_i hHd
    clear hHd
    have hb12' : Below w11.heap.size w11 w12 := ((Below.refl _ _).drew).trans hb12
    have hb13' : Below w11.heap.size w11 w13 := hb12'.trans (hb13.mono hb12'.size)
    have HB13 := Lib.hid (HB11.out.trans (hb13'.mono hs))
    have HST13 := Lib.hid (HST11.out.below hb13')
    clear hV12 hb12 hbt hb13 hb12' hb13' x0 x1 x2 p0 p1 p2 q0 q1 q2 hs HP11 HX11 HB11 HST11 hw0 hw1 hg11
    obtain ⟨⟨x0, x1, x2⟩, _⟩ := row3 HST13.out.by'
    obtain ⟨⟨p0, p1, p2⟩, ⟨q0, q1, q2⟩, hk, hbw, hs⟩ := bx2 HB13.out
    have HQ13 := Lib.hid (HQ.out.keep hk)
    have HY13 := Lib.hid (HST13.out.ys.mono (S' := Any) (fun _ _ => trivial))
    have hw0 : w.heap.size < w13.heap.size := by omega
    have hw1 : w.heap.size + 1 < w13.heap.size := by omega
    have hg13 : g' < w13.heap.size := HST13.out.le.2.2.1
    clear hk hbw
    go_wp2_with fail
    go_region_held3 (fun w' => (∀ b o, b < w13.heap.size → w'.cell? ⟨b, o, none⟩ = w13.cell? ⟨b, o, none⟩) ∧ Keep (fun _ => True) w13 w')
      (first | exact ks_mk (by repeat (first | exact (Keep.refl _ _).drew | exact Keep.refl _ _ | refine Keep.drewN ?_ _ | refine Keep.trans ?_ (Keep.of_below (by assumption)))))
      (first | (go_at_call 14; refine (HTQ.out _ (HQ13.out.keep (by repeat (first | exact (Keep.refl _ _).drew | exact Keep.refl _ _ | exact (Keep.refl _ _).alloc _ | exact ((Keep.refl _ _).alloc _).drew | refine Keep.drewN ?_ _ | refine Keep.trans ?_ (Keep.of_below (by assumption))))) HBQ.out).mono ?_; rintro e w14 ⟨zO, zP, zC, rfl, hV14, hb14⟩) | (go_at_call 16; refine (eqP_any _ _ _ _ zO zP zC Q Q (HY13.out.keep (by repeat (first | exact (Keep.refl _ _).drew | exact Keep.refl _ _ | exact (Keep.refl _ _).alloc _ | exact ((Keep.refl _ _).alloc _).drew | refine Keep.drewN ?_ _ | refine Keep.trans ?_ (Keep.of_below (by assumption))))) ((hV14.mono (fun _ _ => trivial)).keep (by repeat (first | exact (Keep.refl _ _).drew | exact Keep.refl _ _ | exact (Keep.refl _ _).alloc _ | exact ((Keep.refl _ _).alloc _).drew | refine Keep.drewN ?_ _ | refine Keep.trans ?_ (Keep.of_below (by assumption)))))).mono ?_; rintro e w15 ⟨b, rfl, hbt, hb15⟩; obtain rfl : b = true := hbt.2 rfl))
    rename_i hHd
    clear hHd
    have hb14' : Below w13.heap.size w13 w14 := ((Below.refl _ _).drew).trans hb14
    have hb15' : Below w13.heap.size w13 w15 := hb14'.trans (hb15.mono hb14'.size)
    have HB15 := Lib.hid (HB13.out.trans (hb15'.mono hs))
    have HST15 := Lib.hid (HST13.out.below hb15')
    clear hV14 hb14 hbt hb15 hb14' hb15' x0 x1 x2 p0 p1 p2 q0 q1 q2 hs HQ13 HY13 HB13 HST13 hw0 hw1 hg13
    obtain ⟨⟨x0, x1, x2⟩, _⟩ := row3 HST15.out.bx
    obtain ⟨m1, hm1⟩ : ∃ m1, 1 + totP P = m1 := ⟨_, rfl⟩
    have HM1 := Lib.hid (show (m1 : Int) ≤ 1152922604119523329 from by have := totP_B HBP.out; omega)
    have HMP := Lib.hid (show Calls Tryz.prog 22 #[.agg #[.slice aO P.os.length cO, .slice aP P.ps.length cP, .slice aC P.cs.length cC], .int .i64 1] w15 (fun e w' => e = .returned (.int .i64 (m1 : Int)) ∧ ∃ W, Below w15.heap.size w15 W ∧ W.heap.size = w15.heap.size + 1 ∧ NFS (fun b => n5 ≤ b ∧ b < g) W ∧ Mrk (fun b => n5 ≤ b ∧ b < g) W w') from by
      have h := markP (fun b => n5 ≤ b ∧ b < g) w15 (fun b hb => by have := HST15.out.le; omega) _ _ _ P HST15.out.xs HST15.out.fx 1 (by rw [hm1]; have := HM1.out; omega)
      rw [hm1] at h
      exact h)
    clear hm1
    go_wp2_with fail
    refine HMP.out.mono ?_
    rintro e w16 ⟨rfl, W16, hbm, -, -, hmk⟩
    have HMY := Lib.hid (HST15.out.mark1y hbm hmk)
    have HBM := Lib.hid (And.intro hbm hmk)
    have HW16 := Lib.hid (show w15.heap.size ≤ w16.heap.size by rw [hmk.size]; exact hbm.size)
    have HB16 := Lib.hid ((HB15.out.trans (hbm.mono (bx2 HB15.out).2.2.2.2)).trans (hmk.below (fun b hb => Nat.le_trans HN5.out hb.1)))
    have hm0 : (0 : Int) ≤ (m1 : Int) := by omega
    obtain ⟨m2, hm2⟩ : ∃ m2, m1 + totP Q = m2 := ⟨_, rfl⟩
    have HM2 := Lib.hid (show (m2 : Int) ≤ 2305845208239046657 from by have := totP_B HBQ.out; have := HM1.out; omega)
    have HMQ := Lib.hid (show Calls Tryz.prog 22 #[.agg #[.slice bO Q.os.length dO, .slice bP Q.ps.length dP, .slice bC Q.cs.length dC], .int .i64 (m1 : Int)] w16 (fun e w' => e = .returned (.int .i64 (m2 : Int)) ∧ ∃ W, Below w16.heap.size w16 W ∧ W.heap.size = w16.heap.size + 1 ∧ NFS (fun b => g + 1 ≤ b ∧ b < g') W ∧ Mrk (fun b => g + 1 ≤ b ∧ b < g') W w') from by
      have h := markP (fun b => g + 1 ≤ b ∧ b < g') w16 (fun b hb => by have := HST15.out.le; have := HW16.out; omega) _ _ _ Q HMY.out.1 HMY.out.2.1 m1 (by rw [hm2]; have := HM2.out; omega)
      rw [hm2] at h
      exact h)
    clear hm2 hm0 hbm hmk x0 x1 x2 HMP
    obtain ⟨⟨x0, x1, x2⟩, _⟩ := row3 HMY.out.2.2
    go_wp2_with fail
    refine HMQ.out.mono ?_
    rintro e w17 ⟨rfl, W17, hbm, -, -, hmk⟩
    have HS2 := Lib.hid (HST15.out.marks HBM.out.1 HBM.out.2 hbm hmk)
    have HB17 := Lib.hid ((HB16.out.trans (hbm.mono (bx2 HB16.out).2.2.2.2)).trans (hmk.below (fun b hb => by have := HN5.out; have := HST15.out.le; omega)))
    have hd2 : decide ((m2 : Int) < 0) = false := by simp
    clear hbm hmk x0 x1 x2 HMQ HMY HBM HW16 HB16 HB15
    obtain ⟨⟨i0, i1, i2⟩, _⟩ := row3 HS2.out.bw
    obtain ⟨⟨j0, j1, j2⟩, _⟩ := row3 HS2.out.bg
    go_wp2_with fail
    refine (eqCert w17 kd' (.slice aG1 nG1 cG1) (.slice aG2 nG2 cG2) (.slice aW1 nW1 cW1) (.slice aW2 nW2 cW2) (Es.map PresE.val) (L.map (·.2)) (OwnPs.sl HS2.out.own) (HS2.out.vw.g.mono (fun _ _ => trivial)) (Rows2.sl2 HS2.out.ol.rows) (Sl2.mono HS2.out.vw.l (fun _ _ => trivial))).mono ?_
    rintro e w18 ⟨rfl, hb18⟩
    have HB18 := Lib.hid (HB17.out.trans (hb18.mono (bx2 HB17.out).2.2.2.2))
    have HS18 := Lib.hid (HS2.out.below hb18)
    obtain ⟨m3, hm3⟩ : ∃ m3, 1 + totEs Es + tot L = m3 := ⟨_, rfl⟩
    have HM3 := Lib.hid (show (m3 : Int) ≤ 2305845208239046700 from by have h1 := tot_find HC.out.1 rfl; have h2 := totEs_bd HC.out HBP.out HBQ.out; omega)
    have HMG := Lib.hid (show Calls Tryz.prog 33 #[.agg #[.int .i64 kd', (.slice aG1 nG1 cG1), (.slice aG2 nG2 cG2)], .int .i64 1] w18 (fun e w' => e = .returned (.int .i64 (m3 : Int)) ∧ ∃ W, Below w18.heap.size w18 W ∧ Mrk (BkC Es L) W w' ∧ PsM w' (.slice aG1 nG1 cG1) (mrkEs 1 Es) ∧ Rows2 Any w' (.slice aG2 nG2 cG2) (mrk (1 + totEs Es) L)) from by
      have h := markCert w18 kd' (.slice aG1 nG1 cG1) (.slice aG2 nG2 cG2) Es L (PsM.of HS18.out.own) (SlG.mono HS18.out.ol.rows (fun _ _ => trivial) (fun _ _ h => h)) HD.out (nfs_own HS18.out.own HS18.out.ol) (fun b hb => (bkc_lt HS18.out.own HS18.out.ol hb).2) 1 (by rw [hm3]; have := HM3.out; omega)
      rw [hm3] at h
      exact h)
    have HHG := Lib.hid (fun W (h : PsM W (.slice aG1 nG1 cG1) (mrkEs 1 Es)) (h' : Rows2 Any W (.slice aG2 nG2 cG2) (mrk (1 + totEs Es) L)) => (show Calls Tryz.prog 34 #[.agg #[.int .i64 kd', (.slice aG1 nG1 cG1), (.slice aG2 nG2 cG2)], .int .i64 1] W (fun e w' => e = .returned (.int .i64 (m3 : Int)) ∧ Below W.heap.size W w') from by
      have h := heldCert W kd' (.slice aG1 nG1 cG1) (.slice aG2 nG2 cG2) Es L 1 h h' (by rw [hm3]; have := HM3.out; omega)
      rw [hm3] at h
      exact h))
    clear hb18 hm3 HB17 HS2 hd2 i0 i1 i2 j0 j1 j2
    obtain ⟨⟨j0, j1, j2⟩, _⟩ := row3 HS18.out.bg
    go_wp2_with fail
    refine HMG.out.mono ?_
    rintro e w19 ⟨rfl, W18, hbW, hmk, hps, hrw⟩
    have HS19 := Lib.hid (show PvE.St3 n5 gW gG kd' (.slice aW1 nW1 cW1) (.slice aW2 nW2 cW2) (.slice aG1 nG1 cG1) (.slice aG2 nG2 cG2) Es L w19 from HS18.out.fin hbW hmk hps hrw)
    have HB19 := Lib.hid ((HB18.out.trans (hbW.mono (bx2 HB18.out).2.2.2.2)).trans (hmk.below (fun b hm => by
      have := (bkc_lt HS18.out.own HS18.out.ol hm).1
      have := HS18.out.le
      have := HN5.out
      omega)))
    clear hmk hps hrw hbW HMG HS18 HB18 j0 j1 j2
    obtain ⟨⟨j0, j1, j2⟩, _⟩ := row3 HS19.out.bg
    go_wp2_with fail
    refine (HHG.out w19 HS19.out.ps HS19.out.rows).mono ?_
    rintro e w20 ⟨rfl, hb20⟩
    have hd3 : decide ((m3 : Int) < 0) = false := by simp
    have hn3 : ((m3 : Int) != (m3 : Int)) = false := by simp
    have HB20 := Lib.hid (HB19.out.trans (hb20.mono (bx2 HB19.out).2.2.2.2))
    have HS20 := Lib.hid (HS19.out.below hb20)
    obtain ⟨⟨p0, p1, p2⟩, ⟨q0, q1, q2⟩, hk, hbw, hs⟩ := bx2 HB20.out
    have HP19 := Lib.hid (HP.out.keep hk)
    have HQ19 := Lib.hid (HQ.out.keep hk)
    have hl0 : w.heap.size < w20.heap.size := by omega
    have hl1 : w.heap.size + 1 < w20.heap.size := by omega
    clear hk hbw hb20 HB19 HS19 j0 j1 j2
    go_upto_region 31 with fail
    go_cut [15, 16] (fun sv kv W => ∃ (gH : Nat) (kd2 : Int) (aH1 : Option Addr) (nH1 cH1 : Nat) (aH2 : Option Addr) (nH2 cH2 : Nat) (k2 : Int) (gs2 : List Pres) (ls2 : List (List Int)), sv = .pointer (some ⟨gH, 0, none⟩) ∧ kv = .int .i64 k2 ∧ Hid (C8 w20 w20.heap.size W gH kd2 (.slice aH1 nH1 cH1) (.slice aH2 nH2 cH2) gs2 ls2 P Q k2))
    case rest =>
      obtain ⟨gH, kd2, aH1, nH1, cH1, aH2, nH2, cH2, k2, gs2, ls2, rfl, rfl, h8⟩ := hcut
      obtain ⟨hkd, hgs, hls, hkk⟩ := cert_one HC.out h8.out.1
      subst hgs
      subst hls
      have HEQ := Lib.hid (And.intro hkd hkk)
      have hkk2 : k2 = k' := hkk
      have KH := Lib.hid (show wc.heap[gH]? = some (.cells #[.int .i64 kd', .slice aH1 nH1 cH1, .slice aH2 nH2 cH2] 47 (0, 0)) from by rw [← hkd]; exact h8.out.2.1)
      have hb23' := h8.out.2.2.1
      have HB23 := Lib.hid (HB20.out.trans (hb23'.mono hs))
      have HS23 := Lib.hid (HS20.out.below hb23')
      have HHG23 := Lib.hid (show SlP Any wc (.slice aH1 nH1 cH1) (Es.map PresE.val) from h8.out.2.2.2.g.mono (fun _ _ => trivial))
      have HHL23 := Lib.hid (show Sl2 Any wc (.slice aH2 nH2 cH2) (L.map (·.2)) from Sl2.mono h8.out.2.2.2.l (fun _ _ => trivial))
      rw [hkk2]
      clear h8 hkd hkk hkk2 hb23' p0 p1 p2 q0 q1 q2 hs HP19 HQ19 hl0 hl1 HS20 HB20
      obtain ⟨⟨i0, i1, i2⟩, _⟩ := row3 HS23.out.bw
      obtain ⟨⟨j0, j1, j2⟩, _⟩ := row3 KH.out
      have n2 : (k' != k') = false := by simp
      obtain ⟨⟨i0, i1, i2⟩, _⟩ := row3 HS23.out.bw
      obtain ⟨⟨j0, j1, j2⟩, _⟩ := row3 KH.out
      go_wp2_with fail
      refine (eqCert wc _ (.slice aH1 nH1 cH1) (.slice aH2 nH2 cH2) (.slice aW1 nW1 cW1) (.slice aW2 nW2 cW2) (Es.map PresE.val) (L.map (·.2)) HHG23.out (HS23.out.vw.g.mono (fun _ _ => trivial)) HHL23.out (Sl2.mono HS23.out.vw.l (fun _ _ => trivial))).mono ?_
      rintro e w24 ⟨rfl, hb24⟩
      have HB24 := Lib.hid (HB23.out.trans (hb24.mono (bx2 HB23.out).2.2.2.2))
      have HS24 := Lib.hid (HS23.out.below hb24)
      clear hb24 HB23 HS23 HHG23 HHL23 i0 i1 i2 j0 j1 j2 KH
      obtain ⟨⟨j0, j1, j2⟩, _⟩ := row3 HS24.out.bg
      go_wp2_with fail
      refine (HHG.out w24 HS24.out.ps HS24.out.rows).mono ?_
      rintro e w25 ⟨rfl, hb25⟩
      have HBW := Lib.hid (bx2 (HB24.out.trans (hb25.mono (bx2 HB24.out).2.2.2.2))).2.2.2.1
      clear hb25
      go_wp2_with fail
      go_ret
      exact ⟨rfl, HBW.out⟩
    go_region_law
      (first | (go_simp; go_at_call_of 14 pO; refine (HTO.out _ (HP19.out.keep (by repeat (first | exact (Keep.refl _ _).drew | exact Keep.refl _ _ | exact (Keep.refl _ _).alloc _ | exact ((Keep.refl _ _).alloc _).drew | refine Keep.drew ?_ | refine Keep.alloc ?_ _ | refine Keep.trans ?_ (Keep.of_below (by assumption))))) HBP.out).mono ?_; rintro e w21 ⟨zO, zP, zC, rfl, hV21, hb21⟩; have k3 := (show Keep Any w20 w21 from (by repeat (first | exact (Keep.refl _ _).drew | exact Keep.refl _ _ | exact (Keep.refl _ _).alloc _ | exact ((Keep.refl _ _).alloc _).drew | refine Keep.drew ?_ | refine Keep.alloc ?_ _ | refine Keep.trans ?_ (Keep.of_below (by assumption))))); have x0 := (k3.cell (b := w.heap.size + 1) (o := 0) trivial hl1).trans q0; have x1 := (k3.cell (b := w.heap.size + 1) (o := 1) trivial hl1).trans q1; have x2 := (k3.cell (b := w.heap.size + 1) (o := 2) trivial hl1).trans q2; have hy1 : w.heap.size + 1 < w21.heap.size := Nat.lt_of_lt_of_le hl1 k3.size; first | (have gN3 : Below w20.drew.heap.size w20.drew w21 := hb21) | (have gA3 : w21.heap[w20.heap.size]? = some (.cells #[.int .i64 0, .slice none 0 0, .slice none 0 0] 47 (0, 0)) := by exact blk hb21 (lt_al w20 _) (al_new w20 _))) | (go_simp; go_at_call_of 14 qO; refine (HTQ.out _ (HQ19.out.keep (by repeat (first | exact (Keep.refl _ _).drew | exact Keep.refl _ _ | exact (Keep.refl _ _).alloc _ | exact ((Keep.refl _ _).alloc _).drew | refine Keep.drew ?_ | refine Keep.alloc ?_ _ | refine Keep.trans ?_ (Keep.of_below (by assumption))))) HBQ.out).mono ?_; rintro e w22 ⟨rO, rP, rC, rfl, hV22, hb22⟩; first | (have gN4 := gN3; have gM4 : Below w21.heap.size w21 w22 := hb22) | (have gB4 : w22.heap[w21.heap.size]? = some (.cells #[.int .i64 0, .slice none 0 0, .slice none 0 0] 47 (0, 0)) := blk hb22 (by simp) (heap_alloc_new _ _)) | (have gA4 : w22.heap[w20.heap.size]? = some (.cells #[.int .i64 0, .slice none 0 0, .slice none 0 0] 47 (0, 0)) := blk hb22 (Array.getElem?_eq_some_iff.1 gA3).1 gA3)) | (go_simp; go_at_call 31; refine (impl_prove _ zO zP zC rO rP rC P Q ((hV21.mono (fun _ _ => trivial)).keep (by repeat (first | exact (Keep.refl _ _).drew | exact Keep.refl _ _ | exact (Keep.refl _ _).alloc _ | exact ((Keep.refl _ _).alloc _).drew | refine Keep.drew ?_ | refine Keep.alloc ?_ _ | refine Keep.trans ?_ (Keep.of_below (by assumption))))) ((hV22.mono (fun _ _ => trivial)).keep (by repeat (first | exact (Keep.refl _ _).drew | exact Keep.refl _ _ | exact (Keep.refl _ _).alloc _ | exact ((Keep.refl _ _).alloc _).drew | refine Keep.drew ?_ | refine Keep.alloc ?_ _ | refine Keep.trans ?_ (Keep.of_below (by assumption)))))).mono ?_; rintro e w23 ⟨kd2, vHg, vHl, k2, Es', L', rfl, hc, hE', hL', -, hb23⟩; have hsG := OwnPs.slS hE'; have hsW := OwnE.sl2 hL'; clear hE' hL'; obtain ⟨aW1, nW1, cW1, rfl⟩ := frmP hsG; obtain ⟨aW2, nW2, cW2, rfl⟩ := frm2 hsW; first | (have gN5 := gN4; have gM5 : Below w22.heap.size w22 w23 := hb23) | (have gC5 : w23.heap[w22.heap.size]? = some (.cells #[.int .i64 0, .slice none 0 0, .slice none 0 0] 47 (0, 0)) := blk hb23 (by simp) (heap_alloc_new _ _); obtain ⟨⟨e0, e1, e2⟩, f0, f1, f2⟩ := row3 gC5) | (have gB5 : w23.heap[w21.heap.size]? = some (.cells #[.int .i64 0, .slice none 0 0, .slice none 0 0] 47 (0, 0)) := blk hb23 (Array.getElem?_eq_some_iff.1 gB4).1 gB4; obtain ⟨⟨e0, e1, e2⟩, f0, f1, f2⟩ := row3 gB5) | (have gA5 : w23.heap[w20.heap.size]? = some (.cells #[.int .i64 0, .slice none 0 0, .slice none 0 0] 47 (0, 0)) := blk hb23 (Array.getElem?_eq_some_iff.1 gA4).1 gA4; obtain ⟨⟨e0, e1, e2⟩, f0, f1, f2⟩ := row3 gA5)))
    all_goals (go_wp2_with fail; go_meet)
    all_goals first
      | (have B3 : Below w20.heap.size w20 w21 := ((Below.refl _ _).drew).trans gN3
         have B4 := B3.trans (gM4.mono B3.size)
         have B5 := B4.trans (gM5.mono B4.size)
         have hst := c8_new (BX := w20) (n := w20.heap.size) hc hsG hsW ((Below.refl _ _).trans (B5.mono (Nat.le_refl _))) (Nat.le_trans (Nat.le_refl _) B5.size)
         exact ⟨_, _, _, _, _, _, _, _, _, _, _, rfl, rfl, Lib.hid hst⟩)
      | (have B3 : Below w20.heap.size w20 w21 := ((Below.refl _ _).drew).trans gN3
         have B4 := B3.trans (gM4.mono B3.size)
         have B5 := (B4.alloc B4.size _).trans (hb23.mono (Nat.le_trans B4.size (by simp)))
         have hst := c8_set (BX := w20) (n := w20.heap.size) hc gC5 (Nat.le_trans (Nat.le_refl _) B4.size) (by simp) hsG hsW ((Below.refl _ _).trans (B5.mono (Nat.le_refl _)))
         exact ⟨_, _, _, _, _, _, _, _, _, _, _, rfl, rfl, Lib.hid hst⟩)
      | (have B3 : Below w20.heap.size w20 w21 := ((Below.refl _ _).drew).trans gN3
         have B4 := (B3.alloc B3.size _).trans (hb22.mono (Nat.le_trans B3.size (by simp)))
         have B5 := B4.trans (hb23.mono B4.size)
         have hst := c8_set (BX := w20) (n := w20.heap.size) hc gB5 (Nat.le_trans (Nat.le_refl _) B3.size) (Array.getElem?_eq_some_iff.1 gB4).1 hsG hsW ((Below.refl _ _).trans (B5.mono (Nat.le_refl _)))
         exact ⟨_, _, _, _, _, _, _, _, _, _, _, rfl, rfl, Lib.hid hst⟩)
      | (have B3 : Below w20.heap.size w20 w21 := (((Below.refl _ _).drew).alloc (Nat.le_refl _) _).trans (hb21.mono (Nat.le_of_lt (lt_al w20 _)))
         have B4 := B3.trans (hb22.mono B3.size)
         have B5 := B4.trans (hb23.mono B4.size)
         have hst := c8_set (BX := w20) (n := w20.heap.size) hc gA5 (Nat.le_refl _) (Array.getElem?_eq_some_iff.1 gA4).1 hsG hsW ((Below.refl _ _).trans (B5.mono (Nat.le_refl _)))
         exact ⟨_, _, _, _, _, _, _, _, _, _, _, rfl, rfl, Lib.hid hst⟩)
  go_region_law
    (first | (go_simp; go_at_call_of 14 pO; refine (HTO.out _ (HP2.out.keep (by repeat (first | exact (Keep.refl _ _).drew | exact Keep.refl _ _ | exact (Keep.refl _ _).alloc _ | exact ((Keep.refl _ _).alloc _).drew | refine Keep.drew ?_ | refine Keep.alloc ?_ _ | refine Keep.trans ?_ (Keep.of_below (by assumption))))) HBP.out).mono ?_; rintro e w3 ⟨vO, vP, vC, rfl, hV3, hb3⟩; have k3 := (show Keep Any w2 w3 from (by repeat (first | exact (Keep.refl _ _).drew | exact Keep.refl _ _ | exact (Keep.refl _ _).alloc _ | exact ((Keep.refl _ _).alloc _).drew | refine Keep.drew ?_ | refine Keep.alloc ?_ _ | refine Keep.trans ?_ (Keep.of_below (by assumption))))); have x0 := (k3.cell (b := w.heap.size + 1) (o := 0) trivial hl1).trans q0; have x1 := (k3.cell (b := w.heap.size + 1) (o := 1) trivial hl1).trans q1; have x2 := (k3.cell (b := w.heap.size + 1) (o := 2) trivial hl1).trans q2; have hy1 : w.heap.size + 1 < w3.heap.size := Nat.lt_of_lt_of_le hl1 k3.size; first | (have gN3 : Below w2.drew.heap.size w2.drew w3 := hb3) | (have gA3 : w3.heap[w2.heap.size]? = some (.cells #[.int .i64 0, .slice none 0 0, .slice none 0 0] 47 (0, 0)) := by exact blk hb3 (lt_al w2 _) (al_new w2 _))) | (go_simp; go_at_call_of 14 qO; refine (HTQ.out _ (HQ2.out.keep (by repeat (first | exact (Keep.refl _ _).drew | exact Keep.refl _ _ | exact (Keep.refl _ _).alloc _ | exact ((Keep.refl _ _).alloc _).drew | refine Keep.drew ?_ | refine Keep.alloc ?_ _ | refine Keep.trans ?_ (Keep.of_below (by assumption))))) HBQ.out).mono ?_; rintro e w4 ⟨uO, uP, uC, rfl, hV4, hb4⟩; first | (have gN4 := gN3; have gM4 : Below w3.heap.size w3 w4 := hb4) | (have gB4 : w4.heap[w3.heap.size]? = some (.cells #[.int .i64 0, .slice none 0 0, .slice none 0 0] 47 (0, 0)) := blk hb4 (by simp) (heap_alloc_new _ _)) | (have gA4 : w4.heap[w2.heap.size]? = some (.cells #[.int .i64 0, .slice none 0 0, .slice none 0 0] 47 (0, 0)) := blk hb4 (Array.getElem?_eq_some_iff.1 gA3).1 gA3)) | (go_simp; go_at_call 30; refine (spec_prove _ vO vP vC uO uP uC P Q ((hV3.mono (fun _ _ => trivial)).keep (by repeat (first | exact (Keep.refl _ _).drew | exact Keep.refl _ _ | exact (Keep.refl _ _).alloc _ | exact ((Keep.refl _ _).alloc _).drew | refine Keep.drew ?_ | refine Keep.alloc ?_ _ | refine Keep.trans ?_ (Keep.of_below (by assumption))))) ((hV4.mono (fun _ _ => trivial)).keep (by repeat (first | exact (Keep.refl _ _).drew | exact Keep.refl _ _ | exact (Keep.refl _ _).alloc _ | exact ((Keep.refl _ _).alloc _).drew | refine Keep.drew ?_ | refine Keep.alloc ?_ _ | refine Keep.trans ?_ (Keep.of_below (by assumption)))))).mono ?_; rintro e w5 ⟨kd, vWg, vWl, k, gs, res, rfl, hc, hsG, hsW, hb5⟩; obtain ⟨aW1, nW1, cW1, rfl⟩ := frmP hsG; obtain ⟨aW2, nW2, cW2, rfl⟩ := frm2 hsW; first | (have gN5 := gN4; have gM5 : Below w4.heap.size w4 w5 := hb5) | (have gC5 : w5.heap[w4.heap.size]? = some (.cells #[.int .i64 0, .slice none 0 0, .slice none 0 0] 47 (0, 0)) := blk hb5 (by simp) (heap_alloc_new _ _); obtain ⟨⟨e0, e1, e2⟩, f0, f1, f2⟩ := row3 gC5) | (have gB5 : w5.heap[w3.heap.size]? = some (.cells #[.int .i64 0, .slice none 0 0, .slice none 0 0] 47 (0, 0)) := blk hb5 (Array.getElem?_eq_some_iff.1 gB4).1 gB4; obtain ⟨⟨e0, e1, e2⟩, f0, f1, f2⟩ := row3 gB5) | (have gA5 : w5.heap[w2.heap.size]? = some (.cells #[.int .i64 0, .slice none 0 0, .slice none 0 0] 47 (0, 0)) := blk hb5 (Array.getElem?_eq_some_iff.1 gA4).1 gA4; obtain ⟨⟨e0, e1, e2⟩, f0, f1, f2⟩ := row3 gA5)))
  all_goals (go_wp2_with fail; go_meet)
  all_goals first
    | (have B3 : Below w2.heap.size w2 w3 := ((Below.refl _ _).drew).trans gN3
       have B4 := B3.trans (gM4.mono B3.size)
       have B5 := B4.trans (gM5.mono B4.size)
       have hst := c8_new (BX := ((w.alloc (.cells #[pO, pP, pC] 26)).alloc (.cells #[qO, qP, qC] 26))) (n := w.heap.size + 2) hc hsG hsW (HB2'.out.trans (B5.mono (bx2 HB2'.out).2.2.2.2)) (Nat.le_trans (bx2 HB2'.out).2.2.2.2 B5.size)
       exact ⟨_, _, _, _, _, _, _, _, _, _, _, rfl, rfl, Lib.hid hst⟩)
    | (have B3 : Below w2.heap.size w2 w3 := ((Below.refl _ _).drew).trans gN3
       have B4 := B3.trans (gM4.mono B3.size)
       have B5 := (B4.alloc B4.size _).trans (hb5.mono (Nat.le_trans B4.size (by simp)))
       have hst := c8_set (BX := ((w.alloc (.cells #[pO, pP, pC] 26)).alloc (.cells #[qO, qP, qC] 26))) (n := w.heap.size + 2) hc gC5 (Nat.le_trans (bx2 HB2'.out).2.2.2.2 B4.size) (by simp) hsG hsW (HB2'.out.trans (B5.mono (bx2 HB2'.out).2.2.2.2))
       exact ⟨_, _, _, _, _, _, _, _, _, _, _, rfl, rfl, Lib.hid hst⟩)
    | (have B3 : Below w2.heap.size w2 w3 := ((Below.refl _ _).drew).trans gN3
       have B4 := (B3.alloc B3.size _).trans (hb4.mono (Nat.le_trans B3.size (by simp)))
       have B5 := B4.trans (hb5.mono B4.size)
       have hst := c8_set (BX := ((w.alloc (.cells #[pO, pP, pC] 26)).alloc (.cells #[qO, qP, qC] 26))) (n := w.heap.size + 2) hc gB5 (Nat.le_trans (bx2 HB2'.out).2.2.2.2 B3.size) (Array.getElem?_eq_some_iff.1 gB4).1 hsG hsW (HB2'.out.trans (B5.mono (bx2 HB2'.out).2.2.2.2))
       exact ⟨_, _, _, _, _, _, _, _, _, _, _, rfl, rfl, Lib.hid hst⟩)
    | (have B3 : Below w2.heap.size w2 w3 := (((Below.refl _ _).drew).alloc (Nat.le_refl _) _).trans (hb3.mono (Nat.le_of_lt (lt_al w2 _)))
       have B4 := B3.trans (hb4.mono B3.size)
       have B5 := B4.trans (hb5.mono B4.size)
       have hst := c8_set (BX := ((w.alloc (.cells #[pO, pP, pC] 26)).alloc (.cells #[qO, qP, qC] 26))) (n := w.heap.size + 2) hc gA5 (bx2 HB2'.out).2.2.2.2 (Array.getElem?_eq_some_iff.1 gA4).1 hsG hsW (HB2'.out.trans (B5.mono (bx2 HB2'.out).2.2.2.2))
       exact ⟨_, _, _, _, _, _, _, _, _, _, _, rfl, rfl, Lib.hid hst⟩)
end Go.Proofs.YtabeedimnbkcgaaGreat.PvE
