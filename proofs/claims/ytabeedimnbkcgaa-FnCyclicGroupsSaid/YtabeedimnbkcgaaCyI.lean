import Derived.Test.YtabeedimnbkcgaaCyF
import Derived.Deep.AppendLies
/-
  A presentation that is built in a box: its powers (rows of their own), its conjugates.
-/
namespace Go.Proofs.Ytabeedimnbkcgaa.CyI
open Go.RowKit Go.Proofs.Ytabeedimnbkcgaa Go.Proofs.Ytabeedimnbkcgaa.Tow Go.Proofs.Ytabeedimnbkcgaa.Val Go.Proofs.Ytabeedimnbkcgaa.Grps Go.Proofs.Ytabeedimnbkcgaa.NumT Go.Proofs.Ytabeedimnbkcgaa.CyA Go.Proofs.Ytabeedimnbkcgaa.CyD Go.Proofs.Ytabeedimnbkcgaa.CyF
set_option linter.unusedVariables false
set_option linter.unusedSimpArgs false

def prow (n : Nat) : List (List Nat) := (List.range n).map fun i => (List.replicate n 0).set (i + 1) 1
def crow (n : Nat) : List (List (List Nat)) := (List.range n).map fun i => (List.range (n - (i + 1))).map fun k => (List.replicate n 0).set (i + 1 + k) 1
def presB (os : List Nat) : Bool := decide ((ofTw (cyT os)).os = ints os) && decide ((ofTw (cyT os)).ps = (prow os.length).map ints) && decide ((ofTw (cyT os)).cs = (crow os.length).map (·.map ints)) && decide ((cyT os).length = os.length) &&
  (List.range os.length).all fun i => match (cyT os)[i]? with
    | none => false
    | some L => decide (L.c.length = os.length - (i + 1)) && (List.range L.c.length).all fun k => decide (i + 1 + k < os.length) && decide (pad (i + 1) (L.c.getD k []) = (List.replicate os.length 0).set (i + 1 + k) 1)
theorem pres_all : ((List.range 730).all fun n => n == 0 || (match resS n with | (0, os) => presB os && decide (os.length ≤ 6) && os.all (fun p => decide (p ≤ 7)) | _ => true)) = true := by decide +kernel
theorem presB_pres {os : List Nat} (h : presB os = true) : ofTw (cyT os) = ⟨ints os, (prow os.length).map ints, (crow os.length).map (·.map ints)⟩ ∧ (cyT os).length = os.length ∧ Abl (cyT os) := by
  simp only [presB, Bool.and_eq_true, decide_eq_true_eq, List.all_eq_true, List.mem_range] at h
  obtain ⟨⟨⟨⟨h1, h2⟩, h3⟩, h4⟩, h5⟩ := h
  refine ⟨?_, h4, fun i L hL => ?_⟩
  · have e : ∀ P : Pres, P = ⟨P.os, P.ps, P.cs⟩ := fun P => rfl
    rw [e (ofTw (cyT os)), h1, h2, h3]
  · have hi := (List.getElem?_eq_some_iff.1 hL).1
    have := h5 i (by omega)
    rw [hL] at this
    simp only [Bool.and_eq_true, decide_eq_true_eq, List.all_eq_true, List.mem_range] at this
    rw [h4]
    refine ⟨this.1, fun k y hy => ?_⟩
    have hk := this.2 k (List.getElem?_eq_some_iff.1 hy).1
    rw [List.getD_eq_getElem?_getD, hy] at hk
    exact hk

def SS (B : Nat) (vP vC : Value) (g : Nat) (bs : List Nat) : Nat → Prop := fun k => vP.ownBlock ≠ some k ∧ vC.ownBlock ≠ some k ∧ k ≠ g ∧ k ∉ bs ∧ B ≤ k
abbrev rowV (n b : Nat) : Value := .slice (some ⟨b, 0, none⟩) n n
/-- a presentation in the making -/
structure TS (B n : Nat) (W : World) (g : Nat) (vO vP vC : Value) (os bs : List Nat) (rows : List (List Nat)) (cl : List (List (List Nat))) : Prop where
  bx : W.heap[g]? = some (.cells #[vO, vP, vC] 29 (0, 0))
  hg : B ≤ g
  O : SlI (SS B vP vC g bs) W vO (ints os)
  P : W.ownsRow B 25 1 vP bs.length (bs.map (rowV n))
  R : ∀ (i b : Nat) (r : List Nat), bs[i]? = some b → rows[i]? = some r → Own B W (rowV n b) (ints r)
  len : rows.length = bs.length
  rl : ∀ r ∈ rows, r.length = n
  nd : bs.Nodup
  C : ∃ us, W.ownsRow B 26 1 vC cl.length us ∧ us.length = cl.length ∧ ∀ (i : Nat) (l : List (List Nat)) (u : Value), cl[i]? = some l → us[i]? = some u → Sl2 (SS B vP vC g bs) W u (l.map ints)
theorem TS.lt {B n : Nat} {W : World} {g : Nat} {vO vP vC : Value} {os bs : List Nat} {rows : List (List Nat)} {cl : List (List (List Nat))} (h : TS B n W g vO vP vC os bs rows cl) : g < W.heap.size := (Array.getElem?_eq_some_iff.1 h.bx).1
theorem TS.blt {B n : Nat} {W : World} {g : Nat} {vO vP vC : Value} {os bs : List Nat} {rows : List (List Nat)} {cl : List (List (List Nat))} (h : TS B n W g vO vP vC os bs rows cl) : ∀ b ∈ bs, B ≤ b ∧ b < W.heap.size := fun b hb => by
  obtain ⟨i, hi⟩ := List.getElem?_of_mem hb
  have hil := (List.getElem?_eq_some_iff.1 hi).1
  exact (h.R i b (rows[i]'(by rw [h.len]; exact hil)) hi (List.getElem?_eq_getElem _)).lt
theorem TS.below {B n : Nat} {W W' : World} {g : Nat} {vO vP vC : Value} {os bs : List Nat} {rows : List (List Nat)} {cl : List (List (List Nat))} (h : TS B n W g vO vP vC os bs rows cl) (hb : Below W.heap.size W W') : TS B n W' g vO vP vC os bs rows cl := by
  have hk := Keep.of_below (S := Any) hb
  obtain ⟨us, c1, c2, c3⟩ := h.C
  exact ⟨(hb.block g h.lt).trans h.bx, h.hg, h.O.keep (hk.mono fun _ _ => trivial), ownsRow_keep h.P hk (fun _ _ => trivial), fun i b r h1 h2 => (h.R i b r h1 h2).keep hk (fun _ _ => trivial), h.len, h.rl, h.nd,
    us, ownsRow_keep c1 hk (fun _ _ => trivial), c2, fun i l u h1 h2 => Sl2.keep (c3 i l u h1 h2) (hk.mono fun _ _ => trivial)⟩
theorem SlI_inB {S : Nat → Prop} {w : World} {v : Value} {l : List Int} (h : SlI S w v l) : SlI (fun k => S k ∧ k < w.heap.size) w v l := by
  obtain ⟨ao, c, h1, h2, h3, h0, h4⟩ := h
  exact ⟨ao, c, h1, h2, h3, h0, fun i x hx => by obtain ⟨b, o, e1, e2, e3, e4⟩ := h4 i x hx; exact ⟨b, o, e1, ⟨e2, e3⟩, e3, e4⟩⟩
theorem Sl2_inB {S : Nat → Prop} {w : World} {v : Value} {l : List (List Int)} (h : Sl2 S w v l) : Sl2 (fun k => S k ∧ k < w.heap.size) w v l := by
  obtain ⟨ao, c, h1, h2, h3, h0, h4⟩ := h
  exact ⟨ao, c, h1, h2, h3, h0, fun i x hx => by obtain ⟨b, o, e1, e2, e3, u, e4, e5⟩ := h4 i x hx; exact ⟨b, o, e1, ⟨e2, e3⟩, e3, u, e4, SlI_inB e5⟩⟩
theorem owns_keep1 {S : Nat → Prop} {w w' : World} {B : Nat} {e : TypeId} {s n : Nat} {v : Value} {xs : List Value} (h : w.ownsRow B e s v n xs) (hk : Keep S w w') (hS : ∀ k, v.ownBlock = some k → S k) : w'.ownsRow B e s v n xs := by
  refine ⟨h.1, ?_⟩
  rcases h.2 with h2 | ⟨g, cap, cur, rfl, hb, hh, r⟩
  · exact .inl h2
  · exact .inr ⟨g, cap, cur, rfl, hb, by rw [hk.block g (hS g rfl) (Array.getElem?_eq_some_iff.1 hh).1]; exact hh, r⟩
theorem owns_ne {w : World} {B g : Nat} {e t : TypeId} {s n : Nat} {v : Value} {xs : List Value} {cs : Array Value} (h : w.ownsRow B e s v n xs) (hb : w.heap[g]? = some (.cells cs t (0, 0))) (hne : e ≠ t) : v.ownBlock ≠ some g := fun he => by
  rcases h.2 with ⟨h0, _⟩ | ⟨g', cap, cur, h0, _, hgg, _⟩
  · rw [h0] at he; simp [Value.ownBlock] at he
  · rw [h0] at he
    have he : g' = g := by simpa [Value.ownBlock] using he
    subst he
    rw [hb] at hgg
    simp at hgg
    exact hne hgg.2.symm
/-- another row of zeros: W1 holds the row's block b (new); the powers have grown to v' -/
theorem TS.row {B n b c g2 : Nat} {W W1 W2 : World} {g : Nat} {vO vP vC : Value} {os bs : List Nat} {rows : List (List Nat)} {cl : List (List (List Nat))} {r : List Nat} (h : TS B n W g vO vP vC os bs rows cl) (hb : Below W.heap.size W W1) (hbb : W.heap.size ≤ b) (hB : B ≤ W.heap.size)
    (hO : Own B W1 (rowV n b) (ints r)) (hr : r.length = n) (ho : W2.ownsRow B 25 1 (.slice (some ⟨g2, 0, none⟩) (bs.length + 1) c) (bs.length + 1) (bs.map (rowV n) ++ [rowV n b])) (hg : W1.grownBy W2 vP.ownBlock) (hat : vP.ownBlock = some g2 ∨ W1.heap.size ≤ g2) :
    TS B n (W2.setCell ⟨g, 1, none⟩ (.slice (some ⟨g2, 0, none⟩) (bs.length + 1) c)) g vO (.slice (some ⟨g2, 0, none⟩) (bs.length + 1) c) vC os (bs ++ [b]) (rows ++ [r]) cl := by
  have h1 := h.below hb
  have hgl := h.lt
  have hgl1 : g < W1.heap.size := Nat.lt_of_lt_of_le hgl hb.size
  have hPne : vP.ownBlock ≠ some g := fun e => by
    rcases h.P.2 with ⟨h0, _⟩ | ⟨g', cap, cur, h0, _, hgg, _⟩
    · rw [h0] at e; simp [Value.ownBlock] at e
    · rw [h0] at e; simp [Value.ownBlock] at e; subst e
      rw [h.bx] at hgg
      simp at hgg
  have hg2 : g2 ≠ g := by
    rcases hat with h3 | h3
    · exact fun e => hPne (by rw [h3, e])
    · omega
  have hkS : Keep (SS B vP vC g bs) W1 (W2.setCell ⟨g, 1, none⟩ (.slice (some ⟨g2, 0, none⟩) (bs.length + 1) c)) := (Keep.grown hg fun k hk e => hk.1 (by rw [← e])).setCell (p := ⟨g, 1, none⟩) (fun hk => hk.2.2.1 rfl) _
  have hkG : Keep (fun k => k ≠ g) W2 (W2.setCell ⟨g, 1, none⟩ (.slice (some ⟨g2, 0, none⟩) (bs.length + 1) c)) := (Keep.refl _ _).setCell (p := ⟨g, 1, none⟩) (fun hk => hk rfl) _
  have hSS : ∀ k, SS B vP vC g bs k ∧ k < W.heap.size → SS B (.slice (some ⟨g2, 0, none⟩) (bs.length + 1) c) vC g (bs ++ [b]) k := fun k hk => ⟨fun e => by
      have e : g2 = k := by simpa [Value.ownBlock] using e
      rcases hat with h3 | h3
      · exact hk.1.1 (by rw [h3, e])
      · have := hk.2; have := hb.size; omega, hk.1.2.1, hk.1.2.2.1, fun hm => by
      rcases List.mem_append.1 hm with h4 | h4
      · exact hk.1.2.2.2.1 h4
      · have := List.mem_singleton.1 h4; have := hk.2; omega, hk.1.2.2.2.2⟩
  have hkW : Keep (fun k => SS B vP vC g bs k ∧ k < W.heap.size) W (W2.setCell ⟨g, 1, none⟩ (.slice (some ⟨g2, 0, none⟩) (bs.length + 1) c)) := (Keep.of_below hb).trans (hkS.mono fun k hk => hk.1)
  have hrowk : ∀ {v : Value} {x : List Int}, Own B W1 v x → Own B (W2.setCell ⟨g, 1, none⟩ (.slice (some ⟨g2, 0, none⟩) (bs.length + 1) c)) v x := fun {v x} hv => by
    have h3 : Own B W2 v x := World.ownsRow.kept hv hg (rows_apart hv h1.P (by decide))
    exact h3.keep hkG fun k hk => fun e => owns_ne hv h1.bx (by decide) (by rw [hk, e])
  obtain ⟨us, c1, c2, c3⟩ := h.C
  obtain ⟨us1, d1, d2, d3⟩ := h1.C
  refine ⟨?_, h.hg, ?_, ?_, fun i b' r' hb' hr' => ?_, by simp [h.len], fun r' hr' => ?_, ?_, us, ?_, c2, fun i l u hl hu => ?_⟩
  · have h3 : W2.heap[g]? = some (.cells #[vO, vP, vC] 29 (0, 0)) := (hg.block g hgl1 (fun e => hPne e.symm)).trans h1.bx
    exact heap_setCell_same W2 g 1 _ _ _ h3
  · exact ((SlI_inB h.O).keep hkW).mono hSS
  · rw [List.length_append, List.map_append]
    exact owns_keep1 ho hkG (fun k hk => by
      have : g2 = k := by simpa [Value.ownBlock] using hk
      rw [← this]; exact hg2)
  · rcases Nat.lt_or_ge i bs.length with hi | hi
    · rw [List.getElem?_append_left hi] at hb'
      rw [List.getElem?_append_left (by rw [h.len]; exact hi)] at hr'
      exact hrowk (h1.R i b' r' hb' hr')
    · rw [List.getElem?_append_right hi] at hb'
      rw [List.getElem?_append_right (by rw [h.len]; exact hi), h.len] at hr'
      rcases hj : i - bs.length with _ | j
      · rw [hj] at hb' hr'
        simp at hb' hr'
        subst hb'; subst hr'
        exact hrowk hO
      · rw [hj] at hb'
        simp at hb'
  · rcases List.mem_append.1 hr' with h4 | h4
    · exact h.rl r' h4
    · rw [List.mem_singleton.1 h4]; exact hr
  · rw [List.nodup_append]
    refine ⟨h.nd, by simp, fun x hx y hy e => ?_⟩
    have := (h.blt x hx).2
    have := List.mem_singleton.1 hy
    omega
  · have e1 : W1.ownsRow B 26 1 vC cl.length us := ownsRow_keep c1 (Keep.of_below (S := Any) hb) (fun _ _ => trivial)
    have e2 : W2.ownsRow B 26 1 vC cl.length us := World.ownsRow.kept e1 hg (rows_apart e1 h1.P (by decide))
    exact owns_keep1 e2 hkG (fun k hk e => owns_ne e1 h1.bx (by decide) (by rw [hk, e]))
  · exact Sl2.mono (Sl2.keep (Sl2_inB (c3 i l u hl hu)) hkW) hSS
/-- another list of conjugates: W1 holds it; the conjugates have grown to v' -/
theorem TS.con {B n c g2 : Nat} {W W1 W2 : World} {g : Nat} {vO vP vC u : Value} {os bs : List Nat} {rows : List (List Nat)} {cl : List (List (List Nat))} {l : List (List Nat)} {us : List Value} (h : TS B n W g vO vP vC os bs rows cl) (hb : Below W.heap.size W W1)
    (hu : Sl2 (SS B vP vC g bs) W1 u (l.map ints)) (hc1 : W1.ownsRow B 26 1 vC cl.length us) (hc2 : us.length = cl.length) (hc3 : ∀ (i : Nat) (l : List (List Nat)) (u : Value), cl[i]? = some l → us[i]? = some u → Sl2 (SS B vP vC g bs) W u (l.map ints))
    (ho : W2.ownsRow B 26 1 (.slice (some ⟨g2, 0, none⟩) (cl.length + 1) c) (cl.length + 1) (us ++ [u])) (hg : W1.grownBy W2 vC.ownBlock) (hat : vC.ownBlock = some g2 ∨ W1.heap.size ≤ g2) :
    TS B n (W2.setCell ⟨g, 2, none⟩ (.slice (some ⟨g2, 0, none⟩) (cl.length + 1) c)) g vO vP (.slice (some ⟨g2, 0, none⟩) (cl.length + 1) c) os bs rows (cl ++ [l]) := by
  have h1 := h.below hb
  have hgl := h.lt
  have hgl1 : g < W1.heap.size := Nat.lt_of_lt_of_le hgl hb.size
  have hCne : vC.ownBlock ≠ some g := owns_ne hc1 h1.bx (by decide)
  have hg2 : g2 ≠ g := by
    rcases hat with h3 | h3
    · exact fun e => hCne (by rw [h3, e])
    · omega
  have hkS : Keep (SS B vP vC g bs) W1 (W2.setCell ⟨g, 2, none⟩ (.slice (some ⟨g2, 0, none⟩) (cl.length + 1) c)) := (Keep.grown hg fun k hk e => hk.2.1 (by rw [← e])).setCell (p := ⟨g, 2, none⟩) (fun hk => hk.2.2.1 rfl) _
  have hkG : Keep (fun k => k ≠ g) W2 (W2.setCell ⟨g, 2, none⟩ (.slice (some ⟨g2, 0, none⟩) (cl.length + 1) c)) := (Keep.refl _ _).setCell (p := ⟨g, 2, none⟩) (fun hk => hk rfl) _
  have hSS : ∀ k, SS B vP vC g bs k ∧ k < W1.heap.size → SS B vP (.slice (some ⟨g2, 0, none⟩) (cl.length + 1) c) g bs k := fun k hk => ⟨hk.1.1, fun e => by
      have e : g2 = k := by simpa [Value.ownBlock] using e
      rcases hat with h3 | h3
      · exact hk.1.2.1 (by rw [h3, e])
      · have := hk.2; omega, hk.1.2.2⟩
  have hkW : Keep (fun k => SS B vP vC g bs k ∧ k < W1.heap.size) W1 (W2.setCell ⟨g, 2, none⟩ (.slice (some ⟨g2, 0, none⟩) (cl.length + 1) c)) := hkS.mono fun k hk => hk.1
  have hk01 := Keep.of_below (S := SS B vP vC g bs) hb
  refine ⟨?_, h.hg, ?_, ?_, fun i b' r' hb' hr' => ?_, h.len, h.rl, h.nd, us ++ [u], ?_, by simp [hc2], fun i l' u' hl hu' => ?_⟩
  · have h3 : W2.heap[g]? = some (.cells #[vO, vP, vC] 29 (0, 0)) := (hg.block g hgl1 (fun e => hCne e.symm)).trans h1.bx
    exact heap_setCell_same W2 g 2 _ _ _ h3
  · exact ((SlI_inB h1.O).keep hkW).mono hSS
  · have e2 := World.ownsRow.kept h1.P hg (rows_apart h1.P hc1 (by decide))
    exact owns_keep1 e2 hkG (fun k hk e => owns_ne h1.P h1.bx (by decide) (by rw [hk, e]))
  · have hv := h1.R i b' r' hb' hr'
    have h3 : Own B W2 (rowV n b') (ints r') := World.ownsRow.kept hv hg (rows_apart hv hc1 (by decide))
    exact h3.keep hkG fun k hk => fun e => owns_ne hv h1.bx (by decide) (by rw [hk, e])
  · rw [List.length_append]
    exact owns_keep1 ho hkG (fun k hk => by
      have : g2 = k := by simpa [Value.ownBlock] using hk
      rw [← this]; exact hg2)
  · rcases Nat.lt_or_ge i cl.length with hi | hi
    · rw [List.getElem?_append_left hi] at hl
      rw [List.getElem?_append_left (by rw [hc2]; exact hi)] at hu'
      exact Sl2.mono (Sl2.keep (Sl2_inB (Sl2.keep (hc3 i l' u' hl hu') hk01)) hkW) hSS
    · rw [List.getElem?_append_right hi] at hl
      rw [List.getElem?_append_right (by rw [hc2]; exact hi), hc2] at hu'
      rcases hj : i - cl.length with _ | j
      · rw [hj] at hl hu'
        simp at hl hu'
        subst hl; subst hu'
        exact Sl2.mono (Sl2.keep (Sl2_inB hu) hkW) hSS
      · rw [hj] at hl
        simp at hl
/-- a number is put into a row of the powers -/
theorem TS.poke {B n i b j a : Nat} {W : World} {g : Nat} {vO vP vC : Value} {os bs : List Nat} {rows : List (List Nat)} {cl : List (List (List Nat))} {r : List Nat} (h : TS B n W g vO vP vC os bs rows cl) (hb : bs[i]? = some b) (hr : rows[i]? = some r) :
    TS B n (W.setCell ⟨b, j, none⟩ (.int .i64 (a : Int))) g vO vP vC os bs (rows.set i (r.set j a)) cl := by
  have hown := h.R i b r hb hr
  have hbne : b ≠ g := fun e => owns_ne hown h.bx (by decide) (by rw [e]; rfl)
  have hk : Keep (fun k => k ≠ b) W (W.setCell ⟨b, j, none⟩ (.int .i64 (a : Int))) := (Keep.refl _ _).setCell (p := ⟨b, j, none⟩) (fun hk => hk rfl) _
  have hbm := List.mem_of_getElem? hb
  have hil := (List.getElem?_eq_some_iff.1 hb).1
  have hSb : ∀ k, SS B vP vC g bs k → k ≠ b := fun k hk e => hk.2.2.2.1 (by rw [e]; exact hbm)
  obtain ⟨us, c1, c2, c3⟩ := h.C
  have hapart : ∀ {e2 : TypeId} {s m : Nat} {v : Value} {xs : List Value}, W.ownsRow B e2 s v m xs → e2 ≠ 2 → v.ownBlock ≠ some b := fun {e2 s m v xs} hv hne e => by
    rcases rows_apart hv hown hne with h3 | h3
    · rw [h3] at e; simp at e
    · exact h3 (by rw [e]; rfl)
  refine ⟨?_, h.hg, h.O.keep (hk.mono hSb), owns_keep1 h.P hk (fun k hk e => hapart h.P (by decide) (by rw [hk, e])), fun i' b' r' hb' hr' => ?_, by simp [h.len], fun r' hr' => ?_, h.nd, us, owns_keep1 c1 hk (fun k hk e => hapart c1 (by decide) (by rw [hk, e])), c2, fun i' l u hl hu => Sl2.keep (c3 i' l u hl hu) (hk.mono hSb)⟩
  · rw [hk.block g (Ne.symm hbne) h.lt]; exact h.bx
  · by_cases e : i' = i
    · subst e
      rw [hb] at hb'; injection hb' with hb'; subst hb'
      rw [List.getElem?_set_self (by rw [h.len]; exact hil)] at hr'
      injection hr' with hr'
      rw [← hr']
      exact (hown.set_n j a).1
    · rw [List.getElem?_set_ne (fun h => e h.symm)] at hr'
      have hne : b' ≠ b := fun hbb => e (by
        subst hbb
        have h1 := (List.getElem?_eq_some_iff.1 hb').2
        have h2 := (List.getElem?_eq_some_iff.1 hb).2
        have hi1 := (List.getElem?_eq_some_iff.1 hb').1
        rcases Nat.lt_trichotomy i' i with hlt | hlt | hlt
        · exact absurd (h1.trans h2.symm) (List.pairwise_iff_getElem.1 h.nd i' i hi1 hil hlt)
        · exact hlt
        · exact absurd (h2.trans h1.symm) (List.pairwise_iff_getElem.1 h.nd i i' hil hi1 hlt))
      exact (h.R i' b' r' hb' hr').keep hk (fun k hk e => hne (by
        have : b' = k := by simpa [Value.ownBlock] using hk
        rw [this, e]))
  · rcases List.mem_or_eq_of_mem_set hr' with h4 | h4
    · exact h.rl r' h4
    · rw [h4, List.length_set]; exact h.rl r (List.mem_of_getElem? hr)
/-- a new row is put in a row's place -/
theorem TS.swap {B n i b : Nat} {W W1 : World} {g gp cp : Nat} {vO vC : Value} {os bs : List Nat} {rows : List (List Nat)} {cl : List (List (List Nat))} {r : List Nat} (h : TS B n W g vO (.slice (some ⟨gp, 0, none⟩) bs.length cp) vC os bs rows cl) (hb : Below W.heap.size W W1) (hbb : W.heap.size ≤ b)
    (hO : Own B W1 (rowV n b) (ints r)) (hr : r.length = n) (hi : i < bs.length) :
    TS B n (W1.setCell ⟨gp, i, none⟩ (rowV n b)) g vO (.slice (some ⟨gp, 0, none⟩) bs.length cp) vC os (bs.set i b) (rows.set i r) cl := by
  have h1 := h.below hb
  have hPne : gp ≠ g := fun e => owns_ne h1.P h1.bx (by decide) (by rw [e]; rfl)
  have hk : Keep (fun k => k ≠ gp) W1 (W1.setCell ⟨gp, i, none⟩ (rowV n b)) := (Keep.refl _ _).setCell (p := ⟨gp, i, none⟩) (fun hk => hk rfl) _
  have hS : ∀ k, SS B (.slice (some ⟨gp, 0, none⟩) bs.length cp) vC g bs k ∧ k < W.heap.size → SS B (.slice (some ⟨gp, 0, none⟩) bs.length cp) vC g (bs.set i b) k := fun k hk => ⟨hk.1.1, hk.1.2.1, hk.1.2.2.1, fun hm => by
    rcases List.mem_or_eq_of_mem_set hm with h4 | h4
    · exact hk.1.2.2.2.1 h4
    · have := hk.2; omega, hk.1.2.2.2.2⟩
  have hSk : ∀ k, SS B (.slice (some ⟨gp, 0, none⟩) bs.length cp) vC g bs k ∧ k < W.heap.size → k ≠ gp := fun k hk e => hk.1.1 (by rw [e]; rfl)
  have hkW : Keep (fun k => SS B (.slice (some ⟨gp, 0, none⟩) bs.length cp) vC g bs k ∧ k < W.heap.size) W (W1.setCell ⟨gp, i, none⟩ (rowV n b)) := (Keep.of_below hb).trans (hk.mono hSk)
  have hapart : ∀ {e2 : TypeId} {s m : Nat} {v : Value} {xs : List Value}, W1.ownsRow B e2 s v m xs → e2 ≠ 25 → v.ownBlock ≠ some gp := fun {e2 s m v xs} hv hne e => by
    rcases rows_apart hv h1.P hne with h3 | h3
    · rw [h3] at e; simp at e
    · exact h3 (by rw [e]; rfl)
  obtain ⟨us, c1, c2, c3⟩ := h.C
  obtain ⟨us1, d1, d2, d3⟩ := h1.C
  have e1 : W1.ownsRow B 26 1 vC cl.length us := ownsRow_keep c1 (Keep.of_below (S := Any) hb) (fun _ _ => trivial)
  refine ⟨?_, h.hg, ((SlI_inB h.O).keep hkW).mono hS, ?_, fun i' b' r' hb' hr' => ?_, by simp [h.len], fun r' hr' => ?_, ?_, us, owns_keep1 e1 hk (fun k hk e => hapart e1 (by decide) (by rw [hk, e])), c2, fun i' l u hl hu => Sl2.mono (Sl2.keep (Sl2_inB (c3 i' l u hl hu)) hkW) hS⟩
  · rw [hk.block g (Ne.symm hPne) h1.lt]; exact h1.bx
  · rw [List.length_set, List.map_set]
    exact (World.ownsRow.stored h1.P i (rowV n b)).1
  · by_cases e : i' = i
    · subst e
      rw [List.getElem?_set_self hi] at hb'
      rw [List.getElem?_set_self (by rw [h.len]; exact hi)] at hr'
      injection hb' with hb'; injection hr' with hr'
      rw [← hb', ← hr']
      exact hO.keep hk (fun k hk e => hapart hO (by decide) (by rw [hk, e]))
    · rw [List.getElem?_set_ne (fun h => e h.symm)] at hr' hb'
      have hv := h1.R i' b' r' hb' hr'
      exact hv.keep hk (fun k hk e => hapart hv (by decide) (by rw [hk, e]))
  · rcases List.mem_or_eq_of_mem_set hr' with h4 | h4
    · exact h.rl r' h4
    · rw [h4]; exact hr
  · have hnb : b ∉ bs := fun hm => by have := (h.blt b hm).2; omega
    refine List.pairwise_iff_getElem.2 fun x y hx hy hxy e => ?_
    rw [List.length_set] at hx hy
    rw [List.getElem_set, List.getElem_set] at e
    have hnd := List.pairwise_iff_getElem.1 h.nd x y hx hy hxy
    split at e
    · split at e
      · omega
      · exact hnb (by rw [e]; exact List.getElem_mem _)
    · split at e
      · exact hnb (by rw [← e]; exact List.getElem_mem _)
      · exact hnd e
/-- what has been built reads as a presentation -/
theorem TS.val {B n : Nat} {W : World} {g : Nat} {vO vP vC : Value} {os bs : List Nat} {rows : List (List Nat)} {cl : List (List (List Nat))} (h : TS B n W g vO vP vC os bs rows cl) (hl : bs.length ≤ 100) : ValP Any W vO vP vC ⟨ints os, rows.map ints, cl.map (·.map ints)⟩ := by
  refine ⟨h.O.mono fun _ _ => trivial, ?_, ?_⟩
  · rcases h.P.2 with ⟨hv, h0⟩ | ⟨g', cap, cur, hv, hb, hgg, hn, hm, hs, ht⟩
    · have hb0 : bs = [] := List.eq_nil_of_length_eq_zero h0
      have hr0 : rows = [] := List.eq_nil_of_length_eq_zero (by rw [h.len, h0])
      rw [hv, hr0]
      exact ⟨none, 0, rfl, Nat.le_refl _, by simp, fun _ => rfl, fun i x hx => by simp at hx⟩
    · rw [hv]
      refine ⟨some ⟨g', 0, none⟩, cap, by simp [h.len], by simp [h.len, hn], hm, by simp, fun i r hr => ?_⟩
      simp only [List.getElem?_map, Option.map_eq_some_iff] at hr
      obtain ⟨r', hr', rfl⟩ := hr
      have hi := (List.getElem?_eq_some_iff.1 hr').1
      obtain ⟨b, hbb⟩ : ∃ b, bs[i]? = some b := ⟨_, List.getElem?_eq_getElem (by rw [← h.len]; exact hi)⟩
      refine ⟨g', 0, rfl, trivial, (Array.getElem?_eq_some_iff.1 hgg).1, rowV n b, ?_, (h.R i b r' hbb hr').sl.mono fun _ _ => trivial⟩
      have hP := h.P
      rw [hv] at hP
      have := World.ownsRow.cells hP (g := g') rfl i (rowV n b) (by rw [List.getElem?_map, hbb]; rfl)
      rwa [addr_add] at this
  · obtain ⟨us, c1, c2, c3⟩ := h.C
    rcases c1.2 with ⟨hv, h0⟩ | ⟨g', cap, cur, hv, hb, hgg, hn, hm, hs, ht⟩
    · have hc0 : cl = [] := List.eq_nil_of_length_eq_zero h0
      rw [hv, hc0]
      exact ⟨none, 0, rfl, Nat.le_refl _, by simp, fun _ => rfl, fun i x hx => by simp at hx⟩
    · rw [hv] at c1 ⊢
      refine ⟨some ⟨g', 0, none⟩, cap, by simp, by simp [hn], hm, by simp, fun i l hl => ?_⟩
      simp only [List.getElem?_map, Option.map_eq_some_iff] at hl
      obtain ⟨l', hl', rfl⟩ := hl
      have hi := (List.getElem?_eq_some_iff.1 hl').1
      obtain ⟨u, hu⟩ : ∃ u, us[i]? = some u := ⟨_, List.getElem?_eq_getElem (by omega)⟩
      refine ⟨g', 0, rfl, trivial, (Array.getElem?_eq_some_iff.1 hgg).1, u, ?_, Sl2.mono (c3 i l' u hl' hu) fun _ _ => trivial⟩
      have := World.ownsRow.cells c1 (g := g') rfl i u hu
      rwa [addr_add] at this
end Go.Proofs.Ytabeedimnbkcgaa.CyI
