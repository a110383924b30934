import Derived.Test.YtabkibmnghbahaaGreatCcDF
import Derived.Deep.AppendLies
import Derived.Laws.BytesArg
/-
  The exponents of a member of a subgroup: what they are over the whole sequence; impl.memberExponents.
-/
namespace Go.Proofs.YtabkibmnghbahaaGreat.CcJ
open Go.RowKit Go.Proofs.YtabkibmnghbahaaGreat Go.Proofs.YtabkibmnghbahaaGreat.Tow Go.Proofs.YtabkibmnghbahaaGreat.Gen Go.Proofs.YtabkibmnghbahaaGreat.GenC Go.Proofs.YtabkibmnghbahaaGreat.GenL Go.Proofs.YtabkibmnghbahaaGreat.GenM Go.Proofs.YtabkibmnghbahaaGreat.NumT Go.Proofs.YtabkibmnghbahaaGreat.ImplD Go.Proofs.YtabkibmnghbahaaGreat.ChA Go.Proofs.YtabkibmnghbahaaGreat.ChD Go.Proofs.YtabkibmnghbahaaGreat.ChS Go.Proofs.YtabkibmnghbahaaGreat.ChU Go.Proofs.YtabkibmnghbahaaGreat.CcA Go.Proofs.YtabkibmnghbahaaGreat.CcD
set_option linter.unusedVariables false
set_option linter.unusedSimpArgs false

theorem vinv_one {T : Tw} (hT : Wf T) (hg : Tow.Good T) : vinv T (Tow.one T) = Tow.one T := by
  have G := grp hT hg
  have h := vinv_spec hT hg (El_one hT)
  have h2 := h.2.1
  rwa [G.eL h.1] at h2
theorem vinv_eq {T : Tw} (hT : Wf T) (hg : Tow.Good T) {x y : List Nat} (hx : El T x) (hy : El T y) (h : mul T x y = Tow.one T) : y = vinv T x := by
  have G := grp hT hg
  have h1 := vinv_spec hT hg hx
  exact G.cancelL hx hy h1.1 (h.trans h1.2.1.symm)
theorem cnj_eq {T : Tw} (hT : Wf T) (hg : Tow.Good T) {u a z : List Nat} (hu : El T u) (ha : El T a) (hz : El T z) (h : mul T u z = mul T a u) : z = cnj T a u := by
  have G := grp hT hg
  exact G.cancelL hu hz (cnj_El hT hg hu ha) (h.trans (mul_cnj hT hg hu ha).symm)
theorem chn_tail {T : Tw} {u : List Nat} {us : List (List Nat)} (h : Chn T (u :: us)) : Chn T us := h.2.2.2.2.2.2
theorem chn_drop {T : Tw} : ∀ {us : List (List Nat)} (k : Nat), Chn T us → Chn T (us.drop k)
  | us, 0, h => h
  | [], k + 1, h => by simpa using h
  | u :: us, k + 1, h => chn_drop k (chn_tail h)
theorem mex_drop {T : Tw} (hT : Wf T) (hg : Tow.Good T) : ∀ {us : List (List Nat)} (k : Nat), k ≤ us.length → Chn T us → ∀ {x : List Nat}, Im T (subT T (us.drop k)) (us.drop k) x → mex T us x = (pad k (mex T (us.drop k) x).1, (mex T (us.drop k) x).2)
  | us, 0, _, _, x, _ => rfl
  | [], k + 1, hk, _, x, _ => absurd hk (by simp)
  | u :: us, k + 1, hk, hc, x, hx => by
    have G := grp hT hg
    have hd := hc.2.1
    have hel := chn_el (chn_tail hc)
    have hxA : A (El T) fF (dep u + 1) x := im_A hT hg (by omega) (fun v hv => dep_A' (hel v (List.mem_of_mem_drop hv)).1 (hc.2.2.2.1 v (List.mem_of_mem_drop hv))) hx
    have h0 : fF (dep u) x = 0 := hxA.2 (dep u) (by omega)
    have ih := mex_drop hT hg (us := us) k (by simpa using hk) (chn_tail hc) (x := x) hx
    have e : mul T (vinv T (npow (mul T) (Tow.one T) u 0)) x = x := by rw [npow_zero, vinv_one hT hg, G.eL hxA.1]
    rw [mex, h0, e, ih]
    rfl
theorem chn_get {T : Tw} : ∀ {us : List (List Nat)} {i : Nat} {u : List Nat}, Chn T us → us[i]? = some u →
    El T u ∧ dep u < T.length ∧ fF (dep u) u = 1 ∧ Im T (subT T (us.drop (i + 1))) (us.drop (i + 1)) (npow (mul T) (Tow.one T) u (oF T (dep u))) ∧ ∀ y ∈ us.drop (i + 1), Im T (subT T (us.drop (i + 1))) (us.drop (i + 1)) (cnj T y u)
  | [], i, u, _, hi => by simp at hi
  | v :: us, 0, u, h, hi => by
    simp only [List.getElem?_cons_zero, Option.some.injEq] at hi
    subst hi
    exact ⟨h.1, h.2.1, h.2.2.1, h.2.2.2.2.1, h.2.2.2.2.2.1⟩
  | v :: us, i + 1, u, h, hi => chn_get (us := us) (chn_tail h) (by simpa using hi)
theorem subT_len (T : Tw) : ∀ us : List (List Nat), (subT T us).length = us.length
  | [] => rfl
  | u :: us => by rw [subT, List.length_cons, subT_len T us, List.length_cons]
theorem subT_get (T : Tw) : ∀ {us : List (List Nat)} {i : Nat} {u : List Nat}, us[i]? = some u →
    (subT T us)[i]? = some ⟨oF T (dep u), (mex T (us.drop (i + 1)) (npow (mul T) (Tow.one T) u (oF T (dep u)))).1, (us.drop (i + 1)).map fun y => (mex T (us.drop (i + 1)) (cnj T y u)).1⟩
  | [], i, u, hi => by simp at hi
  | v :: us, 0, u, hi => by
    simp only [List.getElem?_cons_zero, Option.some.injEq] at hi
    subst hi
    rfl
  | v :: us, i + 1, u, hi => by
    rw [subT, List.getElem?_cons_succ]
    exact subT_get T (us := us) (by simpa using hi)
/-- the presentation's parts, over the whole sequence -/
noncomputable def pwX (T : Tw) (us : List (List Nat)) (u : List Nat) : List Nat := (mex T us (npow (mul T) (Tow.one T) u (oF T (dep u)))).1
noncomputable def cjX (T : Tw) (us : List (List Nat)) (u y : List Nat) : List Nat := (mex T us (cnj T y u)).1
theorem ofTw_ext {P : Pres} {S : Tw} (h1 : P.os.length = S.length) (h2 : P.ps.length = S.length) (h3 : P.cs.length = S.length)
    (h : ∀ (i : Nat) (L : Lv), S[i]? = some L → P.os[i]? = some (L.o : Int) ∧ P.ps[i]? = some (ints (pad (i + 1) L.w)) ∧ P.cs[i]? = some (L.c.map fun y => ints (pad (i + 1) y))) : P = ofTw S := by
  have key : ∀ {α : Type} (a b : List α), a.length = S.length → b.length = S.length → (∀ (i : Nat) (L : Lv), S[i]? = some L → a[i]? = b[i]?) → a = b := fun a b ha hb hh => by
    apply List.ext_getElem?
    intro i
    rcases Nat.lt_or_ge i S.length with hi | hi
    · exact hh i _ (List.getElem?_eq_getElem hi)
    · rw [List.getElem?_eq_none (by omega), List.getElem?_eq_none (by omega)]
  cases P with
  | mk os ps cs =>
    have e1 := key os (ofTw S).os h1 (ofTw_os S) fun i L hL => (h i L hL).1.trans (ofTw_os_get S i L hL).symm
    have e2 := key ps (ofTw S).ps h2 (ofTw_ps S) fun i L hL => (h i L hL).2.1.trans (ofTw_ps_get S i L hL).symm
    have e3 := key cs (ofTw S).cs h3 (ofTw_cs S) fun i L hL => (h i L hL).2.2.trans (ofTw_cs_get S i L hL).symm
    rw [e1, e2, e3]
theorem ofTw_sub {T : Tw} (hT : Wf T) (hg : Tow.Good T) {us : List (List Nat)} (hc : Chn T us) :
    ofTw (subT T us) = ⟨us.map fun u => (oF T (dep u) : Int), us.map fun u => ints (pwX T us u), (List.range us.length).map fun i => (us.drop (i + 1)).map fun y => ints (cjX T us (us.getD i []) y)⟩ := by
  refine (ofTw_ext (by simp [subT_len]) (by simp [subT_len]) (by simp [subT_len]) fun i L hL => ?_).symm
  have hi : i < us.length := by rw [← subT_len T us]; exact (List.getElem?_eq_some_iff.1 hL).1
  obtain ⟨u, hu⟩ : ∃ u, us[i]? = some u := ⟨_, List.getElem?_eq_getElem hi⟩
  have hS := subT_get T hu
  rw [hL] at hS
  injection hS with hS
  subst hS
  obtain ⟨c1, c2, c3, c4, c5⟩ := chn_get hc hu
  have hD : us.getD i [] = u := by rw [List.getD_eq_getElem?_getD, hu]; rfl
  refine ⟨by simp [hu], ?_, ?_⟩
  · rw [List.getElem?_map, hu]
    show some (ints (pwX T us u)) = _
    unfold pwX
    rw [mex_drop hT hg (i + 1) (by omega) hc c4]
  · simp only [List.getElem?_map, List.getElem?_range hi, Option.map_some, hD, List.map_map]
    congr 1
    refine List.map_congr_left fun y hy => ?_
    unfold cjX
    rw [mex_drop hT hg (i + 1) (by omega) hc (c5 y hy)]
    rfl
theorem mex_len (T : Tw) : ∀ (us : List (List Nat)) (x : List Nat), (mex T us x).1.length = us.length
  | [], x => rfl
  | u :: us, x => by rw [mex, List.length_cons, List.length_cons, mex_len T us]

theorem invT (T : Tw) (hT : Wf T) (hs : Small T) (hg : Tow.Good T) (W : World) (b o : Nat) (va : Value) (y : List Nat) (hP : PtrP Any W b o (ofTw T)) (ha : SlI Any W va (ints y)) (hn : NN va) (hy : El T y) :
    Calls Tryz.prog 95 #[.pointer (some ⟨b, o, none⟩), va] W (NewT T.length (vinv T y) W) :=
  (ImplF.invert_any T hT hs 0 (Nat.zero_le _) hg W b o va y hP ha hn hy).mono fun e w' h => by
    obtain ⟨z, ⟨h1, h2⟩, h3⟩ := h
    have hz : z = vinv T y := vinv_eq hT hg hy h1 h2
    rw [← hz]
    exact NewT.of h3 (El_length h1)
theorem cnjT (T : Tw) (hT : Wf T) (hs : Small T) (hg : Tow.Good T) (W : World) (b o : Nat) (va vc : Value) (x y : List Nat) (hP : PtrP Any W b o (ofTw T)) (ha : SlI Any W va (ints x)) (hn : NN va) (hb : SlI Any W vc (ints y)) (hnc : NN vc) (hx : El T x) (hy : El T y) :
    Calls Tryz.prog 59 #[.pointer (some ⟨b, o, none⟩), va, vc] W (NewT T.length (cnj T x y) W) :=
  (ImplG.conjugate_any T hT hs 0 (Nat.zero_le _) hg W b o va vc x y hP ha hn hb hnc hx hy).mono fun e w' h => by
    obtain ⟨z, ⟨h1, h2⟩, h3⟩ := h
    have hz : z = cnj T x y := cnj_eq hT hg hy hx h1 h2
    rw [← hz]
    exact NewT.of h3 (El_length h1)
def MexR (T : Tw) (us : List (List Nat)) (x : List Nat) (w : World) (e : Ending) (w' : World) : Prop :=
  ∃ v bl, e = .returned (.tuple #[v, .bool bl]) ∧ SlI (fun k => w.heap.size ≤ k) w' v (ints (mex T us x).1) ∧ Below w.heap.size w w'
/-- the exponents under way -/
structure MxS (T : Tw) (us : List (List Nat)) (x : List Nat) (k : Nat) (out y : List Nat) : Prop where
  el : El T y
  len : out.length = k
  eq : mex T us x = (out ++ (mex T (us.drop k) y).1, (mex T (us.drop k) y).2)
theorem MxS.step {T : Tw} (hT : Wf T) (hg : Tow.Good T) {us : List (List Nat)} {x out y u : List Nat} {k a : Nat} (h : MxS T us x k out y) (hu : us[k]? = some u) (huE : El T u) (ha : fF (dep u) y = a) :
    MxS T us x (k + 1) (out ++ [a]) (mul T (vinv T (npow (mul T) (Tow.one T) u a)) y) := by
  have G := grp hT hg
  refine ⟨El_mul hT (vinv_spec hT hg (G.npow huE a)).1 h.el, by simp [h.len], ?_⟩
  obtain ⟨hk, e⟩ := List.getElem?_eq_some_iff.1 hu
  rw [h.eq, List.drop_eq_getElem_cons hk, e, mex, ha]
  simp

set_option maxRecDepth 100000 in
set_option maxHeartbeats 400000 in
theorem member_any (T : Tw) (hT : Wf T) (hs : Small T) (hg : Tow.Good T) (w : World) (b o : Nat) (vu vx : Value) (us : List (List Nat)) (x : List Nat) (hP : PtrP Any w b o (ofTw T)) (hu : Sl2 Any w vu (us.map ints)) (hul : us.length ≤ 6) (hL : ∀ u ∈ us, El T u ∧ dep u < T.length) (hx : SlI Any w vx (ints x)) (hE : El T x) :
    Calls Tryz.prog 57 #[.pointer (some ⟨b, o, none⟩), vu, vx] w (MexR T us x w) := by
  obtain ⟨i0, hi, hz0, hz1, hz2⟩ := info_parts infoI
  have hs6 := hs.1
  have HS := Lib.hid hs
  have HP := Lib.hid hP
  have HU := Lib.hid hu
  have HL := Lib.hid hL
  have HPV := Lib.hid (pivots_any w vu us hu (by omega) (fun u hu => by have h := hL u hu; have := El_length h.1; omega))
  have HPW := Lib.hid (fun W va y K hK hp ha hy => powT T hT hs hg W b o va y K hK hp ha hy)
  have HIV := Lib.hid (fun W va y hp ha hn hy => invT T hT hs hg W b o va y hp ha hn hy)
  have HML := Lib.hid (fun W va vb x y hp ha hn hb hx hy => mulT T hT hs hg W b o va vb x y hp ha hn hb hx hy)
  have HVE := Lib.hid (fun x hx => (vinv_spec hT hg (x := x) hx).1)
  have HG := Lib.hid (grp hT hg)
  have HST := Lib.hid (fun out y u k a h hu huE ha => MxS.step hT hg (us := us) (x := x) (out := out) (y := y) (u := u) (k := k) (a := a) h hu huE ha)
  have HX := Lib.hid hx
  have HM0 := Lib.hid (show MxS T us x 0 [] x from ⟨hE, rfl, rfl⟩)
  obtain ⟨aU, cU, rfl, _, _⟩ := SlG.form hu
  rw [List.length_map] at HU HPV ⊢
  obtain ⟨m, hm⟩ : ∃ m, us.length = m := ⟨_, rfl⟩
  have HM := Lib.hid hm
  rw [hm] at hul HU HPV ⊢
  clear hP hu hL hx hE hm hT hs hg
  go_enter Tryz.func57, Tryz.ntmps57
  go_wp2_with fail
  refine HPV.out.mono ?_
  rintro e w1 ⟨vp, rfl, hp1, hb1⟩
  obtain ⟨aP, cP, rfl, _⟩ := hp1.open
  rw [List.length_map, HM.out] at hp1 ⊢
  have HP1 := Lib.hid (hp1.mono (S' := Any) (fun _ _ => trivial))
  have HB1 := Lib.hid hb1
  have HPw := Lib.hid (HP.out.keep (Keep.of_below hb1))
  have HUw := Lib.hid (Sl2.keep HU.out (Keep.of_below hb1))
  have HXw := Lib.hid (SlI.keep HX.out (Keep.of_below hb1))
  clear hp1 hb1 HPV HP HU HX
  go_wp2_with fail
  go_loopw [2, 8, 15] (fun xv ov iv wr => ∃ (k : Nat) (out y : List Nat), k ≤ m ∧ iv = .int .i64 (k : Int) ∧ Hid (MxS T us x k out y) ∧ Hid (Own w1.heap.size wr ov (ints out)) ∧ Hid (SlI (fun b => some b ≠ ov.ownBlock) wr xv (ints y)) ∧ Hid (Below w1.heap.size w1 wr)) (fun _ _ iv _ => m - (intOf iv).toNat)
  case atStart => exact ⟨0, [], x, Nat.zero_le _, rfl, HM0, Lib.hid (World.ownsRow_nil _ _ _ _), Lib.hid (HXw.out.mono (fun b _ h => by simp [Value.ownBlock] at h)), Lib.hid (Below.refl _ _)⟩
  case round =>
    obtain ⟨k, out, y, hk, rfl, hM, hO, hY, hB⟩ := hrel
    by_cases hlt : k < m
    · obtain ⟨u, hu⟩ : ∃ u, us[k]? = some u := ⟨_, List.getElem?_eq_getElem (by rw [HM.out]; exact hlt)⟩
      have hku := HL.out u (List.mem_of_getElem? hu)
      have hyl := El_length hM.out.el
      obtain ⟨d, hd⟩ : ∃ d, dep u = d := ⟨_, rfl⟩
      rw [hd] at hku
      obtain ⟨a, ha⟩ : ∃ a, y[d]? = some a := ⟨_, List.getElem?_eq_getElem (by rw [hyl]; exact hku.2)⟩
      have ha7 : a ≤ 7 := by
        obtain ⟨L, hL, hlt'⟩ := El_lt hM.out.el ha
        have := HS.out.2 L (List.mem_of_getElem? hL)
        omega
      have hk1 := Keep.of_below (S := Any) hB.out
      obtain ⟨bP, oP, rfl, _, hbP, hcP⟩ := SlI.at (HP1.out.keep hk1) (j := k) (q := d) (by rw [List.getElem?_map, hu, ← hd]; rfl)
      obtain ⟨aY, cY, rfl, _⟩ := SlI.open hY.out
      rw [hyl] at hY ⊢
      obtain ⟨bY, oY, rfl, _, hbY, hcY⟩ := SlI.at hY.out ha
      have HUK := Lib.hid hu
      have HUE := Lib.hid hku.1
      have HNX := Lib.hid (HST.out out y u k a hM.out hu hku.1 (by rw [hd]; exact fF_get ha))
      have HOL := Lib.hid (show out.length = k from hM.out.len)
      have hdi : (d : Int) < (T.length : Int) := by have := hku.2; omega
      have hd0 : (0 : Int) ≤ (d : Int) := by omega
      have hki : (k : Int) < (m : Int) := by omega
      have hd1 : decide ((k : Int) < (m : Int)) = true := by simp; omega
      have HKM := Lib.hid hlt
      have h1 := ownsRow_keep (show wr.ownsRow w1.heap.size 2 1 _ k (vals (ints out)) from by have h := hO.out; rw [Own, ints_length, hM.out.len] at h; exact h) (S := Any) ((Keep.refl _ wr).alloc (.cells #[.int .i64 (a : Int)] 2)) (fun _ _ => trivial)
      have hs0 := hB.out.size
      clear hu hku hyl hd ha hk1 hO
      go_wp2_with (at_builtin; (refine wpList_append_own _ rfl _ _ 22 rfl w1.heap.size 2 i0 (.int .i64 0) 1 8 Tryz.underlying22 hi hz0 hz1 hz2 rfl (by decide) _ _ _ rfl h1 ⟨wr.heap.size, 0, none⟩ 1 1 [.int .i64 (a : Int)] rfl rfl ?c1 ?c2 ?c3 ?c4 ?c5 ?_))
      case c1 =>
        intro j u hj
        match j, hj with
        | 0, hj => simp at hj; subst hj; simp [Addr.add]
      case c2 => intro u hu; simp at hu; subst hu; rfl
      case c3 => unfold maxLen; omega
      case c4 => omega
      case c5 => simp; omega
      intro v' w2 hown hgrow _
      have HN := Lib.hid (show Own w1.heap.size w2 v' (ints (out ++ [a])) from by
        rw [Own, ints_length, List.length_append, HOL.out, show vals (ints (out ++ [a])) = vals (ints out) ++ [.int .i64 (a : Int)] by simp [vals, ints]]
        exact hown)
      have HNB := Lib.hid (show Below w1.heap.size w1 w2 from (hB.out.alloc hs0 _).grown hgrow (by simp; omega) (fun g hg => (World.ownsRow.lt h1 g hg).1))
      have hY2 : SlI (fun _ => True) w2 (.slice (some ⟨bY, oY, none⟩) T.length cY) (ints y) := by
        have h1 : SlI (fun b => some b ≠ Value.ownBlock u8 ∧ b < wr.heap.size) (wr.alloc (.cells #[.int .i64 (a : Int)] 2)) _ _ := (SlI_in hY.out).keep ((Keep.refl _ _).alloc _)
        exact (h1.keep (Keep.grown hgrow (fun k hk => hk.1))).mono (fun _ _ => trivial)
      have HY2 := Lib.hid hY2
      have HVB := Lib.hid (show ∀ k, v'.ownBlock = some k → k < w2.heap.size from fun k hk => (World.ownsRow.lt hown k hk).2)
      have hk2 := Keep.of_below (S := Any) HNB.out
      obtain ⟨bU, oU, q, rfl, _, hbU, hcU, hq⟩ := SlG.get (Sl2.keep HUw.out hk2) (k := k) (x := ints u) (by rw [List.getElem?_map, HUK.out]; rfl)
      have HPC := Lib.hid (HPW.out w2 q u a (by omega) (HPw.out.keep hk2) hq HUE.out)
      clear hown hgrow h1 hB hY2 hk2 hq hcP hcY hY
      go_wp2_with fail
      refine HPC.out.mono ?_
      rintro e w3 ⟨g3, c3, rfl, ho3, hb3⟩
      have HB3 := Lib.hid (HNB.out.trans (hb3.mono HNB.out.size))
      have HPN := Lib.hid (HG.out.npow HUE.out a)
      have HIC := Lib.hid (HIV.out w3 _ _ (HPw.out.keep (Keep.of_below HB3.out)) (ho3.sl.mono (fun _ _ => trivial)) (fun n c h => by simp at h) HPN.out)
      have HY3 := Lib.hid (HY2.out.keep (Keep.of_below hb3))
      have HS3 := Lib.hid hb3
      clear ho3 hb3 HPC hcU hbU
      go_wp2_with fail
      refine HIC.out.mono ?_
      rintro e w4 ⟨g4, c4, rfl, ho4, hb4⟩
      have hzE := HVE.out _ HPN.out
      have HB4 := Lib.hid (HB3.out.trans (hb4.mono HB3.out.size))
      have HZE := Lib.hid hzE
      have HMC := Lib.hid (HML.out w4 _ _ _ _ (HPw.out.keep (Keep.of_below HB4.out)) (ho4.sl.mono (fun _ _ => trivial)) (fun n c h => by simp at h) (HY3.out.keep (Keep.of_below hb4)) hzE hM.out.el)
      have HS4 := Lib.hid (HS3.out.trans (hb4.mono HS3.out.size))
      clear hzE ho4 hb4 HIC
      go_wp2_with fail
      refine HMC.out.mono ?_
      rintro e w5 ⟨g5, c5, rfl, ho5, hb5⟩
      have HB5 := Lib.hid (HB4.out.trans (hb5.mono HB4.out.size))
      have HY5 := Lib.hid (ho5.sl.mono (S' := fun b => some b ≠ v'.ownBlock) (fun b hb e => by have := HVB.out b e.symm; have := HS4.out.size; omega))
      have HO5 := Lib.hid (HN.out.of_below (HS4.out.trans (hb5.mono HS4.out.size)))
      clear ho5 hb5 HMC
      go_wp2_with fail
      go_roundw
      case rel => exact ⟨k + 1, out ++ [a], _, HKM.out, by go_num, HNX, HO5, HY5, HB5⟩
      case measure => have := HKM.out; simp [intOf]; omega
    · obtain rfl : k = m := by omega
      have hd1 : decide ((k : Int) < (k : Int)) = false := by simp
      have HZC := Lib.hid (isZero_any wr _ y (hY.out.mono (fun _ _ => trivial)) (by have := El_length hM.out.el; omega))
      have HEQ := Lib.hid (show (mex T us x).1 = out from by
        rw [hM.out.eq, List.drop_eq_nil_of_le (by rw [HM.out]; exact Nat.le_refl _)]
        simp [mex])
      have HR := Lib.hid (fun v (h : Own w1.heap.size wr v (ints out)) bl => show MexR T us x w (.returned (.tuple #[v, .bool bl])) wr from ⟨v, bl, rfl, by
        rw [HEQ.out]
        exact h.sl.mono (fun b hb => Nat.le_trans HB1.out.size hb), HB1.out.trans (hB.out.mono HB1.out.size)⟩)
      have HRR := Lib.hid (HR.out _ hO.out)
      clear hO hY hB HR
      go_wp2_with fail
      refine HZC.out.mono ?_
      rintro e w2 ⟨bl, rfl, _, rfl⟩
      have HR3 := Lib.hid (HRR.out bl)
      clear HZC HRR
      go_wp2_with fail
      exact bodyPost_ret (v := .tuple #[u8, .bool bl]) (by simp [results, Tryz.results57, go_sem]) rfl HR3.out
end Go.Proofs.YtabkibmnghbahaaGreat.CcJ

/-
  impl.keyOf: some string.
-/
namespace Go.Proofs.YtabkibmnghbahaaGreat.CcN
open Go.RowKit Go.Proofs.YtabkibmnghbahaaGreat Go.Proofs.YtabkibmnghbahaaGreat.Tow
open Go.Proofs.YtabkibmnghbahaaGreat.SpecB (Any)
set_option linter.unusedVariables false
set_option linter.unusedSimpArgs false

theorem infoU : (Tryz.prog.info? 5).map (fun i => (i.zero, i.size, i.bytes)) = some (some (.int .u8 0), 1, 1) := by kernel_rfl
def KeyR (w : World) (e : Ending) (w' : World) : Prop := ∃ s : ByteArray, e = .returned (.string s) ∧ s.size ≤ 1000 ∧ Below w.heap.size w w'
theorem conv_own {w : World} {B : Nat} {v : Value} {xs : List Int} (h : w.ownsRow B 5 1 v xs.length (xs.map (Value.int .u8))) : ∃ s : ByteArray, s.size ≤ xs.length ∧ (convert 34 9 v).run Tryz.prog w = .ok (.string s) w := by
  rcases h.2 with ⟨rfl, _⟩ | ⟨g, cap, cur, rfl, hb, hgg, hn, hm, hs, ht⟩
  · exact ⟨_, Nat.zero_le _, run_convert_bytes_nil w 34 5 Tryz.underlying34 Tryz.underlying5 0 0 9 Tryz.underlying9⟩
  · refine ⟨_, Nat.le_of_eq (by simp [strOfNums, ByteArray.size]), run_convert_bytes_arg w 34 5 Tryz.underlying34 Tryz.underlying5 g 0 xs.length cap xs rfl (fun i hi => ?_) 9 Tryz.underlying9⟩
    rw [Nat.zero_add, World.ownsRow.cellAt h i (by omega)]
    simp [List.getD_eq_getElem?_getD, List.getElem?_eq_getElem hi]

set_option maxRecDepth 100000 in
set_option maxHeartbeats 2000000 in
theorem key_any (n : Nat) (hn : n ≤ 6) (w : World) (vu : Value) (us : List (List Nat)) (hu : Sl2 Any w vu (us.map ints)) (hul : us.length ≤ 6) (hr : ∀ r ∈ us, r.length = n) :
    Calls Tryz.prog 52 #[vu] w (KeyR w) := by
  obtain ⟨i1, hi1, hy0, hy1, hy2⟩ := info_parts infoU
  have HU := Lib.hid hu
  have HR := Lib.hid hr
  obtain ⟨aU, cU, rfl, hcU, _⟩ := SlG.form hu
  rw [List.length_map] at HU hcU ⊢
  obtain ⟨m, hm⟩ : ∃ m, us.length = m := ⟨_, rfl⟩
  have HM := Lib.hid hm
  rw [hm] at hul HU hcU ⊢
  clear hu hr hm
  go_enter Tryz.func52, Tryz.ntmps52
  go_wp2_with fail
  go_loopw [3, 10] (fun ov iv wr => ∃ (i l : Nat) (xs : List Int), i ≤ m ∧ iv = .int .i64 (i : Int) ∧ l ≤ 7 * i ∧ Hid (xs.length = l) ∧ Hid (wr.ownsRow w.heap.size 5 1 ov l (xs.map (Value.int .u8))) ∧ Hid (Below w.heap.size w wr)) (fun _ iv _ => m - (intOf iv).toNat)
  case atStart => exact ⟨0, 0, [], Nat.zero_le _, rfl, Nat.zero_le _, Lib.hid rfl, Lib.hid (World.ownsRow_nil _ _ _ _), Lib.hid (Below.refl _ _)⟩
  case round =>
    obtain ⟨i, l, xs, hi, rfl, hl, hX, hO, hB⟩ := hrel
    by_cases hlt : i < m
    · obtain ⟨r, hrk⟩ : ∃ r, us[i]? = some r := ⟨_, List.getElem?_eq_getElem (by rw [HM.out]; exact hlt)⟩
      obtain ⟨bU, oU, q, rfl, _, hbU, hcc, hq⟩ := SlG.get HU.out (k := i) (x := ints r) (by rw [List.getElem?_map, hrk]; rfl)
      obtain ⟨aR, cR, rfl, _⟩ := SlI.open hq
      rw [HR.out r (List.mem_of_getElem? hrk)] at hq hcc
      have HQ := Lib.hid hq
      have HRL := Lib.hid (HR.out r (List.mem_of_getElem? hrk))
      have HIM := Lib.hid hlt
      have HBW := Lib.hid hB.out
      have hii : (i : Int) < (m : Int) := by omega
      have hi0 : (0 : Int) ≤ (i : Int) := by omega
      have hd1 : decide ((i : Int) < (m : Int)) = true := by simp; omega
      have hccr := ((Keep.of_below (S := Any) hB.out).cell (b := bU) (o := oU + i) trivial hbU).trans hcc
      have hbUr : bU < wr.heap.size := Nat.lt_of_lt_of_le hbU hB.out.size
      clear hrk hq hlt hcc hbU
      go_wp2_with fail
      rename World => wo
      go_loopw [3, 16] (fun ov jv wr => ∃ (j l2 : Nat) (xs : List Int), j ≤ n ∧ jv = .int .i64 (j : Int) ∧ l2 ≤ l + j ∧ Hid (xs.length = l2) ∧ Hid (wr.ownsRow w.heap.size 5 1 ov l2 (xs.map (Value.int .u8))) ∧ Hid (Below w.heap.size w wr)) (fun _ jv _ => n - (intOf jv).toNat)
      case atStart => exact ⟨0, l, xs, Nat.zero_le _, rfl, by omega, hX, hO, hB⟩
      case round =>
        obtain ⟨j, l2, ys, hj, rfl, hl2, hY, hO2, hB2⟩ := hrel
        by_cases hjn : j < n
        · obtain ⟨a, ha⟩ : ∃ a, r[j]? = some a := ⟨_, List.getElem?_eq_getElem (by rw [HRL.out]; exact hjn)⟩
          obtain ⟨bR, oR, rfl, _, hbR, hcR⟩ := SlI.at (HQ.out.keep (Keep.of_below hB2.out)) ha
          have HJN := Lib.hid hjn
          have hji : (j : Int) < (n : Int) := by omega
          have hj0 : (0 : Int) ≤ (j : Int) := by omega
          have hd2 : decide ((j : Int) < (n : Int)) = true := by simp; omega
          have hs0 := hB2.out.size
          obtain ⟨z, hz⟩ : ∃ z, IntKind.u8.wrap (a : Int) = z := ⟨_, rfl⟩
          have h1 := hO2.out.alloc (.cells #[.int .u8 z] 5)
          clear ha hccr hbUr
          go_wp2_with (at_builtin; (refine wpList_append_lies _ rfl _ _ 34 rfl w.heap.size 5 i1 (.int .u8 0) 1 1 Tryz.underlying34 hi1 hy0 hy1 hy2 rfl (by decide) _ _ _ rfl h1 ⟨wr.heap.size, 0, none⟩ 1 1 [.int .u8 z] rfl rfl ?c1 ?c2 (by decide) ?c3 ?c4 ?c5 _ rfl ?_))
          case c1 =>
            intro j u hj
            match j, hj with
            | 0, hj => simp at hj; subst hj; simp [Addr.add]
          case c2 => intro u hu; simp at hu; subst hu; rfl
          case c3 => unfold maxLen; omega
          case c4 => omega
          case c5 => simp; omega
          intro g6 c6 w6 hown6 hgrow6 hat6 hlt6
          have HY6 := Lib.hid (show (ys ++ [z]).length = l2 + 1 by simp [hY.out])
          have HO6 := Lib.hid (show w6.ownsRow w.heap.size 5 1 (.slice (some ⟨g6, 0, none⟩) (l2 + 1) c6) (l2 + 1) ((ys ++ [z]).map (Value.int .u8)) by rw [List.map_append]; exact hown6)
          have HB6 := Lib.hid (show Below w.heap.size w w6 from (hB2.out.alloc hs0 _).grown hgrow6 (by simp; omega) (fun g hg => (World.ownsRow.lt h1 g hg).1))
          clear h1 hown6 hgrow6 hat6 hlt6 hz hO2 hB2
          go_wp2_with fail
          go_roundw
          case rel => exact ⟨j + 1, l2 + 1, _, HJN.out, by go_num, by omega, HY6, HO6, HB6⟩
          case measure => have := HJN.out; simp [intOf]; omega
        · obtain rfl : j = n := by omega
          have hd2 : decide ((j : Int) < (j : Int)) = false := by simp
          have hs0 := hB2.out.size
          have h1 := hO2.out.alloc (.cells #[.int .u8 59] 5)
          clear hccr hbUr
          go_wp2_with (at_builtin; (refine wpList_append_lies _ rfl _ _ 34 rfl w.heap.size 5 i1 (.int .u8 0) 1 1 Tryz.underlying34 hi1 hy0 hy1 hy2 rfl (by decide) _ _ _ rfl h1 ⟨wr.heap.size, 0, none⟩ 1 1 [.int .u8 59] rfl rfl ?c1 ?c2 (by decide) ?c3 ?c4 ?c5 _ rfl ?_))
          case c1 =>
            intro j u hj
            match j, hj with
            | 0, hj => simp at hj; subst hj; simp [Addr.add]
          case c2 => intro u hu; simp at hu; subst hu; rfl
          case c3 => unfold maxLen; omega
          case c4 => omega
          case c5 => simp; omega
          intro g6 c6 w6 hown6 hgrow6 hat6 hlt6
          have HY6 := Lib.hid (show (ys ++ [59]).length = l2 + 1 by simp [hY.out])
          have HO6 := Lib.hid (show w6.ownsRow w.heap.size 5 1 (.slice (some ⟨g6, 0, none⟩) (l2 + 1) c6) (l2 + 1) ((ys ++ [59]).map (Value.int .u8)) by rw [List.map_append]; exact hown6)
          have HB6 := Lib.hid (show Below w.heap.size w w6 from (hB2.out.alloc hs0 _).grown hgrow6 (by simp; omega) (fun g hg => (World.ownsRow.lt h1 g hg).1))
          clear h1 hown6 hgrow6 hat6 hlt6 hO2 hB2
          go_wp2_with fail
          go_roundw
          case rel => exact ⟨i + 1, l2 + 1, _, HIM.out, by go_num, by omega, HY6, HO6, HB6⟩
          case measure => have := HIM.out; simp [intOf]; omega
    · obtain rfl : i = m := by omega
      have hd1 : decide ((i : Int) < (i : Int)) = false := by simp
      obtain ⟨s, hss, hs⟩ := conv_own (show wr.ownsRow w.heap.size 5 1 _ xs.length (xs.map (Value.int .u8)) from by rw [hX.out]; exact hO.out)
      have HBW := Lib.hid hB.out
      have HSS := Lib.hid (show s.size ≤ 1000 by have := hX.out; omega)
      clear hO hB hX hss
      go_wp2_with fail
      go_ret
      exact ⟨s, rfl, HSS.out, HBW.out⟩
end Go.Proofs.YtabkibmnghbahaaGreat.CcN

/-
  A presentation that is being built by appending: its state; impl.subgroupPresentation.
-/
namespace Go.Proofs.YtabkibmnghbahaaGreat.CcL
open Go.RowKit Go.Proofs.YtabkibmnghbahaaGreat Go.Proofs.YtabkibmnghbahaaGreat.Tow Go.Proofs.YtabkibmnghbahaaGreat.Gen Go.Proofs.YtabkibmnghbahaaGreat.GenC Go.Proofs.YtabkibmnghbahaaGreat.GenL Go.Proofs.YtabkibmnghbahaaGreat.GenM Go.Proofs.YtabkibmnghbahaaGreat.NumT Go.Proofs.YtabkibmnghbahaaGreat.ImplD Go.Proofs.YtabkibmnghbahaaGreat.ChA Go.Proofs.YtabkibmnghbahaaGreat.ChD Go.Proofs.YtabkibmnghbahaaGreat.ChS Go.Proofs.YtabkibmnghbahaaGreat.ChU Go.Proofs.YtabkibmnghbahaaGreat.CcA Go.Proofs.YtabkibmnghbahaaGreat.CcD Go.Proofs.YtabkibmnghbahaaGreat.CcJ
set_option linter.unusedVariables false
set_option linter.unusedSimpArgs false

theorem infoR3 : (Tryz.prog.info? 23).map (fun i => (i.zero, i.size, i.bytes)) = some (some (.slice none 0 0), 1, 24) := by kernel_rfl

theorem own_kept {w w' : World} {B : Nat} {e : TypeId} {s n : Nat} {v : Value} {xs : List Value} (h : w.ownsRow B e s v n xs) (hk : ∀ k, v.ownBlock = some k → w'.heap[k]? = w.heap[k]?) : w'.ownsRow B e s v n xs := by
  refine ⟨h.1, ?_⟩
  rcases h.2 with hn | ⟨g, cap, cur, rfl, hb, hgg, rest⟩
  · exact .inl hn
  · exact .inr ⟨g, cap, cur, rfl, hb, by rw [hk g rfl]; exact hgg, rest⟩
theorem own_ne {w : World} {B B' : Nat} {e e' : TypeId} {s s' n n' : Nat} {v v' : Value} {xs xs' : List Value} (h : w.ownsRow B e s v n xs) (h' : w.ownsRow B' e' s' v' n' xs') (he : e ≠ e') (k : Nat) (hk : v.ownBlock = some k) : v'.ownBlock ≠ some k := by
  intro hk'
  rcases h.2 with ⟨rfl, _⟩ | ⟨g, cap, cur, rfl, hb, hgg, _⟩
  · simp [Value.ownBlock] at hk
  · rcases h'.2 with ⟨rfl, _⟩ | ⟨g', cap', cur', rfl, hb', hgg', _⟩
    · simp [Value.ownBlock] at hk'
    · simp only [Value.ownBlock, Option.some.injEq] at hk hk'
      subst hk; subst hk'
      rw [hgg] at hgg'
      simp only [Option.some.injEq, Obj.cells.injEq] at hgg'
      exact he hgg'.2.1
/-- a row that has been grown at its end -/
structure Grw (W W2 : World) (v v' : Value) : Prop where
  gr : W.grownBy W2 v.ownBlock
  bk : ∀ k, v'.ownBlock = some k → (v.ownBlock = some k ∨ W.heap.size ≤ k) ∧ k < W2.heap.size
theorem Grw.keep {W W2 : World} {v v' : Value} (h : Grw W W2 v v') : Keep (fun k => some k ≠ v.ownBlock) W W2 := Keep.grown h.gr fun k hk => hk
/-- where the rows of a list lie, besides the growing ones -/
def Ex (B : Nat) (vO vP vC : Value) : Nat → Prop := fun k => B ≤ k ∧ some k ≠ vO.ownBlock ∧ some k ≠ vP.ownBlock ∧ some k ≠ vC.ownBlock
/-- a list of rows -/
def RowsL {α : Type} (E : World → Value → α → Prop) (e : TypeId) (B : Nat) (W : World) (v : Value) (l : List α) : Prop := ∃ us : List Value, W.ownsRow B e 1 v l.length us ∧ us.length = l.length ∧ ∀ (i : Nat) (x : α) (u : Value), l[i]? = some x → us[i]? = some u → E W u x
theorem RowsL.push {α : Type} {E E' : World → Value → α → Prop} {e : TypeId} {B : Nat} {W W' : World} {v' u : Value} {l : List α} {x : α} {us : List Value} (h2 : us.length = l.length) (h3 : ∀ (i : Nat) (x : α) (u : Value), l[i]? = some x → us[i]? = some u → E W u x)
    (hE : ∀ u x, E W u x → E' W' u x) (hu : E' W' u x) (ho : W'.ownsRow B e 1 v' (l.length + 1) (us ++ [u])) : RowsL E' e B W' v' (l ++ [x]) := by
  refine ⟨us ++ [u], by rw [List.length_append]; exact ho, by simp [h2], fun i y q hy hq => ?_⟩
  rcases Nat.lt_or_ge i l.length with hi | hi
  · rw [List.getElem?_append_left hi] at hy
    rw [List.getElem?_append_left (by rw [h2]; exact hi)] at hq
    exact hE _ _ (h3 i y q hy hq)
  · rw [List.getElem?_append_right hi] at hy
    rw [List.getElem?_append_right (by rw [h2]; exact hi), h2] at hq
    cases hj : i - l.length with
    | zero => rw [hj] at hy hq; simp at hy hq; subst hy; subst hq; exact hu
    | succ j => rw [hj] at hy; simp at hy
theorem RowsL.keep {α : Type} {E E' : World → Value → α → Prop} {e : TypeId} {B : Nat} {W W' : World} {v : Value} {l : List α} (h : RowsL E e B W v l) (hk : ∀ k, v.ownBlock = some k → W'.heap[k]? = W.heap[k]?) (hE : ∀ u x, E W u x → E' W' u x) : RowsL E' e B W' v l := by
  obtain ⟨us, h1, h2, h3⟩ := h
  exact ⟨us, own_kept h1 hk, h2, fun i x u hx hu => hE _ _ (h3 i x u hx hu)⟩
theorem RowsL.nil {α : Type} {E : World → Value → α → Prop} {e : TypeId} {B : Nat} {W : World} : RowsL E e B W (.slice none 0 0) [] := ⟨[], World.ownsRow_nil _ _ _ _, rfl, by simp⟩
theorem RowsL.slG {α : Type} {E E' : World → Value → α → Prop} {e : TypeId} {B : Nat} {W : World} {v : Value} {l : List α} (h : RowsL E e B W v l) (hE : ∀ u x, E W u x → E' W u x) : SlG E' (fun k => B ≤ k) W v l := by
  obtain ⟨us, h1, h2, h3⟩ := h
  rcases h1.2 with ⟨rfl, h0⟩ | ⟨g, cap, cur, rfl, hb, hgg, hn, hm, hs, ht⟩
  · obtain rfl : l = [] := List.eq_nil_of_length_eq_zero h0
    exact ⟨none, 0, rfl, Nat.le_refl _, Nat.zero_le _, fun _ => rfl, fun i x hx => by simp at hx⟩
  · refine ⟨some ⟨g, 0, none⟩, cap, rfl, hn, hm, by simp, fun i x hx => ?_⟩
    have hi := (List.getElem?_eq_some_iff.1 hx).1
    obtain ⟨u, hu⟩ : ∃ u, us[i]? = some u := ⟨_, List.getElem?_eq_getElem (by omega)⟩
    refine ⟨g, 0, rfl, hb, (Array.getElem?_eq_some_iff.1 hgg).1, u, ?_, hE _ _ (h3 i x u hx hu)⟩
    rw [Nat.zero_add, World.ownsRow.cellAt h1 i (by omega)]; exact hu
/-- the presentation under way -/
structure PB (B : Nat) (W : World) (g : Nat) (vO vP vC : Value) (os : List Int) (ps : List (List Int)) (cs : List (List (List Int))) : Prop where
  hg : W.heap[g]? = some (.cells #[vO, vP, vC] 30)
  lt : g < B
  o : W.ownsRow B 2 1 vO os.length (vals os)
  p : RowsL (fun W u x => SlI (Ex B vO vP vC) W u x) 22 B W vP ps
  c : RowsL (fun W u x => Sl2 (Ex B vO vP vC) W u x) 23 B W vC cs
theorem Sl2_inn {S : Nat → Prop} {w : World} {v : Value} {l : List (List Int)} (h : Sl2 S w v l) : Sl2 (fun k => S k ∧ k < w.heap.size) w v l := by
  obtain ⟨ao, c, h1, h2, h3, h0, h4⟩ := h
  exact ⟨ao, c, h1, h2, h3, h0, fun i x hx => by obtain ⟨b, o, e1, e2, e3, u, e4, e5⟩ := h4 i x hx; exact ⟨b, o, e1, ⟨e2, e3⟩, e3, u, e4, SlI_in e5⟩⟩
theorem PB.below {B : Nat} {W W' : World} {g : Nat} {vO vP vC : Value} {os : List Int} {ps : List (List Int)} {cs : List (List (List Int))} (h : PB B W g vO vP vC os ps cs) (hb : Below W.heap.size W W') : PB B W' g vO vP vC os ps cs := by
  have hk : ∀ {e : TypeId} {n : Nat} {v : Value} {xs : List Value}, W.ownsRow B e 1 v n xs → ∀ k, v.ownBlock = some k → W'.heap[k]? = W.heap[k]? := fun h k hk => hb.block k (World.ownsRow.lt h k hk).2
  obtain ⟨up, hp, _⟩ := h.p
  obtain ⟨uc, hc, _⟩ := h.c
  exact ⟨(hb.block g (Array.getElem?_eq_some_iff.1 h.hg).1).trans h.hg, h.lt, own_kept h.o (hk h.o), h.p.keep (hk hp) (fun u x e => e.keep (Keep.of_below hb)), h.c.keep (hk hc) (fun u x e => Sl2.keep e (Keep.of_below hb))⟩
/-- the store of a grown row -/
theorem st_block {W : World} {g j k : Nat} {v : Value} (h : k ≠ g) : (W.setCell ⟨g, j, none⟩ v).heap[k]? = W.heap[k]? := Below.heap_setCell _ _ _ _ (fun e => h (by simpa using e))
theorem PB.pushO {B : Nat} {W W2 : World} {g : Nat} {vO vO' vP vC : Value} {os : List Int} {ps : List (List Int)} {cs : List (List (List Int))} (h : PB B W g vO vP vC os ps cs) (hG : Grw W W2 vO vO') {a : Int} (ho : W2.ownsRow B 2 1 vO' (os.length + 1) (vals os ++ [.int .i64 a])) :
    PB B (W2.setCell ⟨g, 0, none⟩ vO') g vO' vP vC (os ++ [a]) ps cs := by
  obtain ⟨up, hp, hp2, hp3⟩ := h.p
  obtain ⟨uc, hc, hc2, hc3⟩ := h.c
  have hgl := (Array.getElem?_eq_some_iff.1 h.hg).1
  have hlt := h.lt
  have hk : Keep (fun k => some k ≠ vO.ownBlock ∧ k ≠ g) W (W2.setCell ⟨g, 0, none⟩ vO') := (hG.keep.mono (fun k hk => hk.1)).setCell (fun hk => hk.2 rfl) _
  have hE : ∀ k, Ex B vO vP vC k → k < W.heap.size → Ex B vO' vP vC k ∧ (some k ≠ vO.ownBlock ∧ k ≠ g) := fun k h1 h2 => ⟨⟨h1.1, fun e => by
    rcases (hG.bk k e.symm).1 with h3 | h3
    · exact h1.2.1 h3.symm
    · omega, h1.2.2⟩, h1.2.1, by have := h1.1; omega⟩
  have hgO : vO.ownBlock ≠ some g := fun e => by have := (World.ownsRow.lt h.o g e).1; omega
  have ho' : W2.ownsRow B 2 1 vO' (os ++ [a]).length (vals (os ++ [a])) := by rw [List.length_append, show vals (os ++ [a]) = vals os ++ [.int .i64 a] by simp [vals]]; exact ho
  refine ⟨?_, hlt, own_kept ho' (fun k hk => st_block (by have := (World.ownsRow.lt ho k hk).1; omega)), h.p.keep (fun k hk' => ?_) (fun u x e => ?_), h.c.keep (fun k hk' => ?_) (fun u x e => ?_)⟩
  · have h2 : W2.heap[g]? = some (.cells #[vO, vP, vC] 30) := (hG.gr.block g hgl (fun e => hgO e.symm)).trans h.hg
    rw [heap_setCell_same _ _ _ _ _ _ h2]; rfl
  · have hl := World.ownsRow.lt hp k hk'
    exact hk.block k ⟨fun e => own_ne hp h.o (by decide) k hk' e.symm, by omega⟩ hl.2
  · exact ((SlI_in e).keep (hk.mono (fun k hk => (hE k hk.1 hk.2).2))).mono (fun k hk => (hE k hk.1 hk.2).1)
  · have hl := World.ownsRow.lt hc k hk'
    exact hk.block k ⟨fun e => own_ne hc h.o (by decide) k hk' e.symm, by omega⟩ hl.2
  · exact Sl2.mono (Sl2.keep (Sl2_inn e) (hk.mono (fun k hk => (hE k hk.1 hk.2).2))) (fun k hk => (hE k hk.1 hk.2).1)
theorem PB.pushP {B : Nat} {W W2 : World} {g : Nat} {vO vP vP' vC u : Value} {us : List Value} {os : List Int} {ps : List (List Int)} {cs : List (List (List Int))} {x : List Int} (h : PB B W g vO vP vC os ps cs) (hG : Grw W W2 vP vP')
    (hus : us.length = ps.length) (hr : ∀ (i : Nat) (x : List Int) (u : Value), ps[i]? = some x → us[i]? = some u → SlI (Ex B vO vP vC) W u x) (hu : SlI (Ex B vO vP vC) W u x) (ho : W2.ownsRow B 22 1 vP' (ps.length + 1) (us ++ [u])) :
    PB B (W2.setCell ⟨g, 1, none⟩ vP') g vO vP' vC os (ps ++ [x]) cs := by
  obtain ⟨up, hp, hp2, hp3⟩ := h.p
  obtain ⟨uc, hc, hc2, hc3⟩ := h.c
  have hgl := (Array.getElem?_eq_some_iff.1 h.hg).1
  have hlt := h.lt
  have hk : Keep (fun k => some k ≠ vP.ownBlock ∧ k ≠ g) W (W2.setCell ⟨g, 1, none⟩ vP') := (hG.keep.mono (fun k hk => hk.1)).setCell (fun hk => hk.2 rfl) _
  have hE : ∀ k, Ex B vO vP vC k → k < W.heap.size → Ex B vO vP' vC k ∧ (some k ≠ vP.ownBlock ∧ k ≠ g) := fun k h1 h2 => ⟨⟨h1.1, h1.2.1, fun e => by
    rcases (hG.bk k e.symm).1 with h3 | h3
    · exact h1.2.2.1 h3.symm
    · omega, h1.2.2.2⟩, h1.2.2.1, by have := h1.1; omega⟩
  have hgO : vP.ownBlock ≠ some g := fun e => by have := (World.ownsRow.lt hp g e).1; omega
  have hrd : ∀ u x, SlI (Ex B vO vP vC) W u x → SlI (Ex B vO vP' vC) (W2.setCell ⟨g, 1, none⟩ vP') u x := fun u x e => ((SlI_in e).keep (hk.mono (fun k hk => (hE k hk.1 hk.2).2))).mono (fun k hk => (hE k hk.1 hk.2).1)
  refine ⟨?_, hlt, own_kept h.o (fun k hk' => ?_), RowsL.push hus hr hrd (hrd _ _ hu) (own_kept ho (fun k hk => st_block (by have := (World.ownsRow.lt ho k hk).1; omega))), h.c.keep (fun k hk' => ?_) (fun u x e => ?_)⟩
  · have h2 : W2.heap[g]? = some (.cells #[vO, vP, vC] 30) := (hG.gr.block g hgl (fun e => hgO e.symm)).trans h.hg
    rw [heap_setCell_same _ _ _ _ _ _ h2]; rfl
  · have hl := World.ownsRow.lt h.o k hk'
    exact hk.block k ⟨fun e => own_ne h.o hp (by decide) k hk' e.symm, by omega⟩ hl.2
  · have hl := World.ownsRow.lt hc k hk'
    exact hk.block k ⟨fun e => own_ne hc hp (by decide) k hk' e.symm, by omega⟩ hl.2
  · exact Sl2.mono (Sl2.keep (Sl2_inn e) (hk.mono (fun k hk => (hE k hk.1 hk.2).2))) (fun k hk => (hE k hk.1 hk.2).1)
theorem PB.pushC {B : Nat} {W W2 : World} {g : Nat} {vO vP vC vC' u : Value} {us : List Value} {os : List Int} {ps : List (List Int)} {cs : List (List (List Int))} {x : List (List Int)} (h : PB B W g vO vP vC os ps cs) (hG : Grw W W2 vC vC')
    (hus : us.length = cs.length) (hr : ∀ (i : Nat) (x : List (List Int)) (u : Value), cs[i]? = some x → us[i]? = some u → Sl2 (Ex B vO vP vC) W u x) (hu : Sl2 (Ex B vO vP vC) W u x) (ho : W2.ownsRow B 23 1 vC' (cs.length + 1) (us ++ [u])) :
    PB B (W2.setCell ⟨g, 2, none⟩ vC') g vO vP vC' os ps (cs ++ [x]) := by
  obtain ⟨up, hp, hp2, hp3⟩ := h.p
  obtain ⟨uc, hc, hc2, hc3⟩ := h.c
  have hgl := (Array.getElem?_eq_some_iff.1 h.hg).1
  have hlt := h.lt
  have hk : Keep (fun k => some k ≠ vC.ownBlock ∧ k ≠ g) W (W2.setCell ⟨g, 2, none⟩ vC') := (hG.keep.mono (fun k hk => hk.1)).setCell (fun hk => hk.2 rfl) _
  have hE : ∀ k, Ex B vO vP vC k → k < W.heap.size → Ex B vO vP vC' k ∧ (some k ≠ vC.ownBlock ∧ k ≠ g) := fun k h1 h2 => ⟨⟨h1.1, h1.2.1, h1.2.2.1, fun e => by
    rcases (hG.bk k e.symm).1 with h3 | h3
    · exact h1.2.2.2 h3.symm
    · omega⟩, h1.2.2.2, by have := h1.1; omega⟩
  have hgO : vC.ownBlock ≠ some g := fun e => by have := (World.ownsRow.lt hc g e).1; omega
  have hrd : ∀ u x, Sl2 (Ex B vO vP vC) W u x → Sl2 (Ex B vO vP vC') (W2.setCell ⟨g, 2, none⟩ vC') u x := fun u x e => Sl2.mono (Sl2.keep (Sl2_inn e) (hk.mono (fun k hk => (hE k hk.1 hk.2).2))) (fun k hk => (hE k hk.1 hk.2).1)
  refine ⟨?_, hlt, own_kept h.o (fun k hk' => ?_), h.p.keep (fun k hk' => ?_) (fun u x e => ?_), RowsL.push hus hr hrd (hrd _ _ hu) (own_kept ho (fun k hk => st_block (by have := (World.ownsRow.lt ho k hk).1; omega)))⟩
  · have h2 : W2.heap[g]? = some (.cells #[vO, vP, vC] 30) := (hG.gr.block g hgl (fun e => hgO e.symm)).trans h.hg
    rw [heap_setCell_same _ _ _ _ _ _ h2]; rfl
  · have hl := World.ownsRow.lt h.o k hk'
    exact hk.block k ⟨fun e => own_ne h.o hc (by decide) k hk' e.symm, by omega⟩ hl.2
  · have hl := World.ownsRow.lt hp k hk'
    exact hk.block k ⟨fun e => own_ne hp hc (by decide) k hk' e.symm, by omega⟩ hl.2
  · exact ((SlI_in e).keep (hk.mono (fun k hk => (hE k hk.1 hk.2).2))).mono (fun k hk => (hE k hk.1 hk.2).1)
theorem PB.val {B : Nat} {W : World} {g : Nat} {vO vP vC : Value} {os : List Int} {ps : List (List Int)} {cs : List (List (List Int))} (h : PB B W g vO vP vC os ps cs) : ValP (fun k => B ≤ k) W vO vP vC ⟨os, ps, cs⟩ :=
  ⟨Own.sl (show Own B W vO os from h.o), h.p.slG (fun u x e => e.mono (fun k hk => hk.1)), h.c.slG (fun u x e => Sl2.mono e (fun k hk => hk.1))⟩
theorem PB.start {B : Nat} {W : World} {g : Nat} (hg : W.heap[g]? = some (.cells #[.slice none 0 0, .slice none 0 0, .slice none 0 0] 30)) (lt : g < B) : PB B W g (.slice none 0 0) (.slice none 0 0) (.slice none 0 0) [] [] [] :=
  ⟨hg, lt, World.ownsRow_nil _ _ _ _, RowsL.nil, RowsL.nil⟩
theorem PB.cell {B : Nat} {W : World} {g : Nat} {vO vP vC : Value} {os : List Int} {ps : List (List Int)} {cs : List (List (List Int))} (h : PB B W g vO vP vC os ps cs) : W.cell? ⟨g, 0, none⟩ = some vO ∧ W.cell? ⟨g, 1, none⟩ = some vP ∧ W.cell? ⟨g, 2, none⟩ = some vC ∧ g < W.heap.size ∧ (∀ o, W.frozen? ⟨g, o, none⟩ = false) := by
  refine ⟨?_, ?_, ?_, (Array.getElem?_eq_some_iff.1 h.hg).1, fun o => by simp [World.frozen?, h.hg]⟩ <;> (rw [cell_of_row _ _ _ _ _ (0, 0) h.hg]; rfl)
theorem PB.grown {B : Nat} {W W2 : World} {g : Nat} {vO vP vC vX vX' : Value} {os : List Int} {ps : List (List Int)} {cs : List (List (List Int))} (h : PB B W g vO vP vC os ps cs) (hG : Grw W W2 vX vX') (hX : ∀ k, vX.ownBlock = some k → B ≤ k) :
    W2.cell? ⟨g, 0, none⟩ = some vO ∧ W2.cell? ⟨g, 1, none⟩ = some vP ∧ W2.cell? ⟨g, 2, none⟩ = some vC ∧ g < W2.heap.size ∧ (∀ o, W2.frozen? ⟨g, o, none⟩ = false) := by
  have h2 : W2.heap[g]? = some (.cells #[vO, vP, vC] 30) := (hG.gr.block g (Array.getElem?_eq_some_iff.1 h.hg).1 (fun e => by have := hX g e.symm; have := h.lt; omega)).trans h.hg
  refine ⟨?_, ?_, ?_, (Array.getElem?_eq_some_iff.1 h2).1, fun o => by simp [World.frozen?, h2]⟩ <;> (rw [cell_of_row _ _ _ _ _ (0, 0) h2]; rfl)
/-- the tail of a slice -/
theorem SlG.dropped {α : Type} {E : World → Value → α → Prop} {S : Nat → Prop} {w : World} {b o n c : Nat} {l : List α} (h : SlG E S w (.slice (some ⟨b, o, none⟩) n c) l) {k : Nat} (hk : k ≤ l.length) :
    SlG E S w (.slice (some ⟨b, o + k, none⟩) (n - k) (c - k)) (l.drop k) ∧ (c = k → ∀ o', SlG E S w (.slice (some ⟨b, o', none⟩) (n - k) (c - k)) (l.drop k)) := by
  obtain ⟨ao, c', e, h1, h2, h3, h4⟩ := h
  simp only [Value.slice.injEq] at e
  obtain ⟨rfl, rfl, rfl⟩ := e
  refine ⟨⟨_, _, by rw [List.length_drop], by rw [List.length_drop]; omega, by omega, by simp, fun i x hx => ?_⟩, fun hc o' => ⟨_, _, by rw [List.length_drop], by rw [List.length_drop]; omega, by omega, by simp, fun i x hx => ?_⟩⟩
  · rw [List.getElem?_drop] at hx
    obtain ⟨b', o2, e1, e2, e3, u, e4, e5⟩ := h4 _ x hx
    simp only [Option.some.injEq, Addr.mk.injEq, and_true] at e1
    obtain ⟨rfl, rfl⟩ := e1
    exact ⟨b, o + k, rfl, e2, e3, u, by rw [Nat.add_assoc]; exact e4, e5⟩
  · have hi := (List.getElem?_eq_some_iff.1 hx).1
    rw [List.length_drop] at hi
    omega
end Go.Proofs.YtabkibmnghbahaaGreat.CcL

/-
  impl.subgroupPresentation.
-/
namespace Go.Proofs.YtabkibmnghbahaaGreat.CcM
open Go.RowKit Go.Proofs.YtabkibmnghbahaaGreat Go.Proofs.YtabkibmnghbahaaGreat.Tow Go.Proofs.YtabkibmnghbahaaGreat.Gen Go.Proofs.YtabkibmnghbahaaGreat.GenC Go.Proofs.YtabkibmnghbahaaGreat.GenL Go.Proofs.YtabkibmnghbahaaGreat.GenM Go.Proofs.YtabkibmnghbahaaGreat.NumT Go.Proofs.YtabkibmnghbahaaGreat.ImplD Go.Proofs.YtabkibmnghbahaaGreat.ChA Go.Proofs.YtabkibmnghbahaaGreat.ChD Go.Proofs.YtabkibmnghbahaaGreat.ChS Go.Proofs.YtabkibmnghbahaaGreat.ChU Go.Proofs.YtabkibmnghbahaaGreat.CcA Go.Proofs.YtabkibmnghbahaaGreat.CcD Go.Proofs.YtabkibmnghbahaaGreat.CcJ Go.Proofs.YtabkibmnghbahaaGreat.CcL
set_option linter.unusedVariables false
set_option linter.unusedSimpArgs false

def PreR (T : Tw) (us : List (List Nat)) (w : World) (e : Ending) (w' : World) : Prop := ∃ vO vP vC, e = .returned (.agg #[vO, vP, vC]) ∧ ValP Any w' vO vP vC (ofTw (subT T us)) ∧ Below w.heap.size w w'
/-- the parts so far -/
def osX (T : Tw) (us : List (List Nat)) (i : Nat) : List Int := (us.take i).map fun u => (oF T (dep u) : Int)
noncomputable def psX (T : Tw) (us : List (List Nat)) (i : Nat) : List (List Int) := (us.take i).map fun u => ints (pwX T us u)
noncomputable def csX (T : Tw) (us : List (List Nat)) (i : Nat) : List (List (List Int)) := (List.range i).map fun j => (us.drop (j + 1)).map fun y => ints (cjX T us (us.getD j []) y)
theorem osX_succ {T : Tw} {us : List (List Nat)} {i : Nat} {u : List Nat} (h : us[i]? = some u) : osX T us (i + 1) = osX T us i ++ [(oF T (dep u) : Int)] := by unfold osX; rw [List.take_add_one, h]; simp
theorem psX_succ {T : Tw} {us : List (List Nat)} {i : Nat} {u : List Nat} (h : us[i]? = some u) : psX T us (i + 1) = psX T us i ++ [ints (pwX T us u)] := by unfold psX; rw [List.take_add_one, h]; simp
theorem csX_succ {T : Tw} {us : List (List Nat)} {i : Nat} {u : List Nat} (h : us[i]? = some u) : csX T us (i + 1) = csX T us i ++ [(us.drop (i + 1)).map fun y => ints (cjX T us u y)] := by
  unfold csX
  rw [List.range_succ, List.map_append, List.map_cons, List.map_nil, List.getD_eq_getElem?_getD, h]
  rfl
theorem osX_len {T : Tw} {us : List (List Nat)} {i : Nat} (h : i ≤ us.length) : (osX T us i).length = i := by unfold osX; simp; omega
theorem psX_len {T : Tw} {us : List (List Nat)} {i : Nat} (h : i ≤ us.length) : (psX T us i).length = i := by unfold psX; simp; omega
theorem csX_len {T : Tw} {us : List (List Nat)} {i : Nat} : (csX T us i).length = i := by unfold csX; simp
theorem all_X {T : Tw} (hT : Wf T) (hg : Tow.Good T) {us : List (List Nat)} (hc : Chn T us) : (⟨osX T us us.length, psX T us us.length, csX T us us.length⟩ : Pres) = ofTw (subT T us) := by
  rw [ofTw_sub hT hg hc, osX, psX, csX, List.take_length]
theorem grw_of {B n : Nat} {e : TypeId} {W W1 W2 : World} {v : Value} {g cap : Nat} {xs : List Value} (hb : Below W.heap.size W W1) (hg : W1.grownBy W2 v.ownBlock) (hat : v.ownBlock = some g ∨ g = W1.heap.size) (hlt : g < W2.heap.size) : Grw W W2 v (.slice (some ⟨g, 0, none⟩) n cap) := by
  refine ⟨ImplB.grown_trans (ImplB.grown_below hb) hg, fun k hk => ?_⟩
  simp only [Value.ownBlock, Option.some.injEq] at hk
  subst hk
  refine ⟨hat.imp id fun h => ?_, hlt⟩
  have := hb.size
  omega

set_option maxRecDepth 100000 in
set_option maxHeartbeats 2000000 in
theorem pres_any (T : Tw) (hT : Wf T) (hs : Small T) (hg : Tow.Good T) (w : World) (b o : Nat) (vu : Value) (us : List (List Nat)) (hP : PtrP Any w b o (ofTw T)) (hu : Sl2 Any w vu (us.map ints)) (hul : us.length ≤ 6) (hc : Chn T us) :
    Calls Tryz.prog 28 #[.pointer (some ⟨b, o, none⟩), vu] w (PreR T us w) := by
  obtain ⟨i1, hi1, hy0, hy1, hy2⟩ := info_parts infoI
  obtain ⟨i2, hi2, hy3, hy4, hy5⟩ := info_parts infoR
  obtain ⟨i3, hi3, hy6, hy7, hy8⟩ := info_parts infoR3
  have hs6 := hs.1
  have HS := Lib.hid hs
  have HP := Lib.hid hP
  have HU := Lib.hid hu
  have HL := Lib.hid (chn_el hc)
  have HC := Lib.hid hc
  have HPV := Lib.hid (fun W h => pivots_any W vu us h (by omega) (fun u hu => by have h := chn_el hc u hu; have := El_length h.1; omega))
  have HPW := Lib.hid (fun W va y K hK hp ha hy => powT T hT hs hg W b o va y K hK hp ha hy)
  have HME := Lib.hid (fun W vx x hp hu hx hE => member_any T hT hs hg W b o vu vx us x hp hu hul (chn_el hc) hx hE)
  have HCJ := Lib.hid (fun W va vc x y hP ha hn hb hnc hx hy => cnjT T hT hs hg W b o va vc x y hP ha hn hb hnc hx hy)
  have HCE := Lib.hid (fun a u hu ha => cnj_El hT hg (u := u) (a := a) hu ha)
  have HG := Lib.hid (grp hT hg)
  have HALL := Lib.hid (all_X hT hg hc)
  obtain ⟨aU, cU, rfl, hcU, _⟩ := SlG.form hu
  rw [List.length_map] at HU HPV HME hcU ⊢
  obtain ⟨m, hm⟩ : ∃ m, us.length = m := ⟨_, rfl⟩
  have HM := Lib.hid hm
  rw [hm] at hul HU HPV HME hcU HALL ⊢
  clear hP hu hc hm hT hs hg
  go_enter Tryz.func28, Tryz.ntmps28
  go_upto_region 2 with fail
  obtain ⟨W0, hW0⟩ : ∃ W0, W0 = (w.alloc (.cells #[.slice none 0 0, .slice none 0 0, .slice none 0 0] 30)).alloc (.cells #[.slice none 0 0, .slice none 0 0, .slice none 0 0] 30) := ⟨_, rfl⟩
  have hB0 : Below (w.heap.size + 2) ((w.alloc (.cells #[.slice none 0 0, .slice none 0 0, .slice none 0 0] 30)).alloc (.cells #[.slice none 0 0, .slice none 0 0, .slice none 0 0] 30)) W0 := by rw [hW0]; exact Below.refl _ _
  have hs0 : W0.heap.size = w.heap.size + 2 := by rw [hW0]; simp
  have hg1 : W0.heap[w.heap.size + 1]? = some (.cells #[.slice none 0 0, .slice none 0 0, .slice none 0 0] 30) := by
    rw [hW0]
    have h := heap_alloc_new (w.alloc (.cells #[.slice none 0 0, .slice none 0 0, .slice none 0 0] 30)) (.cells #[.slice none 0 0, .slice none 0 0, .slice none 0 0] 30)
    rw [show (w.alloc (.cells #[.slice none 0 0, .slice none 0 0, .slice none 0 0] 30)).heap.size = w.heap.size + 1 by simp] at h
    exact h
  have hg0 : W0.heap[w.heap.size]? = some (.cells #[.slice none 0 0, .slice none 0 0, .slice none 0 0] 30) := by
    rw [hW0, heap_alloc_old _ _ (by simp)]
    exact heap_alloc_new w _
  have HW0 := Lib.hid (show Below w.heap.size w W0 by rw [hW0]; exact ((Below.refl _ _).alloc (Nat.le_refl _) _).alloc (by simp) _)
  have HG0 := Lib.hid hg0
  have HG1 := Lib.hid hg1
  rw [← hW0]
  clear hW0 hB0 hg1 hg0
  have HPC := Lib.hid (HPV.out W0 (Sl2.keep HU.out (Keep.of_below HW0.out)))
  clear HPV
  go_wp2_with fail
  refine HPC.out.mono ?_
  rintro e w1 ⟨vp, rfl, hp1, hb1⟩
  obtain ⟨aP, cP, rfl, _⟩ := hp1.open
  rw [List.length_map, HM.out] at hp1 ⊢
  have HW1 := Lib.hid (HW0.out.trans (hb1.mono (show w.heap.size ≤ W0.heap.size by omega)))
  have hsB : w.heap.size + 2 ≤ w1.heap.size := Nat.le_trans (Nat.le_of_eq hs0.symm) hb1.size
  obtain ⟨B, hBe⟩ : ∃ B, B = w1.heap.size := ⟨_, rfl⟩
  rw [← hBe] at hsB
  have HPI := Lib.hid (show SlI (fun k => k < B ∧ k ≠ w.heap.size + 1) w1 (.slice aP m cP) (ints (us.map dep)) from (SlI_in hp1).mono (fun k hk => ⟨by rw [hBe]; exact hk.2, by have := hk.1; omega⟩))
  have HG01 := Lib.hid ((hb1.block w.heap.size (by omega)).trans HG0.out)
  have HPB1 := Lib.hid (PB.start (B := B) (W := w1) ((hb1.block _ (by omega)).trans HG1.out) (show w.heap.size + 1 < B by omega))
  have HBE := Lib.hid hBe
  clear hp1 hb1 HPC HG1 hs0 hBe
  go_wp2_with fail
  go_loopw [22] (fun iv wr => ∃ (i : Nat) (vO vP vC : Value), i ≤ m ∧ iv = .int .i64 (i : Int) ∧ Hid (PB B wr (w.heap.size + 1) vO vP vC (osX T us i) (psX T us i) (csX T us i)) ∧ Hid (Below (w.heap.size + 1) w1 wr) ∧ Hid (Keep (fun k => k < B ∧ k ≠ w.heap.size + 1) w1 wr)) (fun iv _ => m - (intOf iv).toNat)
  case atStart => exact ⟨0, _, _, _, Nat.zero_le _, rfl, HPB1, Lib.hid (Below.refl _ _), Lib.hid (Keep.refl _ _)⟩
  case round =>
    obtain ⟨i, vO, vP, vC, hi, rfl, hPB, hB, hK⟩ := hrel
    have HBW := Lib.hid (show Below w.heap.size w wr from HW1.out.trans (hB.out.mono (by omega)))
    have hsr : B ≤ wr.heap.size := by have := HBE.out; have := hB.out.size; omega
    clear HPB1
    by_cases hlt : i < m
    · obtain ⟨u, hu⟩ : ∃ u, us[i]? = some u := ⟨_, List.getElem?_eq_getElem (by rw [HM.out]; exact hlt)⟩
      have hku := HL.out u (List.mem_of_getElem? hu)
      obtain ⟨d, hd⟩ : ∃ d, dep u = d := ⟨_, rfl⟩
      rw [hd] at hku
      obtain ⟨L, hL⟩ : ∃ L, T[d]? = some L := ⟨_, List.getElem?_eq_getElem hku.2⟩
      have hL7 : L.o ≤ 7 := HS.out.2 L (List.mem_of_getElem? hL)
      have hk1 := Keep.of_below (S := Any) HBW.out
      obtain ⟨bP, oP, rfl, _, hbP, hcP⟩ := SlI.at (HPI.out.keep hK.out) (j := i) (q := d) (by rw [List.getElem?_map, hu, ← hd]; rfl)
      obtain ⟨bU, oU, q, rfl, _, hbU, hcUw, hq⟩ := SlG.get HU.out (k := i) (x := ints u) (by rw [List.getElem?_map, hu]; rfl)
      have hcU' := (hk1.cell (b := bU) (o := oU + i) trivial hbU).trans hcUw
      have hbU' : bU < wr.heap.size := Nat.lt_of_lt_of_le hbU HBW.out.size
      clear hcUw
      obtain ⟨aQ, cQ, rfl, _⟩ := SlI.open hq
      rw [El_length hku.1] at hq hcU'
      obtain ⟨bQ, oQ, rfl, -, -, -⟩ := SlI.at hq (j := d) (q := u[d]'(by rw [El_length hku.1]; exact hku.2)) (List.getElem?_eq_getElem _)
      obtain ⟨-, hPb, pO, pP, pC, p0, p1, p2, hv⟩ := HP.out.keep hk1
      obtain ⟨aO, cO, aP', cP', aC, cC, rfl, rfl, rfl, -, -, -⟩ := hv.open
      obtain ⟨bO, oO, rfl, -, hbO, hcO⟩ := hv.ord hL
      have HQ := Lib.hid hq
      have HUE := Lib.hid hku.1
      have HUI := Lib.hid hu
      have HOO := Lib.hid (show (oF T (dep u) : Int) = (L.o : Int) by rw [hd, oF_at hL])
      have HON := Lib.hid (show oF T (dep u) = L.o by rw [hd, oF_at hL])
      have hdi : (d : Int) < (T.length : Int) := by have := hku.2; omega
      have hd0 : (0 : Int) ≤ (d : Int) := by omega
      have hii : (i : Int) < (m : Int) := by omega
      have hi0 : (0 : Int) ≤ (i : Int) := by omega
      have hd1 : decide ((i : Int) < (m : Int)) = true := by simp; omega
      have HKM := Lib.hid hlt
      clear hu hku hd hL hk1 hq hv p1 p2 hlt
      go_upto_region 6 with fail
      go_quiet (fail)
      obtain ⟨w5, hw5⟩ : ∃ w5, w5 = wr.drewN nq := ⟨_, rfl⟩
      rw [← hw5]
      have hb5 : Below wr.heap.size wr w5 := by rw [hw5]; exact below_drewN (Below.refl _ _) _
      have hPB5 := hPB.out.below hb5
      have HB5 := Lib.hid (hB.out.trans (hb5.mono (show w.heap.size + 1 ≤ wr.heap.size by omega)))
      have HK5 := Lib.hid (hK.out.trans (Keep.below hb5 (fun k _ h => h)))
      have hs5 : B ≤ w5.heap.size := Nat.le_trans hsr hb5.size
      have HPB5 := Lib.hid hPB5
      have HOL := Lib.hid (show (osX T us i).length = i from osX_len (by rw [HM.out]; exact hi))
      obtain ⟨x0, -, -, hgl, hfz⟩ := hPB5.cell
      have ho5 := hPB5.o
      rw [HOL.out] at ho5
      clear hw5 hb5 hPB hB hK hPB5 hcP hcU' hcO p0 hPb hbP hbU hbU' hbO
      have h1 := ho5.alloc (.cells #[.int .i64 (L.o : Int)] 2)
      have x1 : (w5.alloc (.cells #[.int .i64 (L.o : Int)] 2)).cell? ⟨w.heap.size + 1, 0, none⟩ = some vO := (((Keep.refl Any w5).alloc _).cell (b := w.heap.size + 1) trivial hgl).trans x0
      go_wp2_with (at_builtin; (refine wpList_append_lies _ rfl _ _ 22 rfl B 2 i1 (.int .i64 0) 1 8 Tryz.underlying22 hi1 hy0 hy1 hy2 rfl (by decide) _ _ _ rfl h1 ⟨w5.heap.size, 0, none⟩ 1 1 [.int .i64 (L.o : Int)] rfl rfl ?c1 ?c2 (by decide) ?c3 ?c4 ?c5 _ rfl ?_))
      case c1 =>
        intro j u hj
        match j, hj with
        | 0, hj => simp at hj; subst hj; simp [Addr.add]
      case c2 => intro u hu; simp at hu; subst hu; rfl
      case c3 => unfold maxLen; omega
      case c4 => omega
      case c5 => simp; omega
      intro g6 c6 w6 hown6 hgrow6 hat6 hlt6
      have hG6 : Grw w5 w6 vO (.slice (some ⟨g6, 0, none⟩) (i + 1) c6) := grw_of (B := 0) (e := 0) (xs := []) ((Below.refl _ _).alloc (Nat.le_refl _) _) hgrow6 (by simpa using hat6) hlt6
      have HPB6 := Lib.hid (HPB5.out.pushO (W2 := w6) (a := (L.o : Int)) hG6 (by rw [HOL.out]; exact hown6))
      have hs6' : w5.heap.size ≤ w6.heap.size := hG6.gr.size
      have HB6 := Lib.hid (show Below (w.heap.size + 1) w5 (w6.setCell ⟨w.heap.size + 1, 0, none⟩ (.slice (some ⟨g6, 0, none⟩) (i + 1) c6)) from
        ((((Below.refl (w.heap.size + 1) w5).alloc (by omega) _).grown hgrow6 (by simp; omega) (fun g hg => by have := (World.ownsRow.lt ho5 g hg).1; omega)).setCell (Nat.le_refl _) _))
      obtain ⟨x6, -, -, hg6, hf6⟩ := HPB5.out.grown hG6 (fun k hk => (World.ownsRow.lt ho5 k hk).1)
      have f6 := hf6 0
      have HK6 := Lib.hid (show Keep (fun k => k < B ∧ k ≠ w.heap.size + 1) w5 (w6.setCell ⟨w.heap.size + 1, 0, none⟩ (.slice (some ⟨g6, 0, none⟩) (i + 1) c6)) from (hG6.keep.mono (fun k hk e => by have := (World.ownsRow.lt ho5 k e.symm).1; have := hk.1; omega)).setCell (fun h => h.2 rfl) _)
      have HE6 := Lib.hid (osX_succ (T := T) HUI.out)
      clear x1 h1 ho5 x0 hgl hfz hown6 hgrow6 hat6 hlt6 hG6 hf6
      go_upto_region 8 with fail
      obtain ⟨w7, hw7⟩ : ∃ w7, w7 = w6.setCell ⟨w.heap.size + 1, 0, none⟩ (.slice (some ⟨g6, 0, none⟩) (i + 1) c6) := ⟨_, rfl⟩
      rw [← hw7]
      rw [← hw7] at HPB6 HB6 HK6
      rw [← HOO.out, ← HE6.out] at HPB6
      have HPB7 := Lib.hid HPB6.out
      have HB7 := Lib.hid (HB5.out.trans (HB6.out.mono (by omega)))
      have hs7 : B ≤ w7.heap.size := by have := HB6.out.size; omega
      have HW7 := Lib.hid (show Below w.heap.size w w7 from HW1.out.trans (HB7.out.mono (by omega)))
      have HK7 := Lib.hid (HK5.out.trans HK6.out)
      have HPC := Lib.hid (HPW.out w7 (.slice (some ⟨bQ, oQ, none⟩) T.length cQ) u L.o (by omega) (HP.out.keep (Keep.of_below HW7.out)) (HQ.out.keep (Keep.of_below HW7.out)) HUE.out)
      clear hw7 HB5 HB6 HK5 HK6 HPB5 HE6 HOO x6 hg6 f6 hs6' hs5
      go_wp2_with fail
      refine HPC.out.mono ?_
      rintro e w8 ⟨g8, c8, rfl, ho8, hb8⟩
      have HW8 := Lib.hid (HW7.out.trans (hb8.mono HW7.out.size))
      have HPN := Lib.hid (HG.out.npow HUE.out L.o)
      have HMC := Lib.hid (HME.out w8 (.slice (some ⟨g8, 0, none⟩) T.length c8) _ (HP.out.keep (Keep.of_below HW8.out)) (Sl2.keep HU.out (Keep.of_below HW8.out)) (ho8.sl.mono (fun _ _ => trivial)) HPN.out)
      have HB8 := Lib.hid hb8
      clear ho8 hb8 HPC
      go_wp2_with fail
      refine HMC.out.mono ?_
      rintro e w9 ⟨v9, bl9, rfl, h9, hb9⟩
      obtain ⟨a9, c9, rfl, _⟩ := SlI.open h9
      rw [mex_len, HM.out] at h9 ⊢
      have hb79 := HB8.out.trans (hb9.mono HB8.out.size)
      have hPB9 := HPB7.out.below hb79
      have HPB9 := Lib.hid hPB9
      have HR9 := Lib.hid (show SlI (Ex B (.slice (some ⟨g6, 0, none⟩) (i + 1) c6) vP vC) w9 (.slice a9 m c9) (ints (pwX T us u)) from by
        have e1 : ints (pwX T us u) = ints (mex T us (npow (mul T) (Tow.one T) u L.o)).1 := by unfold pwX; rw [HON.out]
        rw [e1]
        obtain ⟨_, hp, _⟩ := HPB7.out.p
        obtain ⟨_, hc, _⟩ := HPB7.out.c
        have h8 := HB8.out.size
        exact h9.mono (fun k hk => ⟨by omega, fun e => by have := (World.ownsRow.lt HPB7.out.o k e.symm).2; omega, fun e => by have := (World.ownsRow.lt hp k e.symm).2; omega, fun e => by have := (World.ownsRow.lt hc k e.symm).2; omega⟩))
      have HB9 := Lib.hid (HB7.out.trans (hb79.mono (show w.heap.size + 1 ≤ w7.heap.size by omega)))
      have HK9 := Lib.hid (HK7.out.trans (Keep.below hb79 (fun k _ h => h)))
      have hs9 : B ≤ w9.heap.size := Nat.le_trans hs7 hb79.size
      have HPL := Lib.hid (show (psX T us i).length = i from psX_len (by rw [HM.out]; exact hi))
      obtain ⟨-, x9, -, hg9, hf9⟩ := hPB9.cell
      obtain ⟨us9, hp9, hp92, hp93⟩ := hPB9.p
      rw [HPL.out] at hp9
      have HU9 := Lib.hid (And.intro hp92 hp93)
      have h1 := hp9.alloc (.cells #[.slice a9 m c9] 22)
      have x10 : (w9.alloc (.cells #[.slice a9 m c9] 22)).cell? ⟨w.heap.size + 1, 1, none⟩ = some vP := (((Keep.refl Any w9).alloc _).cell (b := w.heap.size + 1) trivial hg9).trans x9
      have HOC := Lib.hid (show (Value.slice a9 m c9).oneCell' = true from rfl)
      clear h9 hb9 hb79 HMC hPB9 HPB7 HB7 HK7 HW7 hs7 hp92 hp93
      go_upto_region 9 with fail
      go_wp2_with (at_builtin; (refine wpList_append_lies _ rfl _ _ 23 rfl B 22 i2 (.slice none 0 0) 1 24 Tryz.underlying23 hi2 hy3 hy4 hy5 rfl (by decide) _ _ _ rfl h1 ⟨w9.heap.size, 0, none⟩ 1 1 [.slice a9 m c9] rfl rfl ?c1 ?c2 (by decide) ?c3 ?c4 ?c5 _ rfl ?_))
      case c1 =>
        intro j u hj
        match j, hj with
        | 0, hj => simp at hj; subst hj; simp [Addr.add]
      case c2 => intro u hu; simp at hu; subst hu; exact HOC.out
      case c3 => unfold maxLen; omega
      case c4 => omega
      case c5 => simp; omega
      intro g10 c10 w10 hown10 hgrow10 hat10 hlt10
      have hG10 : Grw w9 w10 vP (.slice (some ⟨g10, 0, none⟩) (i + 1) c10) := grw_of (B := 0) (e := 0) (xs := []) ((Below.refl _ _).alloc (Nat.le_refl _) _) hgrow10 (by simpa using hat10) hlt10
      have HPB10 := Lib.hid (HPB9.out.pushP (W2 := w10) hG10 HU9.out.1 HU9.out.2 HR9.out (by rw [HPL.out]; exact hown10))
      have hs10' : w9.heap.size ≤ w10.heap.size := hG10.gr.size
      have HB10 := Lib.hid (show Below (w.heap.size + 1) w9 (w10.setCell ⟨w.heap.size + 1, 1, none⟩ (.slice (some ⟨g10, 0, none⟩) (i + 1) c10)) from
        ((((Below.refl (w.heap.size + 1) w9).alloc (by omega) _).grown hgrow10 (by simp; omega) (fun g hg => by have := (World.ownsRow.lt hp9 g hg).1; omega)).setCell (Nat.le_refl _) _))
      have HK10 := Lib.hid (show Keep (fun k => k < B ∧ k ≠ w.heap.size + 1) w9 (w10.setCell ⟨w.heap.size + 1, 1, none⟩ (.slice (some ⟨g10, 0, none⟩) (i + 1) c10)) from (hG10.keep.mono (fun k hk e => by have := (World.ownsRow.lt hp9 k e.symm).1; have := hk.1; omega)).setCell (fun h => h.2 rfl) _)
      obtain ⟨-, y10, -, hgg10, hf10⟩ := HPB9.out.grown hG10 (fun k hk => (World.ownsRow.lt hp9 k hk).1)
      have f10 := hf10 1
      have HE10 := Lib.hid (psX_succ (T := T) HUI.out)
      clear x10 h1 hp9 x9 hg9 hf9 hown10 hgrow10 hat10 hlt10 hG10 hf10
      go_upto_region 11 with fail
      obtain ⟨w11, hw11⟩ : ∃ w11, w11 = w10.setCell ⟨w.heap.size + 1, 1, none⟩ (.slice (some ⟨g10, 0, none⟩) (i + 1) c10) := ⟨_, rfl⟩
      rw [← hw11]
      rw [← hw11] at HPB10 HB10 HK10
      rw [← HE10.out] at HPB10
      have HB11 := Lib.hid (HB9.out.trans (HB10.out.mono (by omega)))
      have HK11 := Lib.hid (HK9.out.trans HK10.out)
      have hs11 : B ≤ w11.heap.size := by have := HB10.out.size; omega
      have HW11 := Lib.hid (show Below w.heap.size w w11 from HW1.out.trans (HB11.out.mono (by omega)))
      clear hw11 HB9 HB10 HK9 HK10 HPB9 HE10 y10 hgg10 f10 hs10' hs9 HR9 HU9 HOC HB8 HW8 HPN
      have HUT := Lib.hid (SlG.dropped (Sl2.keep HU.out (Keep.of_below HW11.out)) (k := i + 1) (by rw [List.length_map, HM.out]; exact HKM.out))
      rw [← List.map_drop] at HUT
      have hwi : IntKind.i64.wrap ((i : Int) + 1) = (i : Int) + 1 := IntWalk.i64_in _ (by omega)
      have hmi : (i : Int) + 1 ≤ (m : Int) := by omega
      have hmi2 : i + 1 ≤ m := by omega
      go_cut [62, 63, 64] (fun sv nv iv W => nv = .int .i64 ((m - (i + 1) : Nat) : Int) ∧ iv = .int .i64 0 ∧ (∃ a c, sv = .slice a (m - (i + 1)) c) ∧ Hid (Sl2 Any W sv ((us.drop (i + 1)).map ints)) ∧ Hid (W = w11))
      case first =>
        by_cases hcc : cU = i + 1
        · subst hcc
          go_wp2_with fail
          go_meet
          have hm0 : m - (i + 1) = 0 := by omega
          refine ⟨by rw [hm0]; rfl, rfl, ⟨some ⟨bU, oU, none⟩, 0, by rw [hm0]⟩, Lib.hid ?_, Lib.hid rfl⟩
          have h := HUT.out.2 trivial oU
          rw [hm0, Nat.sub_self] at h
          exact h
        · go_wp2_with fail
          go_meet
          refine ⟨by first | rfl | (congr 1; omega), rfl, ⟨_, _, rfl⟩, Lib.hid ?_, Lib.hid rfl⟩
          exact HUT.out.1
      case rest =>
        rename World => wc
        obtain ⟨rfl, rfl, ⟨aT, cT, rfl⟩, hST, hwc⟩ := hcut
        obtain rfl := hwc.out
        obtain ⟨n, hn⟩ : ∃ n, m - (i + 1) = n := ⟨_, rfl⟩
        have HNN := Lib.hid hn
        have HDL := Lib.hid (show (us.drop (i + 1)).length = n by rw [List.length_drop, HM.out, hn])
        obtain ⟨V, hV⟩ : ∃ V, us.drop (i + 1) = V := ⟨_, rfl⟩
        have HV := Lib.hid (show ∀ y ∈ V, El T y ∧ dep y < T.length from fun y hy => HL.out y (List.mem_of_mem_drop (by rw [hV]; exact hy)))
        have HE17 := Lib.hid (csX_succ (T := T) HUI.out)
        have hn6 : n ≤ 6 := by omega
        rw [hV] at hST HDL HE17
        rw [hn] at hST ⊢
        clear hn hV hwc HUT hwi hmi hmi2
        go_wp2_with fail
        go_loopw [12, 64] (fun lv jv wr => ∃ j : Nat, j ≤ n ∧ jv = .int .i64 (j : Int) ∧ Hid (RowsL (fun W u x => SlI (fun k => wc.heap.size ≤ k ∧ some k ≠ lv.ownBlock) W u x) 22 wc.heap.size wr lv ((V.take j).map fun y => ints (cjX T us u y))) ∧ Hid (Below wc.heap.size wc wr)) (fun _ jv _ => n - (intOf jv).toNat)
        case atStart => exact ⟨0, Nat.zero_le _, rfl, Lib.hid RowsL.nil, Lib.hid (Below.refl _ _)⟩
        case round =>
          obtain ⟨j, hj, rfl, hR, hBj⟩ := hrel
          have HWj := Lib.hid (HW11.out.trans (hBj.out.mono HW11.out.size))
          by_cases hjn : j < n
          · obtain ⟨y, hy⟩ : ∃ y, V[j]? = some y := ⟨_, List.getElem?_eq_getElem (by rw [HDL.out]; exact hjn)⟩
            have hyE := HV.out y (List.mem_of_getElem? hy)
            obtain ⟨bT, oT, q, rfl, _, hbT, hcT, hq⟩ := SlG.get (Sl2.keep hST.out (Keep.of_below hBj.out)) (k := j) (x := ints y) (by rw [List.getElem?_map, hy]; rfl)
            obtain ⟨aY, cY, rfl, _⟩ := SlI.open hq
            rw [El_length hyE.1] at hq hcT
            obtain ⟨bY, oY, rfl, -, -, -⟩ := SlI.at hq (j := 0) (q := y[0]'(by rw [El_length hyE.1]; omega)) (List.getElem?_eq_getElem _)
            have HCC := Lib.hid (HCJ.out wr (.slice (some ⟨bY, oY, none⟩) T.length cY) (.slice (some ⟨bQ, oQ, none⟩) T.length cQ) y u (HP.out.keep (Keep.of_below HWj.out)) hq (fun n c h => by simp at h) (HQ.out.keep (Keep.of_below HWj.out)) (fun n c h => by simp at h) hyE.1 HUE.out)
            have HCE' := Lib.hid (HCE.out y u HUE.out hyE.1)
            have HTK := Lib.hid (show (V.take (j + 1)).map (fun y => ints (cjX T us u y)) = (V.take j).map (fun y => ints (cjX T us u y)) ++ [ints (cjX T us u y)] by rw [List.take_add_one, hy]; simp)
            have HJL := Lib.hid (show ((V.take j).map fun y => ints (cjX T us u y)).length = j by rw [List.length_map, List.length_take, HDL.out]; omega)
            have HJN := Lib.hid hjn
            have hji : (j : Int) < (n : Int) := by omega
            have hj0 : (0 : Int) ≤ (j : Int) := by omega
            have hd2 : decide ((j : Int) < (n : Int)) = true := by simp; omega
            clear hy hyE hq hjn
            go_wp2_with fail
            refine HCC.out.mono ?_
            rintro e w12 ⟨g12, c12, rfl, ho12, hb12⟩
            have HW12 := Lib.hid (HWj.out.trans (hb12.mono HWj.out.size))
            have HMC := Lib.hid (HME.out w12 (.slice (some ⟨g12, 0, none⟩) T.length c12) _ (HP.out.keep (Keep.of_below HW12.out)) (Sl2.keep HU.out (Keep.of_below HW12.out)) (ho12.sl.mono (fun _ _ => trivial)) HCE'.out)
            have HB12 := Lib.hid hb12
            clear ho12 hb12 HCC hcT hbT
            go_wp2_with fail
            refine HMC.out.mono ?_
            rintro e w13 ⟨v13, bl13, rfl, h13, hb13⟩
            obtain ⟨a13, c13, rfl, _⟩ := SlI.open h13
            rw [mex_len, HM.out] at h13 ⊢
            have hb1 := HB12.out.trans (hb13.mono HB12.out.size)
            have HBr := Lib.hid hb1
            obtain ⟨us13, hp13, hq13, hr13⟩ := hR.out
            rw [HJL.out] at hp13
            have hk13 : ∀ k, Value.ownBlock u12 = some k → w13.heap[k]? = wr.heap[k]? := fun k hk => hb1.block k (World.ownsRow.lt hp13 k hk).2
            have HU13 := Lib.hid (And.intro hq13 hr13)
            have HX13 := Lib.hid (show SlI (fun k => wr.heap.size ≤ k) w13 (.slice a13 m c13) (ints (cjX T us u y)) from h13.mono (fun k hk => Nat.le_trans HB12.out.size hk))
            have hp14 := own_kept hp13 hk13
            have HP14 := Lib.hid hp14
            have HLT := Lib.hid (World.ownsRow.lt hp13)
            have h1 := hp14.alloc (.cells #[.slice a13 m c13] 22)
            have hs13 : wc.heap.size ≤ w13.heap.size := Nat.le_trans hBj.out.size hb1.size
            clear h13 hb13 hb1 HMC hk13 hq13 hr13 hp13 hp14 HB12 HW12 HWj
            go_wp2_with (at_builtin; (refine wpList_append_lies _ rfl _ _ 23 rfl wc.heap.size 22 i2 (.slice none 0 0) 1 24 Tryz.underlying23 hi2 hy3 hy4 hy5 rfl (by decide) _ _ _ rfl h1 ⟨w13.heap.size, 0, none⟩ 1 1 [.slice a13 m c13] rfl rfl ?c1 ?c2 (by decide) ?c3 ?c4 ?c5 _ rfl ?_))
            case c1 =>
              intro j u hj
              match j, hj with
              | 0, hj => simp at hj; subst hj; simp [Addr.add]
            case c2 => intro u hu; simp at hu; subst hu; rfl
            case c3 => unfold maxLen; omega
            case c4 => omega
            case c5 => simp; omega
            intro g14 c14 w14 hown14 hgrow14 hat14 hlt14
            have hG14 : Grw w13 w14 u12 (.slice (some ⟨g14, 0, none⟩) (j + 1) c14) := grw_of (B := 0) (e := 0) (xs := []) ((Below.refl _ _).alloc (Nat.le_refl _) _) hgrow14 (by simpa using hat14) hlt14
            have hrd : ∀ u x, SlI (fun k => (wc.heap.size ≤ k ∧ some k ≠ Value.ownBlock u12)) w13 u x → SlI (fun k => wc.heap.size ≤ k ∧ some k ≠ Value.ownBlock (.slice (some ⟨g14, 0, none⟩) (j + 1) c14)) w14 u x := fun u x h =>
              ((SlI_in h).keep (hG14.keep.mono (fun k hk => hk.1.2))).mono (fun k hk => ⟨hk.1.1, fun e => by
                rcases (hG14.bk k e.symm).1 with h3 | h3
                · exact hk.1.2 h3.symm
                · have := hk.2; omega⟩)
            have HR14 := Lib.hid (show RowsL (fun W u x => SlI (fun k => wc.heap.size ≤ k ∧ some k ≠ Value.ownBlock (.slice (some ⟨g14, 0, none⟩) (j + 1) c14)) W u x) 22 wc.heap.size w14 (.slice (some ⟨g14, 0, none⟩) (j + 1) c14) ((V.take (j + 1)).map fun y => ints (cjX T us u y)) from by
              rw [HTK.out]
              refine RowsL.push (E := fun W u x => SlI (fun k => wc.heap.size ≤ k ∧ some k ≠ Value.ownBlock u12) W u x) (W := w13) HU13.out.1 (fun i x u h1 h2 => (HU13.out.2 i x u h1 h2).keep (Keep.of_below HBr.out)) hrd (hrd _ _ ?_) (by rw [HJL.out]; exact hown14)
              exact HX13.out.mono (fun k hk => ⟨Nat.le_trans hBj.out.size hk, fun e => by have := (HLT.out k e.symm).2; omega⟩))
            have HB14 := Lib.hid (show Below wc.heap.size wc w14 from ((hBj.out.trans (HBr.out.mono hBj.out.size)).alloc hs13 _).grown hgrow14 (by simp; omega) (fun g hg => (World.ownsRow.lt h1 g hg).1))
            clear h1 hown14 hgrow14 hat14 hlt14 hG14 hrd hs13
            go_wp2_with fail
            go_roundw
            case rel => exact ⟨j + 1, by have := HJN.out; omega, by go_num, HR14, HB14⟩
            case measure => have := HJN.out; simp [intOf]; omega
          · obtain rfl : j = n := by omega
            have hd2 : decide ((j : Int) < (j : Int)) = false := by simp
            have hR2 := hR.out
            rw [← HDL.out, List.take_length] at hR2
            have hsl := hR2.slG (E' := fun w u x => SlI (fun k => wc.heap.size ≤ k) w u x) (fun u x h => h.mono (fun k hk => hk.1))
            have HSL := Lib.hid (show Sl2 (fun k => wc.heap.size ≤ k) wr u12 (V.map fun y => ints (cjX T us u y)) from hsl)
            obtain ⟨aL, cL, hlv, _, _⟩ := SlG.form hsl
            rw [List.length_map, HDL.out] at hlv
            subst hlv
            have hPBr := HPB10.out.below hBj.out
            have HPBr := Lib.hid hPBr
            have HBr := Lib.hid (HB11.out.trans (hBj.out.mono (show w.heap.size + 1 ≤ wc.heap.size by omega)))
            have HKr := Lib.hid (HK11.out.trans (Keep.below hBj.out (fun k _ h => h)))
            have hsr : B ≤ wr.heap.size := Nat.le_trans hs11 hBj.out.size
            have HX17 := Lib.hid (show Sl2 (Ex B (.slice (some ⟨g6, 0, none⟩) (i + 1) c6) (.slice (some ⟨g10, 0, none⟩) (i + 1) c10) vC) wr (.slice aL j cL) (V.map fun y => ints (cjX T us u y)) from by
              obtain ⟨_, hp, _⟩ := HPB10.out.p
              obtain ⟨_, hc, _⟩ := HPB10.out.c
              exact Sl2.mono HSL.out (fun k hk => ⟨by omega, fun e => by have := (World.ownsRow.lt HPB10.out.o k e.symm).2; omega, fun e => by have := (World.ownsRow.lt hp k e.symm).2; omega, fun e => by have := (World.ownsRow.lt hc k e.symm).2; omega⟩))
            have HCL := Lib.hid (csX_len (T := T) (us := us) (i := i))
            obtain ⟨-, -, x9, hg9, hf9⟩ := hPBr.cell
            obtain ⟨us9, hp9, hp92, hp93⟩ := hPBr.c
            rw [HCL.out] at hp9
            have HU9 := Lib.hid (And.intro hp92 hp93)
            have h1 := hp9.alloc (.cells #[.slice aL j cL] 23)
            have x10 : (wr.alloc (.cells #[.slice aL j cL] 23)).cell? ⟨w.heap.size + 1, 2, none⟩ = some vC := (((Keep.refl Any wr).alloc _).cell (b := w.heap.size + 1) trivial hg9).trans x9
            clear hR hR2 hsl hPBr hp92 hp93 HSL hBj HWj HB11 HK11 HPB10 HW11
            go_upto_region 17 with fail
            go_wp2_with (at_builtin; (refine wpList_append_lies _ rfl _ _ 24 rfl B 23 i3 (.slice none 0 0) 1 24 Tryz.underlying24 hi3 hy6 hy7 hy8 rfl (by decide) _ _ _ rfl h1 ⟨wr.heap.size, 0, none⟩ 1 1 [.slice aL j cL] rfl rfl ?c1 ?c2 (by decide) ?c3 ?c4 ?c5 _ rfl ?_))
            case c2 => first | rfl | (intro u hu; simp at hu; subst hu; rfl)
            case c3 => unfold maxLen; omega
            case c4 => omega
            case c5 => first | omega | (simp; omega)
            intro g15 c15 w15 hown15 hgrow15 hat15 hlt15
            have hG15 : Grw wr w15 vC (.slice (some ⟨g15, 0, none⟩) (i + 1) c15) := grw_of (B := 0) (e := 0) (xs := []) ((Below.refl _ _).alloc (Nat.le_refl _) _) hgrow15 (by simpa using hat15) hlt15
            have HPB15 := Lib.hid (HPBr.out.pushC (W2 := w15) hG15 HU9.out.1 HU9.out.2 HX17.out (by rw [HCL.out]; exact hown15))
            rw [← HE17.out] at HPB15
            have HB15 := Lib.hid (show Below (w.heap.size + 1) wr (w15.setCell ⟨w.heap.size + 1, 2, none⟩ (.slice (some ⟨g15, 0, none⟩) (i + 1) c15)) from
              ((((Below.refl (w.heap.size + 1) wr).alloc (by omega) _).grown hgrow15 (by simp; omega) (fun g hg => by have := (World.ownsRow.lt hp9 g hg).1; omega)).setCell (Nat.le_refl _) _))
            have HK15 := Lib.hid (show Keep (fun k => k < B ∧ k ≠ w.heap.size + 1) wr (w15.setCell ⟨w.heap.size + 1, 2, none⟩ (.slice (some ⟨g15, 0, none⟩) (i + 1) c15)) from (hG15.keep.mono (fun k hk e => by have := (World.ownsRow.lt hp9 k e.symm).1; have := hk.1; omega)).setCell (fun h => h.2 rfl) _)
            have HB16 := Lib.hid (HBr.out.trans HB15.out)
            have HK16 := Lib.hid (HKr.out.trans HK15.out)
            obtain ⟨-, -, y10, hgg10, hf10⟩ := HPBr.out.grown hG15 (fun k hk => (World.ownsRow.lt hp9 k hk).1)
            have f10 := hf10 2
            clear x10 h1 hp9 x9 hg9 hf9 hown15 hgrow15 hat15 hlt15 hG15 hf10
            go_wp2_with fail
            go_roundw
            case rel => exact ⟨i + 1, _, _, _, HKM.out, by go_num, HPB15, HB16, HK16⟩
            case measure => have := HKM.out; simp [intOf]; omega
    · obtain rfl : i = m := by omega
      have hd1 : decide ((i : Int) < (i : Int)) = false := by simp
      have HV := Lib.hid (show ValP (fun k => B ≤ k) wr vO vP vC (ofTw (subT T us)) from by have h := hPB.out.val; rw [HALL.out] at h; exact h)
      obtain ⟨aO, cO, aP', cP', aC, cC, rfl, rfl, rfl, -, -, -⟩ := HV.out.open
      obtain ⟨x0, x1, x2, hg1, hf1⟩ := hPB.out.cell
      have h0 : wr.heap[w.heap.size]? = some (.cells #[.slice none 0 0, .slice none 0 0, .slice none 0 0] 30) := by
        rw [hK.out.block w.heap.size ⟨by omega, by omega⟩ (by have := HBE.out; omega)]
        exact HG01.out
      have z0 : ∀ j, j < 3 → wr.cell? ⟨w.heap.size, j, none⟩ = some (.slice none 0 0) := fun j hj => by
        rw [cell_of_row _ _ _ _ _ (0, 0) h0]
        match j, hj with
        | 0, _ => rfl
        | 1, _ => rfl
        | 2, _ => rfl
      have y0 := z0 0 (by decide)
      have y1 := z0 1 (by decide)
      have y2 := z0 2 (by decide)
      have fz : ∀ j, wr.frozen? ⟨w.heap.size, j, none⟩ = false := fun j => by simp [World.frozen?, h0]
      have f0 := fz 0
      have f1 := fz 1
      have f2 := fz 2
      have hgl : w.heap.size < wr.heap.size := by omega
      have HBW2 := Lib.hid (show Below w.heap.size w (((wr.setCell ⟨w.heap.size, 0, none⟩ (.slice aO (subT T us).length cO)).setCell ⟨w.heap.size, 1, none⟩ (.slice aP' (subT T us).length cP')).setCell ⟨w.heap.size, 2, none⟩ (.slice aC (subT T us).length cC)) from ((HBW.out.setCell (Nat.le_refl _) _).setCell (Nat.le_refl _) _).setCell (Nat.le_refl _) _)
      have HV2 := Lib.hid (show ValP Any (((wr.setCell ⟨w.heap.size, 0, none⟩ (.slice aO (subT T us).length cO)).setCell ⟨w.heap.size, 1, none⟩ (.slice aP' (subT T us).length cP')).setCell ⟨w.heap.size, 2, none⟩ (.slice aC (subT T us).length cC)) (.slice aO (subT T us).length cO) (.slice aP' (subT T us).length cP') (.slice aC (subT T us).length cC) (ofTw (subT T us)) from
        (HV.out.keep (((( Keep.refl _ wr).setCell (by show ¬ B ≤ w.heap.size; omega) _).setCell (by show ¬ B ≤ w.heap.size; omega) _).setCell (by show ¬ B ≤ w.heap.size; omega) _)).mono (fun _ _ => trivial))
      have h3 : (((wr.setCell ⟨w.heap.size, 0, none⟩ (.slice aO (subT T us).length cO)).setCell ⟨w.heap.size, 1, none⟩ (.slice aP' (subT T us).length cP')).setCell ⟨w.heap.size, 2, none⟩ (.slice aC (subT T us).length cC)).heap[w.heap.size]? = some (.cells #[.slice aO (subT T us).length cO, .slice aP' (subT T us).length cP', .slice aC (subT T us).length cC] 30) := by
        rw [heap_setCell_same _ _ _ _ _ _ (heap_setCell_same _ _ _ _ _ _ (heap_setCell_same _ _ _ _ _ _ h0))]
        rfl
      clear hPB hB hK z0 fz h0
      go_wp2_with fail
      obtain ⟨W, hW⟩ : ∃ W, W = ((wr.setCell ⟨w.heap.size, 0, none⟩ (.slice aO (subT T us).length cO)).setCell ⟨w.heap.size, 1, none⟩ (.slice aP' (subT T us).length cP')).setCell ⟨w.heap.size, 2, none⟩ (.slice aC (subT T us).length cC) := ⟨_, rfl⟩
      rw [← hW] at h3 HBW2 HV2 ⊢
      have q0 : W.cell? ⟨w.heap.size, 0, none⟩ = some (.slice aO (subT T us).length cO) := by rw [cell_of_row _ _ _ _ _ (0, 0) h3]; rfl
      have q1 : W.cell? ⟨w.heap.size, 1, none⟩ = some (.slice aP' (subT T us).length cP') := by rw [cell_of_row _ _ _ _ _ (0, 0) h3]; rfl
      have q2 : W.cell? ⟨w.heap.size, 2, none⟩ = some (.slice aC (subT T us).length cC) := by rw [cell_of_row _ _ _ _ _ (0, 0) h3]; rfl
      have HR := Lib.hid (show PreR T us w (.returned (.agg #[.slice aO (subT T us).length cO, .slice aP' (subT T us).length cP', .slice aC (subT T us).length cC])) W from ⟨_, _, _, rfl, HV2.out, HBW2.out⟩)
      clear hW h3 y0 y1 y2 f0 f1 f2
      exact bodyPost_ret (v := .agg #[.slice aO (subT T us).length cO, .slice aP' (subT T us).length cP', .slice aC (subT T us).length cC]) (by simp [results, Tryz.results28, go_sem, q0, q1, q2]) rfl HR.out
end Go.Proofs.YtabkibmnghbahaaGreat.CcM
