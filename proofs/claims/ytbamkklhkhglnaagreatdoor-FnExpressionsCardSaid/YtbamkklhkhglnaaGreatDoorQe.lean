import Derived.RangeFuncNested
import Derived.RangeFuncBound
import Derived.RangeFuncCalls
import Derived.RangeFuncLeaves
import Derived.RangeFuncBox
import Derived.Shelf.Abstract
import Derived.Shelf.RegionOpen
import Derived.WalkKit
import Derived.OwnWalkIn
import Derived.TacticsInMore
import Derived.LoopNIn
import Derived.LoopIn
import Derived.Lib.SplitLaws
import Derived.Maps.AppendAt
import Derived.Lib.OwnBridge
import Derived.Lib.AppendIntMem
import Derived.Test.YtbamkklhkhglnaaGreatDoorQa
import Derived.Test.YtbamkklhkhglnaaGreatDoorSpecF
import Derived.Test.YtbamkklhkhglnaaGreatDoorSpecVW
import Derived.Test.YtbamkklhkhglnaaGreatDoorPlainA
import Derived.Test.YtbamkklhkhglnaaGreatDoorNumD
import Derived.Deep.Slices
import Derived.Deep.Strs
import Derived.ChangeSlices
import Derived.Lib.SmallJoins
import Derived.Lib.AppendZeros
import Derived.Laws.AppendOwnNone
/-
  Texts of a proof, bundled: LbX LbZ PeA PeB PeC PeD PeE PeF PeG PeH PeI PeJ PeK PeL PeM PeN.
-/
set_option linter.unusedVariables false
set_option linter.unusedSimpArgs false
set_option maxRecDepth 100000
set_option maxHeartbeats 16000000
namespace Go.Proofs.YtbamkklhkhglnaaGreatDoor.LbK
open Go.RowKit Go.Lib Go.Proofs.YtbamkklhkhglnaaGreatDoor Tow CyA LbC LbN LbI TmA TrA ImplW
open Go.Proofs.YtbamkklhkhglnaaGreatDoor.DwB (row3f put3)

theorem isx_any (L : List Nd) (v : Value) (w : World) (h : NdS w v L) (hz : Szs L) (hn : L.length ≤ 100000000) (hv : Vars w) :
  Calls Tryz.prog 32 #[v] w (BxR (isEx L) w) := by
 obtain ⟨a, c, rfl⟩ := h.form
 obtain ⟨n, hN⟩ : ∃ n, L.length = n := ⟨_, rfl⟩
 have HN := hid hN
 have HOP := hid (fun x (hx : x ∈ L) W hv => opi_any x.k x.t x.m (hz x hx) W hv)
 have HAT := hid (fun (W : World) (hb : Below w.heap.size w W) i x (hx : L[i]? = some x) => show ∃ b o, a = some ⟨b, o, none⟩ ∧ b < W.heap.size ∧ W.cell? ⟨b, o + i * 3, none⟩ = some (.int .i64 x.k) ∧ W.cell? ⟨b, o + i * 3 + 1, none⟩ = some (.string x.t) ∧ W.cell? ⟨b, o + i * 3 + 2, none⟩ = some (.string x.m) from by
  obtain ⟨b, o, c', h1, h2, h3, h4, h5⟩ := (h.below hb).at_ i x hx
  obtain ⟨rfl, rfl⟩ : a = some ⟨b, o, none⟩ ∧ c = c' := by simpa using h1
  exact ⟨b, o, rfl, h2, h3, h4, h5⟩)
 have HV := hid (fun (W : World) (hb : Below w.heap.size w W) => hv.below hb)
 rw [hN] at hn ⊢
 clear h hz hv hN
 by_cases h1 : n < 1
 ·have HE := hid (show isEx L = false from by
   cases L with
   | nil => rfl
   | cons x l => have := HN.out; simp at this; omega)
  obtain rfl : n = 0 := by omega
  clear h1
  go_enter Tryz.func32, Tryz.ntmps32
  go_wp2_with fail
  go_ret
  exact ⟨by rw [HE.out] <;> rfl, Below.refl _ _⟩
 ·by_cases h2 : 30 < n
  ·have HE := hid (show isEx L = false from by
    unfold isEx
    rw [HN.out, decide_eq_false (by omega)]
    rfl)
   have h1i : ¬ (n : Int) < 1 := by omega
   have h2i : (30 : Int) < (n : Int) := by omega
   clear h1
   go_enter Tryz.func32, Tryz.ntmps32
   go_wp2_with fail
   go_ret
   exact ⟨by rw [HE.out] <;> rfl, Below.refl _ _⟩
  ·have HE := hid (show isEx L = exs (L.map Nd.ops) 1 from by
    unfold isEx
    rw [HN.out, decide_eq_true (by omega)]
    rfl)
   have h1i : ¬ (n : Int) < 1 := by omega
   have h2i : ¬ (30 : Int) < (n : Int) := by omega
   go_enter Tryz.func32, Tryz.ntmps32
   go_wp2_with fail
   go_loopw [3, 17] (fun jv iv wr => ∃ (k : Nat) (o : Int), k ≤ n ∧ jv = .int .i64 o ∧ iv = .int .i64 (k : Int) ∧ 0 ≤ o ∧ o ≤ 1 + k ∧ Hid (exs (L.map Nd.ops) 1 = exs ((L.drop k).map Nd.ops) o) ∧ Hid (Below w.heap.size w wr)) (fun _ iv _ => n - (intOf iv).toNat)
   case atStart => exact ⟨0, 1, Nat.zero_le _, rfl, rfl, by omega, by omega, hid rfl, hid (Below.refl _ _)⟩
   case round =>
    obtain ⟨k, o, hk, rfl, rfl, ho0, ho1, HX, hB⟩ := hrel
    by_cases hlt : k < n
    ·have hki : (k : Int) < (n : Int) := by omega
     obtain ⟨x, hx⟩ : ∃ x, L[k]? = some x := ⟨_, List.getElem?_eq_getElem (by rw [HN.out]; exact hlt)⟩
     obtain ⟨b, of, rfl, hbl, q0, q1, q2⟩ := HAT.out wr hB.out k x hx
     obtain ⟨gB, hgB⟩ : ∃ gB, wr.heap.size = gB := ⟨_, rfl⟩
     obtain ⟨w3, hw3⟩ : ∃ w3, wr.alloc (.cells #[.int .i64 x.k, .string x.t, .string x.m] 63) = w3 := ⟨_, rfl⟩
     have hrow : w3.heap[gB]? = some (.cells #[.int .i64 x.k, .string x.t, .string x.m] 63 (0, 0)) := by rw [← hw3, ← hgB]; exact heap_alloc_new wr _
     have HB3 := hid (show Below w.heap.size w w3 from by rw [← hw3]; exact hB.out.alloc hB.out.size _)
     obtain ⟨⟨s0, s1, s2⟩, -⟩ := row3f hrow
     have hgBl := (Array.getElem?_eq_some_iff.1 hrow).1
     obtain ⟨p, hp⟩ : ∃ p, opnd x.k x.t.data.toList x.m.data.toList = p := ⟨_, rfl⟩
     have HP := hid (show x.ops = p from hp)
     have hpl := opnd_le x.k x.t.data.toList x.m.data.toList
     have HOX := hid ((HOP.out x (List.mem_of_getElem? hx) w3 (HV.out w3 HB3.out)).mono (R' := fun e w' => e = .returned (.int .i64 p) ∧ Below w3.heap.size w3 w') (fun e w' h => by rw [← hp]; exact h))
     rw [hp] at hpl
     go_upto_region 7 with fail
     clear hw3 hgB hrow q0 q1 q2 hp
     by_cases hbad : o = 0 ∨ p < 0
     ·have HN0 := hid (show isEx L = false from by rw [HE.out]; exact exs_bad hx HX.out (by rw [HP.out]; exact hbad))
      by_cases h0 : o = 0
      ·subst h0
       clear hx hbad
       go_wp2_with (go_at_call 47; refine HOX.out.mono ?_; rintro e w4 ⟨rfl, hb4⟩)
       go_ret
       exact ⟨by rw [HN0.out] <;> rfl, HB3.out.trans (hb4.mono HB3.out.size)⟩
      ·have h0b : (o == 0) = false := beq_eq_false_iff_ne.2 h0
       have hp0 : p < 0 := hbad.resolve_left h0
       clear hx hbad h0
       go_wp2_with (go_at_call 47; refine HOX.out.mono ?_; rintro e w4 ⟨rfl, hb4⟩)
       go_ret
       exact ⟨by rw [HN0.out] <;> rfl, HB3.out.trans (hb4.mono HB3.out.size)⟩
     ·have HST := hid (exs_step hx HX.out (by rw [HP.out]; exact hbad))
      rw [HP.out] at HST
      have h0b : (o == 0) = false := beq_eq_false_iff_ne.2 fun e => hbad (.inl e)
      have hp0 : ¬ p < 0 := fun e => hbad (.inr e)
      have ho' : 0 ≤ o + (p - 1) := by have : ¬ o = 0 := fun e => hbad (.inl e); omega
      have hw1 : IntKind.i64.wrap (p - 1) = p - 1 := IntWalk.i64_in _ (by omega)
      have hw2 : IntKind.i64.wrap (o + (p - 1)) = o + (p - 1) := IntWalk.i64_in _ (by omega)
      clear hx hbad
      go_wp2_with (go_at_call 47; refine HOX.out.mono ?_; rintro e w4 ⟨rfl, hb4⟩)
      go_roundw
      case rel => exact ⟨k + 1, _, by omega, rfl, by go_num, ho', by omega, HST, hid (HB3.out.trans (hb4.mono HB3.out.size))⟩
      case measure => simp [intOf]; omega
    ·obtain rfl : n = k := by omega
     have hki : ¬ (n : Int) < (n : Int) := by omega
     have HEN := hid (show isEx L = (o == 0) from by rw [HE.out]; exact exs_end (by rw [HN.out]; exact HX.out))
     go_wp2_with fail
     go_ret
     exact ⟨by rw [HEN.out] <;> rfl, hB.out⟩
end Go.Proofs.YtbamkklhkhglnaaGreatDoor.LbK
namespace Go.Proofs.YtbamkklhkhglnaaGreatDoor.LbL
open Go.RowKit Go.Lib Go.Proofs.YtbamkklhkhglnaaGreatDoor Tow CyA LbC LbN LbJ TmA TrA ImplW
open Go.Proofs.YtbamkklhkhglnaaGreatDoor.DwB (row3f put3)

theorem sx_any (L : List Nd) (v : Value) (w : World) (h : NdS w v L) (hz : Szs L) (hn : L.length ≤ 100000000) :
  Calls Tryz.prog 34 #[v] w (BxR (isEx L) w) := by
 obtain ⟨a, c, rfl⟩ := h.form
 obtain ⟨n, hN⟩ : ∃ n, L.length = n := ⟨_, rfl⟩
 have HN := hid hN
 have HOP := hid (fun x (hx : x ∈ L) W => ops_any x.k x.t x.m (hz x hx) W)
 have HAT := hid (fun (W : World) (hb : Below w.heap.size w W) i x (hx : L[i]? = some x) => show ∃ b o, a = some ⟨b, o, none⟩ ∧ b < W.heap.size ∧ W.cell? ⟨b, o + i * 3, none⟩ = some (.int .i64 x.k) ∧ W.cell? ⟨b, o + i * 3 + 1, none⟩ = some (.string x.t) ∧ W.cell? ⟨b, o + i * 3 + 2, none⟩ = some (.string x.m) from by
  obtain ⟨b, o, c', h1, h2, h3, h4, h5⟩ := (h.below hb).at_ i x hx
  obtain ⟨rfl, rfl⟩ : a = some ⟨b, o, none⟩ ∧ c = c' := by simpa using h1
  exact ⟨b, o, rfl, h2, h3, h4, h5⟩)
 rw [hN] at hn ⊢
 clear h hz hN
 by_cases h2 : 30 < n
 ·have HE := hid (show isEx L = false from by
   unfold isEx
   rw [HN.out, decide_eq_false (by omega)]
   rfl)
  have h2i : (30 : Int) < (n : Int) := by omega
  go_enter Tryz.func34, Tryz.ntmps34
  go_wp2_with fail
  go_ret
  exact ⟨by rw [HE.out] <;> rfl, Below.refl _ _⟩
 ·have HE := hid (show isEx L = exs (L.map Nd.ops) 1 from by
   unfold isEx
   rw [HN.out, decide_eq_true (by omega)]
   rfl)
  have h2i : ¬ (30 : Int) < (n : Int) := by omega
  go_enter Tryz.func34, Tryz.ntmps34
  go_wp2_with fail
  go_loopw [3, 4] (fun jv iv wr => ∃ (k : Nat) (o : Int), k ≤ n ∧ jv = .int .i64 o ∧ iv = .int .i64 (k : Int) ∧ 0 ≤ o ∧ o ≤ 1 + k ∧ Hid (exs (L.map Nd.ops) 1 = exs ((L.drop k).map Nd.ops) o) ∧ Hid (Below w.heap.size w wr)) (fun _ iv _ => n - (intOf iv).toNat)
  case atStart => exact ⟨0, 1, Nat.zero_le _, rfl, rfl, by omega, by omega, hid rfl, hid (Below.refl _ _)⟩
  case round =>
   obtain ⟨k, o, hk, rfl, rfl, ho0, ho1, HX, hB⟩ := hrel
   by_cases hlt : k < n
   ·have hki : (k : Int) < (n : Int) := by omega
    obtain ⟨x, hx⟩ : ∃ x, L[k]? = some x := ⟨_, List.getElem?_eq_getElem (by rw [HN.out]; exact hlt)⟩
    obtain ⟨b, of, rfl, hbl, q0, q1, q2⟩ := HAT.out wr hB.out k x hx
    obtain ⟨p, hp⟩ : ∃ p, opnd x.k x.t.data.toList x.m.data.toList = p := ⟨_, rfl⟩
    have HP := hid (show x.ops = p from hp)
    have hpl := opnd_le x.k x.t.data.toList x.m.data.toList
    have HOX := hid ((HOP.out x (List.mem_of_getElem? hx) wr).mono (R' := fun e w' => e = .returned (.int .i64 p) ∧ Below wr.heap.size wr w') (fun e w' h => by rw [← hp]; exact h))
    rw [hp] at hpl
    clear hp
    by_cases hbad : o = 0 ∨ p < 0
    ·have HN0 := hid (show isEx L = false from by rw [HE.out]; exact exs_bad hx HX.out (by rw [HP.out]; exact hbad))
     by_cases hp0 : p < 0
     ·clear hx hbad
      go_wp2_with (go_at_call 49; refine HOX.out.mono ?_; rintro e w4 ⟨rfl, hb4⟩)
      go_ret
      exact ⟨by rw [HN0.out] <;> rfl, hB.out.trans (hb4.mono hB.out.size)⟩
     ·obtain rfl : o = 0 := hbad.resolve_right hp0
      clear hx hbad
      go_wp2_with (go_at_call 49; refine HOX.out.mono ?_; rintro e w4 ⟨rfl, hb4⟩)
      go_ret
      exact ⟨by rw [HN0.out] <;> rfl, hB.out.trans (hb4.mono hB.out.size)⟩
    ·have HST := hid (exs_step hx HX.out (by rw [HP.out]; exact hbad))
     rw [HP.out] at HST
     have h0b : (o == 0) = false := beq_eq_false_iff_ne.2 fun e => hbad (.inl e)
     have hp0 : ¬ p < 0 := fun e => hbad (.inr e)
     have ho' : 0 ≤ o + (p - 1) := by have : ¬ o = 0 := fun e => hbad (.inl e); omega
     have hw1 : IntKind.i64.wrap (o - 1) = o - 1 := IntWalk.i64_in _ (by omega)
     have hw2 : IntKind.i64.wrap (o - 1 + p) = o + (p - 1) := by rw [IntWalk.i64_in _ (by omega)]; omega
     clear hx hbad
     go_wp2_with (go_at_call 49; refine HOX.out.mono ?_; rintro e w4 ⟨rfl, hb4⟩)
     go_roundw
     case rel => exact ⟨k + 1, _, by omega, rfl, by go_num, ho', by omega, HST, hid (hB.out.trans (hb4.mono hB.out.size))⟩
     case measure => simp [intOf]; omega
   ·obtain rfl : n = k := by omega
    have hki : ¬ (n : Int) < (n : Int) := by omega
    have HEN := hid (show isEx L = (o == 0) from by rw [HE.out]; exact exs_end (by rw [HN.out]; exact HX.out))
    go_wp2_with fail
    go_ret
    exact ⟨by rw [HEN.out] <;> rfl, hB.out⟩
end Go.Proofs.YtbamkklhkhglnaaGreatDoor.LbL
namespace Go.Proofs.YtbamkklhkhglnaaGreatDoor.PeA
open Go.RowKit Go.Lib Go.Proofs.YtbamkklhkhglnaaGreatDoor LbC LbD LbN

abbrev Rd := Except Nat (List Nd × Nat)
def clo (t : List UInt8) (c : UInt8) (i : Nat) : Option Nat := ((t.drop i).findIdx? (· == c)).map (· + i)
def sub (t : List UInt8) (i j : Nat) : List UInt8 := (t.drop i).take (j - i)
def ndB (k : Int) (x : List UInt8) : Nd := ⟨k, ba x, ba []⟩
def ndM (k : Int) (m : UInt8) : Nd := ⟨k, ba [], ba [m]⟩
def ndP : Nd := ⟨3, ba [], ba []⟩
def Bra (c d : UInt8) (k : Int) : Prop := (c = 123 ∧ d = 125 ∧ k = 0) ∨ (c = 91 ∧ d = 93 ∧ k = 1)
def putR (x : Nd) : Rd → Rd
 | .error p => .error p
 | .ok (L, q) => .ok (x :: L, q)
def endR : Rd → Nat
 | .error p => p
 | .ok (_, q) => q
def isErr : Rd → Bool
 | .error _ => true
 | .ok _ => false
inductive Rds (t : List UInt8) : Nat → List Nd → Nat → Rd → Prop
 | fend {i : Nat} (h : t[i]? = none) : Rds t 0 [] i (.error i)
 | fbr {i j : Nat} {c d : UInt8} {k : Int} (hb : Bra c d k) (h : t[i]? = some c) (hj : clo t d (i + 1) = some j) (ho : 0 ≤ (ndB k (sub t (i + 1) j)).ops) : Rds t 0 [] i (.ok ([ndB k (sub t (i + 1) j)], j + 1))
 | fbn {i : Nat} {c d : UInt8} {k : Int} (hb : Bra c d k) (h : t[i]? = some c) (hj : clo t d (i + 1) = none) : Rds t 0 [] i (.error i)
 | fbo {i j : Nat} {c d : UInt8} {k : Int} (hb : Bra c d k) (h : t[i]? = some c) (hj : clo t d (i + 1) = some j) (ho : ¬ 0 ≤ (ndB k (sub t (i + 1) j)).ops) : Rds t 0 [] i (.error i)
 | flt {i : Nat} {c : UInt8} (h : t[i]? = some c) (hl : isLt [c] = true) : Rds t 0 [] i (.ok ([ndB 2 [c]], i + 1))
 | fpo {i : Nat} {r : Rd} (h : t[i]? = some 40) (h1 : Rds t 5 [] (i + 1) r) : Rds t 0 [] i r
 | fmk {i : Nat} {c : UInt8} {r : Rd} (h : t[i]? = some c) (hm : isMk [c] = true) (hp : t[i + 1]? = some 40) (h1 : Rds t 5 [] (i + 2) r) : Rds t 0 [] i (putR (ndM 5 c) r)
 | fm1 {i : Nat} {c : UInt8} (h : t[i]? = some c) (hm : isMk [c] = true) (hp : t[i + 1]? ≠ some 40) : Rds t 0 [] i (.error (i + 1))
 | fno {i : Nat} {c : UInt8} (h : t[i]? = some c) (h1 : c ≠ 123) (h2 : c ≠ 91) (h3 : isLt [c] = false) (h4 : c ≠ 40) (h5 : isMk [c] = false) : Rds t 0 [] i (.error i)
 | pok {i q : Nat} {L : List Nd} (h1 : Rds t 2 [] i (.ok (L, q))) (h : t[q]? = some 41) : Rds t 5 [] i (.ok (L, q + 1))
 | pno {i q : Nat} {L : List Nd} (h1 : Rds t 2 [] i (.ok (L, q))) (h : t[q]? ≠ some 41) : Rds t 5 [] i (.error q)
 | per {i p : Nat} (h1 : Rds t 2 [] i (.error p)) : Rds t 5 [] i (.error p)
 | ter {i p : Nat} (h1 : Rds t 0 [] i (.error p)) : Rds t 1 [] i (.error p)
 | tok {i q : Nat} {L : List Nd} {r : Rd} (h1 : Rds t 0 [] i (.ok (L, q))) (h2 : Rds t 3 L q r) : Rds t 1 [] i r
 | qno {q : Nat} {L : List Nd} (h : t[q]? ≠ some 47) : Rds t 3 L q (.ok (L, q))
 | qok {q : Nat} {L : List Nd} {m : UInt8} {r : Rd} (h : t[q]? = some 47) (hm : t[q + 1]? = some m) (hk : isMk [m] = true) (h1 : Rds t 3 (ndM 4 m :: L) (q + 2) r) : Rds t 3 L q r
 | qer {q : Nat} {L : List Nd} (h : t[q]? = some 47) (hm : ∀ m, t[q + 1]? = some m → isMk [m] = false) : Rds t 3 L q (.error (q + 1))
 | der {i p : Nat} (h1 : Rds t 1 [] i (.error p)) : Rds t 2 [] i (.error p)
 | dok {i q : Nat} {L : List Nd} {r : Rd} (h1 : Rds t 1 [] i (.ok (L, q))) (h2 : Rds t 4 L q r) : Rds t 2 [] i r
 | sno {q : Nat} {L : List Nd} (h : t[q]? ≠ some 43) : Rds t 4 L q (.ok (L, q))
 | sok {q q' : Nat} {L R : List Nd} {r : Rd} (h : t[q]? = some 43) (h1 : Rds t 1 [] (q + 1) (.ok (R, q'))) (h2 : Rds t 4 (ndP :: (L ++ R)) q' r) : Rds t 4 L q r
 | ser {q p : Nat} {L : List Nd} (h : t[q]? = some 43) (h1 : Rds t 1 [] (q + 1) (.error p)) : Rds t 4 L q (.error p)
theorem isLt_sg {c : UInt8} (h : isLt [c] = true) : c ≠ 123 ∧ c ≠ 91 ∧ c ≠ 40 ∧ isMk [c] = false := by
 have h1 : 97 ≤ c.toNat ∧ c.toNat ≤ 122 := by simpa [isLt] using h
 refine ⟨?_, ?_, ?_, ?_⟩
 ·rintro rfl; exact absurd h1 (by decide)
 ·rintro rfl; exact absurd h1 (by decide)
 ·rintro rfl; exact absurd h1 (by decide)
 ·cases hm : isMk [c] with
  | false => rfl
  | true =>
   have : c = 90 ∨ c = 68 ∨ c = 70 := by simpa [isMk, or_assoc] using hm
   rcases this with rfl | rfl | rfl <;> exact absurd h1 (by decide)
theorem isMk_sg {c : UInt8} (h : isMk [c] = true) : c ≠ 123 ∧ c ≠ 91 ∧ c ≠ 40 ∧ isLt [c] = false := by
 have : c = 90 ∨ c = 68 ∨ c = 70 := by simpa [isMk, or_assoc] using h
 rcases this with rfl | rfl | rfl <;> decide
theorem Bra.sg {c d : UInt8} {k : Int} (h : Bra c d k) : (c = 123 ∨ c = 91) ∧ c ≠ 40 ∧ isLt [c] = false ∧ isMk [c] = false := by
 rcases h with ⟨rfl, _, _⟩ | ⟨rfl, _, _⟩ <;> decide
theorem Bra.same {c d d' : UInt8} {k k' : Int} (h : Bra c d k) (h' : Bra c d' k') : d = d' ∧ k = k' := by
 rcases h with ⟨rfl, rfl, rfl⟩ | ⟨rfl, rfl, rfl⟩ <;> rcases h' with ⟨h, rfl, rfl⟩ | ⟨h, rfl, rfl⟩ <;> first | exact ⟨rfl, rfl⟩ | exact absurd h (by decide)
theorem clo_some {t : List UInt8} {c : UInt8} {i j : Nat} (h : clo t c i = some j) : i ≤ j ∧ j < t.length ∧ t[j]? = some c ∧ ∀ k, i ≤ k → k < j → t[k]? ≠ some c := by
 unfold clo at h
 rw [Option.map_eq_some_iff] at h
 obtain ⟨m, hm, rfl⟩ := h
 rw [List.findIdx?_eq_some_iff_getElem] at hm
 obtain ⟨hl, hc, hn⟩ := hm
 rw [List.length_drop] at hl
 refine ⟨by omega, by omega, ?_, fun k h1 h2 => ?_⟩
 ·rw [List.getElem_drop] at hc
  rw [List.getElem?_eq_getElem (by omega)]
  have : t[m + i] = t[i + m] := by congr 1; omega
  rw [this]
  simpa using hc
 ·have h3 := hn (k - i) (by omega)
  rw [List.getElem_drop] at h3
  rw [List.getElem?_eq_getElem (by omega)]
  intro e
  apply h3
  have : t[i + (k - i)] = t[k] := by congr 1; omega
  rw [this]
  simpa using e
theorem clo_mk {t : List UInt8} {c : UInt8} {i j : Nat} (h1 : i ≤ j) (h2 : t[j]? = some c) (h3 : ∀ k, i ≤ k → k < j → t[k]? ≠ some c) : clo t c i = some j := by
 unfold clo
 rw [Option.map_eq_some_iff]
 refine ⟨j - i, ?_, by omega⟩
 have hl := (List.getElem?_eq_some_iff.1 h2).1
 rw [List.findIdx?_eq_some_iff_getElem]
 refine ⟨by rw [List.length_drop]; omega, ?_, fun k hk => ?_⟩
 ·rw [List.getElem_drop]
  have : t[i + (j - i)] = t[j] := by congr 1; omega
  rw [this]
  simpa using (List.getElem?_eq_some_iff.1 h2).2
 ·rw [List.getElem_drop]
  intro e
  refine h3 (i + k) (by omega) (by omega) ?_
  rw [List.getElem?_eq_getElem (by omega)]
  simpa using e
theorem endR_put (x : Nd) (r : Rd) : endR (putR x r) = endR r := by cases r <;> rfl
theorem isErr_put (x : Nd) (r : Rd) : isErr (putR x r) = isErr r := by cases r <;> rfl
theorem Rds.fwd {t : List UInt8} {n : Nat} {L : List Nd} {i : Nat} {r : Rd} (h : Rds t n L i r) : i ≤ endR r := by
 induction h with
 | fend h => exact Nat.le_refl _
 | fbr hb h hj ho => have := clo_some hj; simp only [endR]; omega
 | fbn hb h hj => exact Nat.le_refl _
 | fbo hb h hj ho => exact Nat.le_refl _
 | flt h hl => simp only [endR]; omega
 | fpo h h1 ih => omega
 | fmk h hm hp h1 ih => rw [endR_put]; omega
 | fm1 h hm hp => simp only [endR]; omega
 | fno h h1 h2 h3 h4 h5 => exact Nat.le_refl _
 | pok h1 h ih => simp only [endR] at ih ⊢; omega
 | pno h1 h ih => exact ih
 | per h1 ih => exact ih
 | ter h1 ih => exact ih
 | tok h1 h2 ih1 ih2 => simp only [endR] at ih1; omega
 | qno h => exact Nat.le_refl _
 | qok h hm hk h1 ih => omega
 | qer h hm => simp only [endR]; omega
 | der h1 ih => exact ih
 | dok h1 h2 ih1 ih2 => simp only [endR] at ih1; omega
 | sno h => exact Nat.le_refl _
 | sok h h1 h2 ih1 ih2 => simp only [endR] at ih1; omega
 | ser h h1 ih => simp only [endR] at ih ⊢; omega
theorem Rds.uniq {t : List UInt8} {n : Nat} {L : List Nd} {i : Nat} {r r' : Rd} (h : Rds t n L i r) (h' : Rds t n L i r') : r = r' := by
 induction h generalizing r' with
 | fend h => cases h' <;> simp_all
 | fbr hb h hj ho =>
  have hs := hb.sg
  cases h' with
  | fbr hb' h' hj' ho' =>
   obtain rfl : _ = _ := Option.some.inj (h.symm.trans h')
   obtain ⟨rfl, rfl⟩ := hb.same hb'
   obtain rfl : _ = _ := Option.some.inj (hj.symm.trans hj')
   rfl
  | fbn hb' h' hj' =>
   obtain rfl : _ = _ := Option.some.inj (h.symm.trans h')
   obtain ⟨rfl, rfl⟩ := hb.same hb'
   exact absurd (hj.symm.trans hj') (by simp)
  | fbo hb' h' hj' ho' =>
   obtain rfl : _ = _ := Option.some.inj (h.symm.trans h')
   obtain ⟨rfl, rfl⟩ := hb.same hb'
   obtain rfl : _ = _ := Option.some.inj (hj.symm.trans hj')
   exact absurd ho ho'
  | _ => simp_all
 | fbn hb h hj =>
  have hs := hb.sg
  cases h' with
  | fbr hb' h' hj' ho' =>
   obtain rfl : _ = _ := Option.some.inj (h.symm.trans h')
   obtain ⟨rfl, rfl⟩ := hb.same hb'
   exact absurd (hj.symm.trans hj') (by simp)
  | fbn hb' h' hj' => rfl
  | fbo hb' h' hj' ho' => rfl
  | _ => simp_all
 | fbo hb h hj ho =>
  have hs := hb.sg
  cases h' with
  | fbr hb' h' hj' ho' =>
   obtain rfl : _ = _ := Option.some.inj (h.symm.trans h')
   obtain ⟨rfl, rfl⟩ := hb.same hb'
   obtain rfl : _ = _ := Option.some.inj (hj.symm.trans hj')
   exact absurd ho' ho
  | fbn hb' h' hj' => rfl
  | fbo hb' h' hj' ho' => rfl
  | _ => simp_all
 | flt h hl =>
  have hs := isLt_sg hl
  cases h' with
  | fbr hb' h' hj' ho' => have := hb'.sg; simp_all
  | fbn hb' h' hj' => have := hb'.sg; simp_all
  | fbo hb' h' hj' ho' => have := hb'.sg; simp_all
  | _ => simp_all
 | fpo h h1 ih =>
  have e : isLt [40] = false ∧ isMk [40] = false := by decide
  cases h' with
  | fbr hb' h' hj' ho' => have := hb'.sg; simp_all
  | fbn hb' h' hj' => have := hb'.sg; simp_all
  | fbo hb' h' hj' ho' => have := hb'.sg; simp_all
  | fpo h' h1' => exact ih h1'
  | _ => simp_all
 | fmk h hm hp h1 ih =>
  have hs := isMk_sg hm
  cases h' with
  | fbr hb' h' hj' ho' => have := hb'.sg; simp_all
  | fbn hb' h' hj' => have := hb'.sg; simp_all
  | fbo hb' h' hj' ho' => have := hb'.sg; simp_all
  | fmk h' hm' hp' h1' =>
   obtain rfl : _ = _ := Option.some.inj (h.symm.trans h')
   rw [ih h1']
  | _ => simp_all
 | fm1 h hm hp =>
  have hs := isMk_sg hm
  cases h' with
  | fbr hb' h' hj' ho' => have := hb'.sg; simp_all
  | fbn hb' h' hj' => have := hb'.sg; simp_all
  | fbo hb' h' hj' ho' => have := hb'.sg; simp_all
  | _ => simp_all
 | fno h h1 h2 h3 h4 h5 =>
  cases h' with
  | fbr hb' h' hj' ho' => have := hb'.sg; simp_all
  | fbn hb' h' hj' => have := hb'.sg; simp_all
  | fbo hb' h' hj' ho' => have := hb'.sg; simp_all
  | _ => simp_all
 | pok h1 h ih =>
  cases h' with
  | pok h1' h' => have := ih h1'; simp_all
  | pno h1' h' => have := ih h1'; simp_all
  | per h1' => have := ih h1'; simp_all
 | pno h1 h ih =>
  cases h' with
  | pok h1' h' => have := ih h1'; simp_all
  | pno h1' h' => have := ih h1'; simp_all
  | per h1' => have := ih h1'; simp_all
 | per h1 ih =>
  cases h' with
  | pok h1' h' => have := ih h1'; simp_all
  | pno h1' h' => have := ih h1'; simp_all
  | per h1' => have := ih h1'; simp_all
 | ter h1 ih =>
  cases h' with
  | ter h1' => exact ih h1'
  | tok h1' h2' => have := ih h1'; simp_all
 | tok h1 h2 ih1 ih2 =>
  cases h' with
  | ter h1' => have := ih1 h1'; simp_all
  | tok h1' h2' => have := ih1 h1'; simp only [Except.ok.injEq, Prod.mk.injEq] at this; obtain ⟨rfl, rfl⟩ := this; exact ih2 h2'
 | qno h => cases h' <;> simp_all
 | qok h hm hk h1 ih =>
  cases h' with
  | qok h' hm' hk' h1' =>
   obtain rfl : _ = _ := Option.some.inj (hm.symm.trans hm')
   exact ih h1'
  | _ => simp_all
 | qer h hm =>
  cases h' with
  | qok h' hm' hk' h1' => have := hm _ hm'; simp_all
  | _ => simp_all
 | der h1 ih =>
  cases h' with
  | der h1' => exact ih h1'
  | dok h1' h2' => have := ih h1'; simp_all
 | dok h1 h2 ih1 ih2 =>
  cases h' with
  | der h1' => have := ih1 h1'; simp_all
  | dok h1' h2' => have := ih1 h1'; simp only [Except.ok.injEq, Prod.mk.injEq] at this; obtain ⟨rfl, rfl⟩ := this; exact ih2 h2'
 | sno h => cases h' <;> simp_all
 | sok h h1 h2 ih1 ih2 =>
  cases h' with
  | sno h' => exact absurd h h'
  | sok h' h1' h2' => have := ih1 h1'; simp only [Except.ok.injEq, Prod.mk.injEq] at this; obtain ⟨rfl, rfl⟩ := this; exact ih2 h2'
  | ser h' h1' => have := ih1 h1'; simp_all
 | ser h h1 ih =>
  cases h' with
  | sno h' => exact absurd h h'
  | sok h' h1' h2' => have := ih h1'; simp_all
  | ser h' h1' => exact ih h1'
end Go.Proofs.YtbamkklhkhglnaaGreatDoor.PeA
namespace Go.Proofs.YtbamkklhkhglnaaGreatDoor.PeB
open Go.RowKit Go.Lib Go.Proofs.YtbamkklhkhglnaaGreatDoor LbC LbD LbE LbF LbP LbN PeA TxA TxB TxC TrA

abbrev tx (x : Nd) : List UInt8 := x.t.data.toList
abbrev mk (x : Nd) : List UInt8 := x.m.data.toList
def grp (x : Nd) (b : List UInt8) : List UInt8 := if x.k = 3 then 40 :: (b ++ [41]) else b
def leaf (x : Nd) : List UInt8 := if x.k = 0 then 123 :: (tx x ++ [125]) else if x.k = 1 then 91 :: (tx x ++ [93]) else tx x
inductive Prn : List Nd → List UInt8 → List Nd → Prop
 | lf {x : Nd} {r : List Nd} (h : nd0 x.k (tx x) (mk x) ∨ nd1 x.k (tx x) (mk x) ∨ nd2 x.k (tx x) (mk x)) : Prn (x :: r) (leaf x) r
 | pr {x y : Nd} {r m e : List Nd} {a b : List UInt8} (h : nd3 x.k (tx x) (mk x)) (h1 : Prn r a (y :: m)) (h2 : Prn (y :: m) b e) : Prn (x :: r) (a ++ 43 :: grp y b) e
 | qt {x y : Nd} {r e : List Nd} {a : List UInt8} (h : nd4 x.k (tx x) (mk x)) (hk : x.k = 4) (h1 : Prn (y :: r) a e) : Prn (x :: y :: r) (grp y a ++ 47 :: mk x) e
 | pt {x : Nd} {r e : List Nd} {a : List UInt8} (h : nd4 x.k (tx x) (mk x)) (hk : x.k = 5) (h1 : Prn r a e) : Prn (x :: r) (mk x ++ 40 :: (a ++ [41])) e
theorem ops_0 {x : Nd} (h : nd0 x.k (tx x) (mk x) ∨ nd1 x.k (tx x) (mk x) ∨ nd2 x.k (tx x) (mk x)) : x.ops = 0 := opnd_lo h
theorem ops_3 {x : Nd} (h : nd3 x.k (tx x) (mk x)) : x.ops = 2 := opnd_3 h
theorem ops_4 {x : Nd} (h : nd4 x.k (tx x) (mk x)) : x.ops = 1 := opnd_4 h
theorem ops_cases (x : Nd) (h : 0 ≤ x.ops) : (nd0 x.k (tx x) (mk x) ∨ nd1 x.k (tx x) (mk x) ∨ nd2 x.k (tx x) (mk x)) ∨ nd3 x.k (tx x) (mk x) ∨ nd4 x.k (tx x) (mk x) := by
 unfold Nd.ops opnd at h
 split at h
 ·exact .inl ‹_›
 ·split at h
  ·exact .inr (.inl ‹_›)
  ·split at h
   ·exact .inr (.inr ‹_›)
   ·exact absurd h (by decide)
theorem exs_cons {x : Nd} {r : List Nd} {o : Int} (ho : o ≠ 0) (h : ¬ x.ops < 0) : exs ((x :: r).map Nd.ops) o = exs (r.map Nd.ops) (o + (x.ops - 1)) := by
 rw [List.map_cons, exs, if_neg (fun h1 => h1.elim ho h)]
theorem lf_k {x : Nd} (h : nd0 x.k (tx x) (mk x) ∨ nd1 x.k (tx x) (mk x) ∨ nd2 x.k (tx x) (mk x)) : x.k = 0 ∨ x.k = 1 ∨ x.k = 2 := h.imp (·.1) (·.imp (·.1) (·.1))
theorem exs_prn : ∀ (n : Nat) (L : List Nd) (o : Int), L.length ≤ n → 1 ≤ o → exs (L.map Nd.ops) o = true → ∃ T e, Prn L T e ∧ e.length < L.length ∧ exs (e.map Nd.ops) (o - 1) = true := by
 intro n
 induction n with
 | zero =>
  intro L o hl ho h
  obtain rfl := List.length_eq_zero_iff.1 (Nat.le_zero.1 hl)
  simp [exs] at h
  omega
 | succ n ih =>
  intro L o hl ho h
  cases L with
  | nil => simp [exs] at h; omega
  | cons x r =>
   rw [List.length_cons] at hl
   have hx : ¬ x.ops < 0 := fun h1 => by rw [List.map_cons, exs, if_pos (.inr h1)] at h; exact absurd h (by simp)
   rw [exs_cons (by omega) hx] at h
   rcases ops_cases x (by omega) with h1 | h1 | h1
   ·rw [ops_0 h1] at h
    exact ⟨_, r, .lf h1, by simp, h⟩
   ·rw [ops_3 h1] at h
    obtain ⟨a, e1, p1, l1, h2⟩ := ih r (o + 1) (by omega) (by omega) (by rw [show o + 1 = o + (2 - 1) by omega]; exact h)
    rw [show o + 1 - 1 = o by omega] at h2
    cases e1 with
    | nil => simp [exs] at h2; omega
    | cons y m =>
     obtain ⟨b, e2, p2, l2, h3⟩ := ih (y :: m) o (by omega) ho h2
     exact ⟨_, e2, .pr h1 p1 p2, by rw [List.length_cons]; omega, h3⟩
   ·rw [ops_4 h1] at h
    obtain ⟨a, e1, p1, l1, h2⟩ := ih r o (by omega) ho (by rw [show (o : Int) = o + (1 - 1) by omega]; exact h)
    rcases h1.1 with hk | hk
    ·cases r with
     | nil => cases p1
     | cons y r => exact ⟨_, e1, .qt h1 hk p1, by simp only [List.length_cons] at l1 ⊢; omega, h2⟩
    ·exact ⟨_, e1, .pt h1 hk p1, by rw [List.length_cons]; omega, h2⟩
theorem isEx_prn {L : List Nd} (h : isEx L = true) : ∃ T, Prn L T [] := by
 unfold isEx at h
 rw [Bool.and_eq_true] at h
 obtain ⟨T, e, h1, h2, h3⟩ := exs_prn _ L 1 (Nat.le_refl _) (by omega) h.2
 cases e with
 | nil => exact ⟨T, h1⟩
 | cons x r => rw [List.map_cons, exs, if_pos (.inl (by omega))] at h3; exact absurd h3 (by simp)
theorem Prn.exs {L e : List Nd} {T : List UInt8} (h : Prn L T e) : ∀ o : Int, 1 ≤ o → LbN.exs (L.map Nd.ops) o = LbN.exs (e.map Nd.ops) (o - 1) := by
 induction h with
 | lf h => intro o ho; rw [exs_cons (by omega) (by rw [ops_0 h]; omega), ops_0 h]; rfl
 | pr h h1 h2 ih1 ih2 =>
  intro o ho
  rw [exs_cons (by omega) (by rw [ops_3 h]; omega), ops_3 h, ih1 _ (by omega), show o + (2 - 1) - 1 = o by omega, ih2 o ho]
 | qt h hk h1 ih => intro o ho; rw [exs_cons (by omega) (by rw [ops_4 h]; omega), ops_4 h, ih _ (by omega)]; congr 1; omega
 | pt h hk h1 ih => intro o ho; rw [exs_cons (by omega) (by rw [ops_4 h]; omega), ops_4 h, ih _ (by omega)]; congr 1; omega
theorem Prn.isEx {L : List Nd} {T : List UInt8} (h : Prn L T []) (hl : L.length ≤ 30) : LbN.isEx L = true := by
 unfold LbN.isEx
 rw [h.exs 1 (Int.le_refl _)]
 simp [LbN.exs, hl]
theorem Prn.app {L e : List Nd} {T : List UInt8} (h : Prn L T e) (s : List Nd) : Prn (L ++ s) T (e ++ s) := by
 induction h with
 | lf h => exact .lf h
 | pr h h1 h2 ih1 ih2 => exact .pr h ih1 ih2
 | qt h hk h1 ih => exact .qt h hk ih
 | pt h hk h1 ih => exact .pt h hk ih
theorem Prn.ne {L e : List Nd} {T : List UInt8} (h : Prn L T e) : ∃ x r, L = x :: r := by cases h <;> exact ⟨_, _, rfl⟩
theorem Prn.uniq {L e e' : List Nd} {T T' : List UInt8} (h : Prn L T e) (h' : Prn L T' e') : T = T' ∧ e = e' := by
 induction h generalizing T' e' with
 | lf h =>
  have hk := lf_k h
  cases h' with
  | lf h' => exact ⟨rfl, rfl⟩
  | pr h' _ _ => have := h'.1; omega
  | qt h' hk' _ => omega
  | pt h' hk' _ => omega
 | pr h h1 h2 ih1 ih2 =>
  have hk := h.1
  cases h' with
  | lf h' => have := lf_k h'; omega
  | pr h' h1' h2' =>
   obtain ⟨rfl, e1⟩ := ih1 h1'
   obtain ⟨rfl, rfl⟩ := List.cons.inj e1
   obtain ⟨rfl, rfl⟩ := ih2 h2'
   exact ⟨rfl, rfl⟩
  | qt h' hk' _ => omega
  | pt h' hk' _ => omega
 | qt h hk h1 ih =>
  cases h' with
  | lf h' => have := lf_k h'; omega
  | pr h' _ _ => have := h'.1; omega
  | qt h' hk' h1' => obtain ⟨rfl, rfl⟩ := ih h1'; exact ⟨rfl, rfl⟩
  | pt h' hk' _ => omega
 | pt h hk h1 ih =>
  cases h' with
  | lf h' => have := lf_k h'; omega
  | pr h' _ _ => have := h'.1; omega
  | qt h' hk' _ => omega
  | pt h' hk' h1' => obtain ⟨rfl, rfl⟩ := ih h1'; exact ⟨rfl, rfl⟩
theorem grp_len (x : Nd) (b : List UInt8) : (grp x b).length ≤ b.length + 2 := by unfold grp; split <;> simp
theorem sub_len {t : List UInt8} {i j : Nat} (h : j ≤ t.length) : (sub t i j).length = j - i := by unfold PeA.sub; rw [List.length_take, List.length_drop]; omega
theorem Rds.fit {t : List UInt8} {n : Nat} {L : List Nd} {i : Nat} {r : Rd} (h : Rds t n L i r) : ∀ M q, r = .ok (M, q) →
  (n = 0 ∨ n = 1 → ∃ T x m, M = x :: m ∧ Prn M T [] ∧ (grp x T).length + i ≤ q) ∧
  (n = 2 → ∃ T, Prn M T [] ∧ T.length + i ≤ q) ∧
  (n = 5 → ∃ T, Prn M T [] ∧ T.length + i + 1 ≤ q) ∧
  (n = 3 → ∀ i0 T x m, L = x :: m → Prn L T [] → (grp x T).length + i0 ≤ i → ∃ T' x' m', M = x' :: m' ∧ Prn M T' [] ∧ (grp x' T').length + i0 ≤ q) ∧
  (n = 4 → ∀ i0 T, Prn L T [] → T.length + i0 ≤ i → ∃ T', Prn M T' [] ∧ T'.length + i0 ≤ q) := by
 induction h with
 | fend h => intro M q e; cases e
 | @fbr i j c d k hb h hj ho =>
  intro M q e
  cases e
  have h1 := clo_some hj
  refine ⟨fun _ => ⟨leaf (ndB k (sub t (i + 1) j)), _, _, rfl, .lf ?_, ?_⟩, by omega, by omega, by omega, by omega⟩
  ·rcases ops_cases _ ho with h2 | h2 | h2
   ·exact h2
   ·have h3 : k = 3 := h2.1
    rcases hb with ⟨_, _, e⟩ | ⟨_, _, e⟩ <;> omega
   ·have h3 : k = 4 ∨ k = 5 := h2.1
    rcases hb with ⟨_, _, e⟩ | ⟨_, _, e⟩ <;> omega
  ·have hl := sub_len (t := t) (i := i + 1) (j := j) (by omega)
   have ht : (tx (ndB k (sub t (i + 1) j))).length = j - (i + 1) := hl
   rcases hb with ⟨_, _, rfl⟩ | ⟨_, _, rfl⟩
   ·rw [show grp (ndB 0 (sub t (i + 1) j)) (leaf (ndB 0 (sub t (i + 1) j))) = 123 :: (tx (ndB 0 (sub t (i + 1) j)) ++ [125]) from rfl]
    simp only [List.length_cons, List.length_append, List.length_nil, ht]
    omega
   ·rw [show grp (ndB 1 (sub t (i + 1) j)) (leaf (ndB 1 (sub t (i + 1) j))) = 91 :: (tx (ndB 1 (sub t (i + 1) j)) ++ [93]) from rfl]
    simp only [List.length_cons, List.length_append, List.length_nil, ht]
    omega
 | fbn hb h hj => intro M q e; cases e
 | fbo hb h hj ho => intro M q e; cases e
 | @flt i c h hl =>
  intro M q e
  cases e
  refine ⟨fun _ => ⟨[c], _, _, rfl, .lf (x := ndB 2 [c]) (.inr (.inr ⟨rfl, hl, rfl⟩)), ?_⟩, by omega, by omega, by omega, by omega⟩
  show 1 + i ≤ i + 1
  omega
 | fpo h h1 ih =>
  intro M q e
  obtain ⟨T, h2, h3⟩ := (ih M q e).2.2.1 rfl
  obtain ⟨x, m, rfl⟩ := h2.ne
  have := grp_len x T
  exact ⟨fun _ => ⟨T, x, m, rfl, h2, by omega⟩, by omega, by omega, by omega, by omega⟩
 | @fmk i c r h hm hp h1 ih =>
  intro M q e
  cases r with
  | error p => cases e
  | ok r =>
   obtain ⟨L, q'⟩ := r
   cases e
   obtain ⟨T, h2, h3⟩ := (ih L q rfl).2.2.1 rfl
   refine ⟨fun _ => ⟨[c] ++ 40 :: (T ++ [41]), _, _, rfl, .pt (x := ndM 5 c) ⟨.inr rfl, rfl, hm⟩ rfl h2, ?_⟩, by omega, by omega, by omega, by omega⟩
   show ([c] ++ 40 :: (T ++ [41])).length + i ≤ q
   simp only [List.length_cons, List.length_append, List.length_nil]
   omega
 | fm1 h hm hp => intro M q e; cases e
 | fno h h1 h2 h3 h4 h5 => intro M q e; cases e
 | pok h1 h ih =>
  intro M q e
  cases e
  obtain ⟨T, h2, h3⟩ := (ih _ _ rfl).2.1 rfl
  exact ⟨by omega, by omega, fun _ => ⟨T, h2, by omega⟩, by omega, by omega⟩
 | pno h1 h ih => intro M q e; cases e
 | per h1 ih => intro M q e; cases e
 | ter h1 ih => intro M q e; cases e
 | tok h1 h2 ih1 ih2 =>
  intro M q e
  obtain ⟨T, x, m, e1, h3, h4⟩ := (ih1 _ _ rfl).1 (.inl rfl)
  obtain ⟨T', x', m', e2, h5, h6⟩ := (ih2 _ _ e).2.2.2.1 rfl _ T x m e1 h3 h4
  exact ⟨fun _ => ⟨T', x', m', e2, h5, h6⟩, by omega, by omega, by omega, by omega⟩
 | qno h => intro M q e; cases e; exact ⟨by omega, by omega, by omega, fun _ i0 T x m e h1 h2 => ⟨T, x, m, e, h1, h2⟩, by omega⟩
 | @qok q L m r h hm hk h1 ih =>
  intro M q' e
  refine ⟨by omega, by omega, by omega, fun _ i0 T x l e1 h2 h3 => ?_, by omega⟩
  refine (ih M q' e).2.2.2.1 rfl i0 (grp x T ++ 47 :: [m]) (ndM 4 m) L rfl (by rw [e1] at h2 ⊢; exact .qt (x := ndM 4 m) ⟨.inl rfl, rfl, hk⟩ rfl h2) ?_
  show (grp x T ++ 47 :: [m]).length + i0 ≤ q + 2
  simp only [List.length_cons, List.length_append, List.length_nil]
  omega
 | qer h hm => intro M q e; cases e
 | der h1 ih => intro M q e; cases e
 | @dok i q0 L r h1 h2 ih1 ih2 =>
  intro M q e
  obtain ⟨T, x, m, e1, h3, h4⟩ := (ih1 _ _ rfl).1 (.inr rfl)
  have hg : T.length ≤ (grp x T).length := by unfold grp; split <;> simp; omega
  obtain ⟨T', h5, h6⟩ := (ih2 _ _ e).2.2.2.2 rfl i T h3 (by omega)
  exact ⟨by omega, fun _ => ⟨T', h5, h6⟩, by omega, by omega, by omega⟩
 | sno h => intro M q e; cases e; exact ⟨by omega, by omega, by omega, by omega, fun _ i0 T h1 h2 => ⟨T, h1, h2⟩⟩
 | @sok q q' L R r h h1 h2 ih1 ih2 =>
  intro M p e
  obtain ⟨T1, x, m, e1, h3, h4⟩ := (ih1 _ _ rfl).1 (.inr rfl)
  refine ⟨by omega, by omega, by omega, by omega, fun _ i0 T h5 h6 => ?_⟩
  refine (ih2 M p e).2.2.2.2 rfl i0 (T ++ 43 :: grp x T1) ?_ ?_
  ·rw [e1] at h3 ⊢
   exact .pr (x := ndP) ⟨rfl, rfl, rfl⟩ (h5.app _) h3
  ·simp only [List.length_cons, List.length_append]
   omega
 | ser h h1 ih => intro M q e; cases e
end Go.Proofs.YtbamkklhkhglnaaGreatDoor.PeB
namespace Go.Proofs.YtbamkklhkhglnaaGreatDoor.PeC
open Go.RowKit Go.Lib Go.Proofs.YtbamkklhkhglnaaGreatDoor LbC LbD LbE LbF LbP LbN PeA PeB TxA TxB TxC TrA

theorem rowN_no {t : List UInt8} (h : (rowN t).isSome = true) : (125 : UInt8) ∉ t := by
 unfold rowN at h
 rw [List.find?_isSome] at h
 obtain ⟨r, hr, e⟩ := h
 have e : r.nm = t := by simpa using e
 rw [← e]
 have key : ∀ r ∈ tab, (125 : UInt8) ∉ r.nm := by decide +kernel
 exact key r hr
theorem join_no {c d : UInt8} {e : List UInt8} (hd : c ≠ d) (he : c ∉ e) (l : List (List UInt8)) (hl : ∀ x ∈ l, c ∉ x) : c ∉ join l (d :: e) := by
 intro hm
 match l with
 | [] => simp [join_nil] at hm
 | x :: l =>
  rw [join_cons] at hm
  rcases List.mem_append.1 hm with hm | hm
  ·exact hl x (by simp) hm
  ·unfold joinTail at hm
   obtain ⟨y, hy, hc⟩ := List.mem_flatten.1 hm
   obtain ⟨z, hz, rfl⟩ := List.mem_map.1 hy
   rcases List.mem_append.1 hc with hc | hc
   ·rcases List.mem_cons.1 hc with hc | hc
    ·exact hd hc
    ·exact he hc
   ·exact hl z (by simp [hz]) hc
theorem ordT_93 {os : List Int} (hp : Prs os) : (93 : UInt8) ∉ ordT os := by
 intro hm
 unfold ordT at hm
 split at hm
 ·exact absurd hm (by decide)
 ·refine join_no (by decide) (by decide) _ (fun x hx hc => ?_) hm
  obtain ⟨o, ho, rfl⟩ := List.mem_map.1 hx
  rcases mem_dT (hp o ho) hc with e | e | e | e <;> exact absurd e (by decide)
theorem rel_93 {n : Nat} {os : List Int} {r : Rl} (hn : n ≤ 100) (ho : os.length = n) (hp : Prs os) (hr : WR n r) : (93 : UInt8) ∉ relT os r := by
 obtain ⟨b, e, hb⟩ := byT_one hn ho hp hr
 have hj := ltr_nat (i := r.j) (by have := hr.j; omega)
 unfold relT
 rw [e]
 simp only [List.mem_cons, List.cons_append, List.nil_append, not_or]
 refine ⟨u8_ne (by rw [hj]; show 93 ≠ _; omega), by decide, ?_, by decide, fun h => ?_⟩
 ·rcases hb with h | h | h | h | h
  ·rw [h]; decide
  ·rw [h]; decide
  ·rw [h]; decide
  ·rw [h]; decide
  ·exact u8_ne (by show 93 ≠ _; omega)
 ·rcases mem_wtx (by rw [hr.v]; omega) h with h | ⟨h, _⟩
  ·exact absurd h (by decide)
  ·exact absurd h (by decide)
theorem grpT_no {t : List UInt8} (h : GrpT t) : (93 : UInt8) ∉ t := by
 obtain ⟨p, hv, _, rfl⟩ := h
 have hg := hv.ok.gd
 have h6 := hg.n6
 unfold txt
 refine join_no (by decide) (by decide) _ fun x hx => ?_
 rcases List.mem_cons.1 hx with rfl | hx
 ·exact ordT_93 hg.pr
 ·obtain ⟨r, hr, rfl⟩ := List.mem_map.1 hx
  exact rel_93 (by omega) hg.sh.os hg.pr (rels_ok hg.sh r hr).1
def At (t : List UInt8) (i : Nat) (a : List UInt8) : Prop := ∀ k, k < a.length → t[i + k]? = a[k]?
theorem At.left {t a b : List UInt8} {i : Nat} (h : At t i (a ++ b)) : At t i a := fun k hk => by rw [h k (by rw [List.length_append]; omega), List.getElem?_append_left hk]
theorem At.right {t a b : List UInt8} {i : Nat} (h : At t i (a ++ b)) : At t (i + a.length) b := fun k hk => by
 rw [Nat.add_assoc, h (a.length + k) (by rw [List.length_append]; omega), List.getElem?_append_right (by omega)]
 congr 1
 omega
theorem At.head {t a : List UInt8} {c : UInt8} {i : Nat} (h : At t i (c :: a)) : t[i]? = some c := h 0 (by simp)
theorem At.tail {t a : List UInt8} {c : UInt8} {i : Nat} (h : At t i (c :: a)) : At t (i + 1) a := fun k hk => by
 have := h (k + 1) (by rw [List.length_cons]; omega)
 rw [List.getElem?_cons_succ] at this
 rw [← this]
 congr 1
 omega
theorem At.sub {t a : List UInt8} {i : Nat} (h : At t i a) : PeA.sub t i (i + a.length) = a := by
 unfold PeA.sub
 apply List.ext_getElem?
 intro k
 by_cases hk : k < a.length
 ·rw [List.getElem?_take_of_lt (by omega), List.getElem?_drop, h k hk]
 ·rw [List.getElem?_eq_none (by rw [List.length_take]; omega), List.getElem?_eq_none (by omega)]
theorem At.clo {t a : List UInt8} {c : UInt8} {i : Nat} (h : At t i (a ++ [c])) (hn : c ∉ a) : PeA.clo t c i = some (i + a.length) := by
 refine clo_mk (by omega) h.right.head fun k h1 h2 e => hn ?_
 have := h.left (k - i) (by omega)
 rw [show i + (k - i) = k by omega, e] at this
 exact List.mem_of_getElem? this.symm
theorem nd_eq {x : Nd} {k : Int} (h1 : x.k = k) (h2 : mk x = []) : ndB k (tx x) = x := by
 obtain ⟨k', ⟨⟨t⟩⟩, ⟨⟨m⟩⟩⟩ := x
 cases h1
 cases h2
 rfl
theorem ndM_eq {x : Nd} (h : nd4 x.k (tx x) (mk x)) : ∃ c, mk x = [c] ∧ isMk [c] = true ∧ ndM x.k c = x := by
 obtain ⟨k', ⟨⟨t⟩⟩, ⟨⟨m⟩⟩⟩ := x
 obtain ⟨h0, h1, h2⟩ := h
 cases h1
 have : m = [90] ∨ m = [68] ∨ m = [70] := by simpa [isMk, or_assoc] using h2
 rcases this with rfl | rfl | rfl <;> exact ⟨_, rfl, by decide, rfl⟩
theorem ndP_eq {x : Nd} (h : nd3 x.k (tx x) (mk x)) : ndP = x := by
 obtain ⟨k', ⟨⟨t⟩⟩, ⟨⟨m⟩⟩⟩ := x
 obtain ⟨h0, h1, h2⟩ := h
 cases h0
 cases h1
 cases h2
 rfl
def Bk (M : List Nd) (x : Nd) (T : List UInt8) : Prop := ∀ t i, At t i T →
 (x.k ≠ 3 → ∀ r, Rds t 3 M (i + T.length) r → Rds t 1 [] i r) ∧
 (t[i + T.length]? ≠ some 47 → ∀ r, Rds t 4 M (i + T.length) r → Rds t 2 [] i r)
theorem Bk.of {M : List Nd} {x : Nd} {T : List UInt8} (h : ∀ t i, At t i T → ∀ r, Rds t 3 M (i + T.length) r → Rds t 1 [] i r) : Bk M x T := fun t i ht =>
 ⟨fun _ => h t i ht, fun hn r hr => .dok (h t i ht _ (.qno hn)) hr⟩
theorem Bk.grp {M : List Nd} {x : Nd} {T : List UInt8} (h : Bk M x T) {t : List UInt8} {i : Nat} (ht : At t i (PeB.grp x T)) {r : Rd} (hr : Rds t 3 M (i + (PeB.grp x T).length) r) : Rds t 1 [] i r := by
 by_cases hk : x.k = 3
 ·have e : PeB.grp x T = 40 :: (T ++ [41]) := if_pos hk
  rw [e] at ht hr
  have h1 := ht.head
  have h2 := ht.tail.left
  have h3 := ht.tail.right.head
  have h4 := (h t (i + 1) h2).2 (by rw [h3]; decide) _ (.sno (by rw [h3]; decide))
  have e2 : i + (40 :: (T ++ [41])).length = i + 1 + T.length + 1 := by simp only [List.length_cons, List.length_append, List.length_nil]; omega
  rw [e2] at hr
  exact .tok (.fpo h1 (.pok h4 h3)) hr
 ·have e : PeB.grp x T = T := if_neg hk
  rw [e] at ht hr
  exact (h t i ht).1 hk r hr
theorem Prn.back {L e : List Nd} {T : List UInt8} (h : Prn L T e) : ∃ x m, L = x :: (m ++ e) ∧ Bk (x :: m) x T := by
 induction h with
 | @lf x r h =>
  refine ⟨x, [], rfl, .of fun t i ht q hq => ?_⟩
  rcases h with h | h | h
  ·have e : leaf x = 123 :: (tx x ++ [125]) := if_pos h.1
   rw [e] at ht hq
   have hc := ht.tail.clo (rowN_no h.2.1)
   have hs := ht.tail.left.sub
   have hx := nd_eq h.1 h.2.2
   have ho : 0 ≤ (ndB 0 (PeA.sub t (i + 1) (i + 1 + (tx x).length))).ops := by rw [hs, hx, ops_0 (.inl h)]; omega
   have h1 := Rds.fbr (.inl ⟨rfl, rfl, rfl⟩) ht.head hc ho
   rw [hs, hx] at h1
   refine .tok h1 ?_
   rw [show i + (123 :: (tx x ++ [125])).length = i + 1 + (tx x).length + 1 by simp only [List.length_cons, List.length_append, List.length_nil]; omega] at hq
   exact hq
  ·have e : leaf x = 91 :: (tx x ++ [93]) := by unfold leaf; rw [if_neg (by have := h.1; omega), if_pos h.1]
   rw [e] at ht hq
   have hc := ht.tail.clo (grpT_no h.2.1)
   have hs := ht.tail.left.sub
   have hx := nd_eq h.1 h.2.2
   have ho : 0 ≤ (ndB 1 (PeA.sub t (i + 1) (i + 1 + (tx x).length))).ops := by rw [hs, hx, ops_0 (.inr (.inl h))]; omega
   have h1 := Rds.fbr (.inr ⟨rfl, rfl, rfl⟩) ht.head hc ho
   rw [hs, hx] at h1
   refine .tok h1 ?_
   rw [show i + (91 :: (tx x ++ [93])).length = i + 1 + (tx x).length + 1 by simp only [List.length_cons, List.length_append, List.length_nil]; omega] at hq
   exact hq
  ·have e : leaf x = tx x := by unfold leaf; rw [if_neg (by have := h.1; omega), if_neg (by have := h.1; omega)]
   rw [e] at ht hq
   obtain ⟨c, hc, hl⟩ : ∃ c, tx x = [c] ∧ isLt [c] = true := by
    have h2 := h.2.1
    cases hT : tx x with
    | nil => rw [hT] at h2; exact absurd h2 (by decide)
    | cons c l =>
     cases l with
     | nil => rw [hT] at h2; exact ⟨c, rfl, h2⟩
     | cons d l => rw [hT] at h2; exact absurd h2 (by simp [isLt])
   have hx := nd_eq h.1 h.2.2
   rw [hc] at ht hq hx
   have h1 := Rds.flt ht.head hl
   rw [hx] at h1
   exact .tok h1 hq
 | @pr x y r m e a b h h1 h2 ih1 ih2 =>
  obtain ⟨x1, m1, e1, b1⟩ := ih1
  obtain ⟨x2, m2, e2, b2⟩ := ih2
  refine ⟨x, x1 :: (m1 ++ (x2 :: m2)), by rw [e1, e2]; simp, fun t i ht => ⟨fun hk => absurd h.1 hk, fun hn q hq => ?_⟩⟩
  obtain ⟨rfl, -⟩ := List.cons.inj e2
  have h3 := ht.left
  have h4 := ht.right.head
  have h5 := ht.right.tail
  refine (b1 t i h3).2 (by rw [h4]; decide) q ?_
  have el : i + (a ++ 43 :: PeB.grp y b).length = i + a.length + 1 + (PeB.grp y b).length := by simp only [List.length_cons, List.length_append]; omega
  rw [el] at hn hq
  refine .sok h4 (b2.grp h5 (.qno hn)) ?_
  rw [ndP_eq h]
  simpa using hq
 | @qt x y r e a h hk h1 ih =>
  obtain ⟨x1, m1, e1, b1⟩ := ih
  obtain ⟨rfl, e2⟩ := List.cons.inj e1
  obtain ⟨c, hc, hm, hx⟩ := ndM_eq h
  refine ⟨x, y :: m1, by rw [e2]; rfl, .of fun t i ht q hq => ?_⟩
  rw [hc] at ht hq
  have el : i + (PeB.grp y a ++ 47 :: [c]).length = i + (PeB.grp y a).length + 2 := by simp only [List.length_cons, List.length_append, List.length_nil]; omega
  rw [el] at hq
  rw [hk] at hx
  refine b1.grp ht.left (.qok ht.right.head ht.right.tail.head hm ?_)
  rw [hx]
  exact hq
 | @pt x r e a h hk h1 ih =>
  obtain ⟨x1, m1, e1, b1⟩ := ih
  obtain ⟨c, hc, hm, hx⟩ := ndM_eq h
  refine ⟨x, x1 :: m1, by rw [e1]; rfl, .of fun t i ht q hq => ?_⟩
  rw [hc] at ht hq
  have el : i + ([c] ++ 40 :: (a ++ [41])).length = i + 2 + a.length + 1 := by simp only [List.length_cons, List.length_append, List.length_nil]; omega
  rw [el] at hq
  rw [hk] at hx
  have h2 : At t (i + 1) (40 :: (a ++ [41])) := ht.tail
  have h3 : At t (i + 2) (a ++ [41]) := h2.tail
  have h4 := (b1 t (i + 2) h3.left).2 (by rw [h3.right.head]; decide) _ (.sno (by rw [h3.right.head]; decide))
  have h5 := Rds.fmk ht.head hm h2.head (.pok h4 h3.right.head)
  rw [hx] at h5
  exact .tok h5 hq
theorem Prn.read {L : List Nd} {T : List UInt8} (h : Prn L T []) : Rds T 2 [] 0 (.ok (L, T.length)) := by
 obtain ⟨x, m, e, b⟩ := Prn.back h
 rw [List.append_nil] at e
 have hn : T[0 + T.length]? = none := List.getElem?_eq_none (by omega)
 have := (b T 0 (fun k _ => by rw [Nat.zero_add])).2 (by rw [hn]; simp) _ (.sno (by rw [hn]; simp))
 rw [Nat.zero_add, ← e] at this
 exact this
end Go.Proofs.YtbamkklhkhglnaaGreatDoor.PeC
namespace Go.Proofs.YtbamkklhkhglnaaGreatDoor.PeD
open Go.Proofs.YtbamkklhkhglnaaGreatDoor.ImplB (grown_below)
open Go.RowKit Go.Lib Go.Proofs.YtbamkklhkhglnaaGreatDoor Tow CyA CyB LbC LbD LbN PeA

def RdA (w : World) (g : Nat) (s : ByteArray) (i : Nat) : Prop := w.heap[g]? = some (.cells #[.string s, .int .i64 (i : Int)] 52 (0, 0))
theorem RdA.cells {w : World} {g i : Nat} {s : ByteArray} (h : RdA w g s i) : (w.cell? ⟨g, 0, none⟩ = some (.string s) ∧ w.cell? ⟨g, 1, none⟩ = some (.int .i64 (i : Int))) ∧ w.frozen? ⟨g, 1, none⟩ = false ∧ g < w.heap.size :=
 ⟨⟨(cell_of_row _ _ _ _ _ _ h).trans rfl, (cell_of_row _ _ _ _ _ _ h).trans rfl⟩, by simp [World.frozen?, show w.heap[g]? = _ from h], (Array.getElem?_eq_some_iff.1 h).1⟩
theorem RdA.set {w : World} {g i : Nat} {s : ByteArray} (h : RdA w g s i) (j : Nat) : RdA (w.setCell ⟨g, 1, none⟩ (.int .i64 (j : Int))) g s j := heap_setCell_same w g 1 _ _ _ h
theorem RdA.below {w w' : World} {g i : Nat} {s : ByteArray} (h : RdA w g s i) (hb : Below w.heap.size w w') : RdA w' g s i := blk' hb (Array.getElem?_eq_some_iff.1 h).1 h
theorem RdA.drew {w : World} {g i : Nat} {s : ByteArray} (h : RdA w g s i) : RdA w.drew g s i := h
abbrev bs (s : ByteArray) : List UInt8 := s.data.toList
theorem bs_len (s : ByteArray) : (bs s).length = s.size := by simp
theorem bs_get {s : ByteArray} {i : Nat} (h : i < s.size) : (bs s)[i]? = some s[i] := by
 rw [List.getElem?_eq_getElem (by simpa using h)]
 rfl
def nx (t : List UInt8) (i : Nat) : UInt8 := t[i]?.getD 0
def NxR (c : UInt8) (w : World) (e : Ending) (w' : World) : Prop := e = .returned (.int .u8 (c.toNat : Int)) ∧ Below w.heap.size w w'
theorem next_any (w : World) (g i : Nat) (s : ByteArray) (hA : RdA w g s i) (hi : i ≤ s.size) :
  Calls Tryz.prog 75 #[.pointer (some ⟨g, 0, none⟩)] w (NxR (nx (bs s) i) w) := by
 obtain ⟨⟨c0, c1⟩, f1, hgl⟩ := hA.cells
 have HA := hid hA
 clear hA
 by_cases he : i = s.size
 ·have hN := hid (show nx (bs s) i = 0 by unfold nx; rw [List.getElem?_eq_none (by rw [bs_len]; omega)]; rfl)
  have hei : ((i : Int) == (s.size : Int)) = true := by rw [he]; simp
  clear he
  go_enter Tryz.func75, Tryz.ntmps75
  go_wp2_with fail
  go_region_held3 (fun w' => (∀ b o, b < w.heap.size → w'.cell? ⟨b, o, none⟩ = w.cell? ⟨b, o, none⟩) ∧ Keep (fun _ => True) w w')
   (first | exact ks_mk (by repeat (first | exact (Keep.refl _ _).drew | exact Keep.refl _ _)))
   (fail)
  rename_i hHd
  clear hHd
  go_wp2_with fail
  go_ret
  rw [hN.out]
  exact ⟨rfl, (Below.refl _ _).drew⟩
 ·have hl : i < s.size := by omega
  have hN := hid (show nx (bs s) i = s[i] by unfold nx; rw [bs_get hl]; rfl)
  have hei : ((i : Int) == (s.size : Int)) = false := beq_eq_false_iff_ne.2 (by omega)
  have hli : (i : Int) < (s.size : Int) := by omega
  clear he
  go_enter Tryz.func75, Tryz.ntmps75
  go_wp2_with fail
  go_region_held3 (fun w' => (∀ b o, b < w.heap.size → w'.cell? ⟨b, o, none⟩ = w.cell? ⟨b, o, none⟩) ∧ Keep (fun _ => True) w w')
   (first | exact ks_mk (by repeat (first | exact (Keep.refl _ _).drew | exact Keep.refl _ _)))
   (fail)
  rename_i hHd
  clear hHd
  obtain ⟨wb, hwb⟩ : ∃ wb, w.drew = wb := ⟨_, rfl⟩
  simp only [hwb]
  have HB := hid (show RdA wb g s i ∧ Below w.heap.size w wb by rw [← hwb]; exact ⟨HA.out.drew, (Below.refl _ _).drew⟩)
  clear hwb c0 c1 f1 hgl
  obtain ⟨⟨c0, c1⟩, f1, hgl⟩ := HB.out.1.cells
  go_wp2_with fail
  go_region_held3 (fun w' => (∀ b o, b < wb.heap.size → w'.cell? ⟨b, o, none⟩ = wb.cell? ⟨b, o, none⟩) ∧ Keep (fun _ => True) wb w')
   (first | exact ks_mk (by repeat (first | exact (Keep.refl _ _).drew | exact Keep.refl _ _)))
   (fail)
  rename_i hHd
  clear hHd
  go_wp2_with fail
  go_ret
  rw [hN.out]
  exact ⟨rfl, HB.out.2.drew⟩
def TkR (b : Bool) (g : Nat) (s : ByteArray) (j : Nat) (w : World) (e : Ending) (w' : World) : Prop := e = .returned (.bool b) ∧ RdA w' g s j ∧ w.grownBy w' (some g)
theorem take_yes (w : World) (g i : Nat) (s : ByteArray) (hA : RdA w g s i) (hs : s.size ≤ 100000000) (c : UInt8) (hc : (bs s)[i]? = some c) :
  Calls Tryz.prog 42 #[.pointer (some ⟨g, 0, none⟩), .int .u8 (c.toNat : Int)] w (TkR true g s (i + 1) w) := by
 obtain ⟨⟨c0, c1⟩, f1, hgl⟩ := hA.cells
 have hl : i < s.size := by have := (List.getElem?_eq_some_iff.1 hc).1; rwa [bs_len] at this
 have hcs : s[i] = c := by rw [bs_get hl] at hc; exact Option.some.inj hc
 have HA := hid hA
 have hwi : IntKind.i64.wrap ((i : Int) + 1) = (i : Int) + 1 := IntWalk.i64_in _ (by omega)
 have hei : ((i : Int) == (s.size : Int)) = false := beq_eq_false_iff_ne.2 (by omega)
 have hli : (i : Int) < (s.size : Int) := by omega
 clear hA hc hs
 go_enter Tryz.func42, Tryz.ntmps42
 go_wp2_with fail
 go_region_held3 (fun w' => (∀ b o, b < w.heap.size → w'.cell? ⟨b, o, none⟩ = w.cell? ⟨b, o, none⟩) ∧ Keep (fun _ => True) w w')
  (first | exact ks_mk (by repeat (first | exact (Keep.refl _ _).drew | exact Keep.refl _ _)))
  (fail)
 rename_i hHd
 clear hHd
 go_wp2_with fail
 go_ret
 exact ⟨rfl, (HA.out.drew).set (i + 1), gr_set (gr_drew (gr_refl _ _)) _⟩
theorem take_no (w : World) (g i : Nat) (s : ByteArray) (hA : RdA w g s i) (hi : i ≤ s.size) (c : UInt8) (hc : (bs s)[i]? ≠ some c) :
  Calls Tryz.prog 42 #[.pointer (some ⟨g, 0, none⟩), .int .u8 (c.toNat : Int)] w (TkR false g s i w) := by
 obtain ⟨⟨c0, c1⟩, f1, hgl⟩ := hA.cells
 have HA := hid hA
 clear hA
 by_cases he : i = s.size
 ·subst he
  clear hc hi
  go_enter Tryz.func42, Tryz.ntmps42
  go_wp2_with fail
  go_region
  go_wp2_with fail
  go_ret
  exact ⟨rfl, HA.out.drew, gr_drew (gr_refl _ _)⟩
 ·have hl : i < s.size := by omega
  have hne : s[i] ≠ c := fun e => hc (by rw [bs_get hl, e])
  have hcs : ((s[i].toNat : Int) == (c.toNat : Int)) = false := beq_eq_false_iff_ne.2 (fun e => hne (UInt8.toNat_inj.1 (by omega)))
  have hei : ((i : Int) == (s.size : Int)) = false := beq_eq_false_iff_ne.2 (by omega)
  have hli : (i : Int) < (s.size : Int) := by omega
  clear he hc hi hne
  go_enter Tryz.func42, Tryz.ntmps42
  go_wp2_with fail
  go_region_held3 (fun w' => (∀ b o, b < w.heap.size → w'.cell? ⟨b, o, none⟩ = w.cell? ⟨b, o, none⟩) ∧ Keep (fun _ => True) w w')
   (first | exact ks_mk (by repeat (first | exact (Keep.refl _ _).drew | exact Keep.refl _ _)))
   (fail)
  rename_i hHd
  clear hHd
  go_wp2_with fail
  go_ret
  exact ⟨rfl, HA.out.drew, gr_drew (gr_refl _ _)⟩
theorem one_str (c : UInt8) (g : Nat) (w' : World) (h : w'.cell? ⟨g, 0, none⟩ = some (.int .u8 (c.toNat : Int))) :
  (convert 22 9 (.slice (some ⟨g, 0, none⟩) 1 1)).run Tryz.prog w' = .ok (.string (ba [c])) w' := by
 refine run_convert_bytes_back (P := Tryz.prog) w' 22 9 5 ⟨g, 0, none⟩ 1 [c] Tryz.underlying22 Tryz.underlying5 Tryz.underlying9 ?_
 intro i hi
 have hi0 : i = 0 := by simp at hi; omega
 subst hi0
 rw [show (Addr.add ⟨g, 0, none⟩ 0) = ⟨g, 0, none⟩ by simp [Addr.add], h]
 simp
theorem one_new (c : UInt8) (w : World) : (convert 22 9 (.slice (some ⟨w.heap.size, 0, none⟩) 1 1)).run Tryz.prog (w.alloc (.cells #[.int .u8 (c.toNat : Int)] 5)) = .ok (.string (ba [c])) (w.alloc (.cells #[.int .u8 (c.toNat : Int)] 5)) :=
 one_str c _ _ ((cell_of_row _ _ _ _ _ _ (World.alloc_heap_new w _)).trans rfl)
def MkR (t : List UInt8) (b : Bool) (g : Nat) (s : ByteArray) (j : Nat) (w : World) (e : Ending) (w' : World) : Prop := e = .returned (.tuple #[.string (ba t), .bool b]) ∧ RdA w' g s j ∧ w.grownBy w' (some g)
theorem mark_any (w : World) (g i : Nat) (s : ByteArray) (hA : RdA w g s i) (hi : i ≤ s.size) (hs : s.size ≤ 100000000) :
  Calls Tryz.prog 53 #[.pointer (some ⟨g, 0, none⟩)] w (if isMk [nx (bs s) i] = true then MkR [nx (bs s) i] true g s (i + 1) w else MkR [] false g s i w) := by
 have HNX := hid (next_any w g i s hA hi)
 have HMK := hid (fun W => imk_any (ba [nx (bs s) i]) W)
 have HA := hid hA
 have hwi : IntKind.i64.wrap ((i : Int) + 1) = (i : Int) + 1 := IntWalk.i64_in _ (by omega)
 obtain ⟨c, hc⟩ : ∃ c, nx (bs s) i = c := ⟨_, rfl⟩
 rw [hc] at HNX HMK ⊢
 clear hA hs hi hc
 have hcl : (ba [c]).data.toList = [c] := rfl
 rw [hcl] at HMK
 clear hcl
 cases hm : isMk [c] with
 | false =>
  rw [if_neg (by simp)]
  rw [hm] at HMK
  clear hm
  go_enter Tryz.func53, Tryz.ntmps53
  go_wp2_with (first | (go_at_call 75; refine HNX.out.mono ?_; rintro e w1 ⟨rfl, hb1⟩; have hcv := one_new c w1; have HB1 := hid hb1; clear hb1) | (go_at_call 60; refine (HMK.out _).mono ?_; rintro e w2 ⟨rfl, rfl⟩))
  refine bodyPost_ret (v := .tuple #[.string (ba []), .bool false]) (by simp [results, Tryz.results53, go_sem, ba]) rfl ?_
  have hb2 := HB1.out.alloc HB1.out.size (.cells #[.int .u8 (c.toNat : Int)] 5)
  exact ⟨rfl, HA.out.below hb2, grown_below hb2⟩
 | true =>
  rw [if_pos rfl]
  rw [hm] at HMK
  clear hm
  go_enter Tryz.func53, Tryz.ntmps53
  go_wp2_with (first | (go_at_call 75; refine HNX.out.mono ?_; rintro e w1 ⟨rfl, hb1⟩; have hcv := one_new c w1; have HB1 := hid hb1; clear hb1; have hb2 := hid (HB1.out.alloc HB1.out.size (.cells #[.int .u8 (c.toNat : Int)] 5)); have HR := hid (HA.out.below hb2.out); obtain ⟨⟨c0, c1⟩, f1, hgl⟩ := HR.out.cells) | (go_at_call 60; refine (HMK.out _).mono ?_; rintro e w2 ⟨rfl, rfl⟩))
  refine bodyPost_ret (v := .tuple #[.string (ba [c]), .bool true]) (by simp [results, Tryz.results53, go_sem]) rfl ?_
  exact ⟨rfl, HR.out.set (i + 1), gr_set (grown_below hb2.out) _⟩
end Go.Proofs.YtbamkklhkhglnaaGreatDoor.PeD
namespace Go.Proofs.YtbamkklhkhglnaaGreatDoor.PeE
open Go.Proofs.YtbamkklhkhglnaaGreatDoor.ImplB (grown_below)
open Go.RowKit Go.Lib Go.Proofs.YtbamkklhkhglnaaGreatDoor Tow CyA CyB LbC LbD LbI LbN PeA PeD TrA

structure NdN (B : Nat) (W : World) (v : Value) (L : List Nd) : Prop where
 form : ∃ a c, v = .slice a L.length c
 none_ : L = [] → v = .slice none 0 0
 cap_ : ∀ a n c, v = .slice a n c → n ≤ c
 at_ : ∀ i x, L[i]? = some x → ∃ b o c, v = .slice (some ⟨b, o, none⟩) L.length c ∧ B ≤ b ∧ b < W.heap.size ∧ W.cell? ⟨b, o + i * 3, none⟩ = some (.int .i64 x.k) ∧ W.cell? ⟨b, o + i * 3 + 1, none⟩ = some (.string x.t) ∧ W.cell? ⟨b, o + i * 3 + 2, none⟩ = some (.string x.m)
theorem NdN.nds {B : Nat} {W : World} {v : Value} {L : List Nd} (h : NdN B W v L) : NdS W v L := ⟨h.form, fun i x hx => by
 obtain ⟨b, o, c, h1, _, h2, h3⟩ := h.at_ i x hx
 exact ⟨b, o, c, h1, h2, h3⟩⟩
theorem NdN.grown {B g : Nat} {W W' : World} {v : Value} {L : List Nd} (h : NdN B W v L) (hg : W.grownBy W' (some g)) (hB : g < B) : NdN B W' v L := ⟨h.form, h.none_, h.cap_, fun i x hx => by
 obtain ⟨b, o, c, h1, h0, h2, h3, h4, h5⟩ := h.at_ i x hx
 have e : ∀ j, W'.cell? ⟨b, j, none⟩ = W.cell? ⟨b, j, none⟩ := fun j => (Keep.grown hg (S := fun k => k ≠ g) (fun k hk e => hk (by injection e))).cell (by omega) h2
 exact ⟨b, o, c, h1, h0, Nat.lt_of_lt_of_le h2 hg.size, (e _).trans h3, (e _).trans h4, (e _).trans h5⟩⟩
theorem NdN.nil (B : Nat) (W : World) : NdN B W (.slice none 0 0) [] := ⟨⟨none, 0, rfl⟩, fun _ => rfl, (fun a n c e => by cases e; exact Nat.le_refl _), fun i x h => by simp at h⟩
theorem NdN.one {B : Nat} (W : World) (hB : B ≤ W.heap.size) (x : Nd) : NdN B (W.alloc (.cells #[.int .i64 x.k, .string x.t, .string x.m] 63)) (.slice (some ⟨W.heap.size, 0, none⟩) 1 1) [x] := ⟨⟨_, _, rfl⟩, (fun h => by simp at h), (fun a n c e => by cases e; exact Nat.le_refl _), fun i y h => by
 have hr := World.alloc_heap_new W (.cells #[.int .i64 x.k, .string x.t, .string x.m] 63)
 obtain rfl : i = 0 := by
  cases i with
  | zero => rfl
  | succ i => simp at h
 obtain rfl : x = y := by simpa using h
 exact ⟨_, 0, _, rfl, hB, by simp, (cell_of_row _ _ _ _ _ _ hr).trans rfl, (cell_of_row _ _ _ _ _ _ hr).trans rfl, (cell_of_row _ _ _ _ _ _ hr).trans rfl⟩⟩
def FcR (r : Rd) (B g : Nat) (s : ByteArray) (i : Nat) (w : World) (e : Ending) (w' : World) : Prop := ∃ v L, e = .returned (.tuple #[v, .bool (!isErr r)]) ∧ NdN B w' v L ∧ RdA w' g s (endR r) ∧ w.grownBy w' (some g) ∧ (∀ M q, r = .ok (M, q) → L = M) ∧ L.length + i ≤ endR r ∧ endR r ≤ s.size
def FcP (n : Nat) (B g : Nat) (s : ByteArray) (i : Nat) (w : World) (e : Ending) (w' : World) : Prop := ∃ r, Rds (bs s) n [] i r ∧ FcR r B g s i w e w'
theorem idx_none {t : List UInt8} {d : UInt8} {i : Nat} (h : PeA.clo t d i = none) : indexByte (t.drop i) d = -1 := by
 unfold PeA.clo at h
 rw [Option.map_eq_none_iff, List.findIdx?_eq_none_iff] at h
 generalize t.drop i = l at h
 induction l with
 | nil => rfl
 | cons b l ih =>
  have hb := h b (by simp)
  unfold indexByte
  rw [if_neg (by simpa using hb), ih (fun x hx => h x (by simp [hx]))]
  rfl
theorem idx_some : ∀ {l : List UInt8} {d : UInt8} {m : Nat}, l.findIdx? (· == d) = some m → indexByte l d = (m : Int) := by
 intro l
 induction l with
 | nil => intro d m h; simp at h
 | cons b l ih =>
  intro d m h
  unfold indexByte
  rw [List.findIdx?_cons] at h
  by_cases hb : (b == d) = true
  ·rw [if_pos hb] at h ⊢
   obtain rfl := Option.some.inj h
   rfl
  ·rw [if_neg hb] at h ⊢
   rw [Option.map_eq_some_iff] at h
   obtain ⟨k, hk, rfl⟩ := h
   rw [ih hk, if_neg (by simp)]
   rfl
theorem idx_clo {t : List UInt8} {d : UInt8} {i j : Nat} (h : PeA.clo t d i = some j) : indexByte (t.drop i) d = ((j - i : Nat) : Int) := by
 unfold PeA.clo at h
 rw [Option.map_eq_some_iff] at h
 obtain ⟨m, hm, rfl⟩ := h
 rw [idx_some hm]
 congr 1
 omega
theorem clo_skip {t : List UInt8} {c d : UInt8} {i : Nat} (h : t[i]? = some c) (hne : c ≠ d) : PeA.clo t d i = PeA.clo t d (i + 1) := by
 cases h1 : PeA.clo t d (i + 1) with
 | some j =>
  obtain ⟨h2, h3, h4, h5⟩ := clo_some h1
  refine clo_mk (by omega) h4 fun k hk1 hk2 => ?_
  by_cases e : k = i
  ·subst e; rw [h]; simpa using hne
  ·exact h5 k (by omega) hk2
 | none =>
  cases h2 : PeA.clo t d i with
  | none => rfl
  | some j =>
   obtain ⟨h3, h4, h5, h6⟩ := clo_some h2
   have hj : j ≠ i := fun e => by subst e; rw [h] at h5; exact hne (Option.some.inj h5)
   rw [clo_mk (i := i + 1) (by omega) h5 fun k hk1 hk2 => h6 k (by omega) hk2] at h1
   cases h1
theorem brk_any (w : World) (B g i : Nat) (s : ByteArray) (hv : Vars w) (hA : RdA w g s i) (hg : g < B) (hB : B ≤ w.heap.size) (hs : s.size ≤ 100000000) (c d : UInt8) (k : Int) (hb : Bra c d k) (hc : (bs s)[i]? = some c) :
  Calls Tryz.prog 76 #[.pointer (some ⟨g, 0, none⟩), .int .u8 (d.toNat : Int), .int .i64 k] w
   (FcP 0 B g s i w) := by
 obtain ⟨⟨c0, c1⟩, f1, hgl⟩ := hA.cells
 have HA := hid hA
 have hl : i < s.size := by have := (List.getElem?_eq_some_iff.1 hc).1; rwa [bs_len] at this
 have hcd : c ≠ d := by rcases hb with ⟨rfl, rfl, _⟩ | ⟨rfl, rfl, _⟩ <;> decide
 have hsk := clo_skip hc hcd
 have HIX := hid (fun (u : ByteArray) (W : World) => Tryz.strings_IndexByte u (d.toNat : Int) W)
 clear hA hcd
 cases hj : PeA.clo (bs s) d (i + 1) with
 | none =>
  rw [hj] at hsk
  have hix : indexByte (List.take (s.size - i) (List.drop i s.data.toList)) d = -1 := by
   rw [List.take_of_length_le (by simp)]
   exact idx_none hsk
  have HR := hid (show Rds (bs s) 0 [] i (.error i) from .fbn hb hc hj)
  have hi0 : (0 : Int) ≤ (i : Int) := by omega
  have his : (i : Int) ≤ (s.size : Int) := by omega
  clear hb hc hj hsk
  go_enter Tryz.func76, Tryz.ntmps76
  go_wp2_with fail
  go_region_held3 (fun w' => (∀ b o, b < w.heap.size → w'.cell? ⟨b, o, none⟩ = w.cell? ⟨b, o, none⟩) ∧ Keep (fun _ => True) w w')
   (first | exact ks_mk (by repeat (first | exact (Keep.refl _ _).drew | exact Keep.refl _ _)))
   (first | (go_at_call 93; refine (HIX.out _ _).mono ?_; rintro e w1 ⟨rfl, rfl⟩))
  rename_i hHd
  clear hHd
  go_wp2_with fail
  refine bodyPost_ret (v := .tuple #[.slice none 0 0, .bool false]) (by simp [results, Tryz.results76, go_sem]) rfl ?_
  exact ⟨_, HR.out, _, [], rfl, .nil _ _, HA.out.drew, gr_drew (gr_refl _ _), (fun M q e => by injection e), by simp [endR], by simp only [endR]; omega⟩
 | some j =>
  obtain ⟨h1, h2, h3, h4⟩ := clo_some hj
  rw [bs_len] at h2
  have hix : indexByte (List.take (s.size - i) (List.drop i s.data.toList)) d = ((j - i : Nat) : Int) := by
   rw [List.take_of_length_le (by simp)]
   exact idx_clo (hsk.trans hj)
  obtain ⟨x, hx⟩ : ∃ x, ndB k (sub (bs s) (i + 1) j) = x := ⟨_, rfl⟩
  have hex : s.extract (i + 1) j = x.t := by
   rw [← hx]
   apply ByteArray.ext
   apply Array.toList_inj.1
   show (s.extract (i + 1) j).data.toList = sub (bs s) (i + 1) j
   rw [extract_data]
   unfold PeA.sub
   rfl
  have hxk : k = x.k := by rw [← hx]; rfl
  have hxm : x.m = ba [] := by rw [← hx]; rfl
  have hxs : x.t.size ≤ 100000000 := by rw [← hex, ByteArray.size_extract]; omega
  obtain ⟨m, hm⟩ : ∃ m, j = i + m := ⟨j - i, by omega⟩
  subst hm
  rw [show i + m - i = m by omega] at hix
  have HOP := hid (fun (W : World) (hb : Below w.heap.size w W) => opi_any x.k x.t (ba []) hxs W (hv.below hb))
  have hi0 : (0 : Int) ≤ (i : Int) := by omega
  have his : (i : Int) ≤ (s.size : Int) := by omega
  have hm0 : ¬ (m : Int) < 0 := by omega
  have hw1 : IntKind.i64.wrap ((i : Int) + 1) = (i : Int) + 1 := IntWalk.i64_in _ (by omega)
  have hw2 : IntKind.i64.wrap ((i : Int) + (m : Int)) = (i : Int) + (m : Int) := IntWalk.i64_in _ (by omega)
  have hw3 : IntKind.i64.wrap ((m : Int) + 1) = (m : Int) + 1 := IntWalk.i64_in _ (by omega)
  have hw4 : IntKind.i64.wrap ((i : Int) + ((m : Int) + 1)) = (i : Int) + ((m : Int) + 1) := IntWalk.i64_in _ (by omega)
  have HRT := hid (show 0 ≤ x.ops → Rds (bs s) 0 [] i (.ok ([x], i + m + 1)) from fun ho => by rw [← hx]; exact .fbr hb hc hj (by rw [hx]; exact ho))
  have HRF := hid (show ¬ 0 ≤ x.ops → Rds (bs s) 0 [] i (.error i) from fun ho => .fbo hb hc hj (by rw [hx]; exact ho))
  have HMX := hid hxm
  subst hxk
  clear hb hc hj hsk hx h4 h3 hxm
  go_enter Tryz.func76, Tryz.ntmps76
  go_wp2_with fail
  go_region_held3 (fun w' => (∀ b o, b < w.heap.size → w'.cell? ⟨b, o, none⟩ = w.cell? ⟨b, o, none⟩) ∧ Keep (fun _ => True) w w')
   (first | exact ks_mk (by repeat (first | exact (Keep.refl _ _).drew | exact Keep.refl _ _)))
   (first | (go_at_call 93; refine (HIX.out _ _).mono ?_; rintro e w1 ⟨rfl, rfl⟩))
  rename_i hHd
  clear hHd
  obtain ⟨w1, hw1'⟩ : ∃ w1, w.drew = w1 := ⟨_, rfl⟩
  simp only [hw1']
  have HA1 := hid (show RdA w1 g s i ∧ Below w.heap.size w w1 by rw [← hw1']; exact ⟨HA.out.drew, (Below.refl _ _).drew⟩)
  clear hw1' c0 c1 f1 hgl
  obtain ⟨⟨c0, c1⟩, f1, hgl⟩ := HA1.out.1.cells
  go_wp2_with fail
  go_region
  obtain ⟨w2, hw2'⟩ : ∃ w2, (w1.alloc (.cells #[.int .i64 x.k, .string x.t, .string ⟨#[]⟩] 63)).drew = w2 := ⟨_, rfl⟩
  obtain ⟨g1, hg1⟩ : ∃ g1, w1.heap.size = g1 := ⟨_, rfl⟩
  simp only [hw2', hg1]
  have HB2 := hid (show Below w.heap.size w w2 by rw [← hw2']; exact (HA1.out.2.alloc HA1.out.2.size _).drew)
  have hrow : w2.heap[g1]? = some (.cells #[.int .i64 x.k, .string x.t, .string ⟨#[]⟩] 63 (0, 0)) := by rw [← hw2', ← hg1]; exact World.alloc_heap_new w1 _
  have HC := hid (fun (W : World) (hb : Below w2.heap.size w2 W) => show g1 < W.heap.size ∧ W.cell? ⟨g1, 0, none⟩ = some (.int .i64 x.k) ∧ W.cell? ⟨g1, 1, none⟩ = some (.string x.t) ∧ W.cell? ⟨g1, 2, none⟩ = some (.string ⟨#[]⟩) from by
   have hgl := (Array.getElem?_eq_some_iff.1 hrow).1
   have e := blk' hb hgl hrow
   exact ⟨Nat.lt_of_lt_of_le hgl hb.size, row3' e⟩)
  have HGG := hid (show g < g1 by rw [← hg1]; exact hgl)
  clear hrow hw2' c0 c1 f1 hgl hg1
  obtain ⟨hgl, q0, q1, q2⟩ := HC.out w2 (Below.refl _ _)
  have HQ := hid (show opnd x.k x.t.data.toList (ba []).data.toList = x.ops by unfold Nd.ops; rw [HMX.out])
  obtain ⟨q, hq⟩ : ∃ q, opnd x.k x.t.data.toList (ba []).data.toList = q := ⟨_, rfl⟩
  rw [hq] at HQ
  have HQE := hid hq
  clear hq
  by_cases hq0 : q < 0
  ·have HRF' := hid (HRF.out (by rw [← HQ.out]; omega))
   go_wp2_with (go_at_call 47; refine (HOP.out _ HB2.out).mono ?_; rintro e w3 ⟨rfl, hb3⟩; rw [HQE.out]; have HB3 := hid (HB2.out.trans (hb3.mono HB2.out.size)); clear hb3)
   refine bodyPost_ret (v := .tuple #[.slice none 0 0, .bool false]) (by simp [results, Tryz.results76, go_sem]) rfl ?_
   exact ⟨_, HRF'.out, _, [], rfl, .nil _ _, HA.out.below HB3.out, grown_below HB3.out, (fun M q e => by injection e), by simp [endR], by simp only [endR]; omega⟩
  ·have HRT' := hid (HRT.out (by rw [← HQ.out]; omega))
   go_upto_region 8 with (go_at_call 47; refine (HOP.out _ HB2.out).mono ?_; rintro e w3 ⟨rfl, hb3⟩; rw [HQE.out]; obtain ⟨hgl3, r0, r1, r2⟩ := HC.out _ hb3; have HB3 := hid (HB2.out.trans (hb3.mono HB2.out.size)); clear hb3 hgl q0 q1 q2; have HA3 := hid (HA.out.below HB3.out); obtain ⟨⟨c0, c1⟩, f1, hgl⟩ := HA3.out.cells)
   obtain ⟨w4, hw4⟩ : ∃ w4, w3.setCell ⟨g, 1, none⟩ (.int .i64 ((i : Int) + ((m : Int) + 1))) = w4 := ⟨_, rfl⟩
   simp only [hw4]
   have HA4 := hid (show RdA w4 g s (i + m + 1) by rw [← hw4, show (i : Int) + ((m : Int) + 1) = ((i + m + 1 : Nat) : Int) by push_cast; omega]; exact HA3.out.set (i + m + 1))
   have hg34 : w3.grownBy w4 (some g) := by rw [← hw4]; exact gr_set (gr_refl _ _) _
   have HG4 := hid (show w.grownBy w4 (some g) from gr_tr (grown_below HB3.out) hg34)
   have e34 : ∀ o, w4.cell? ⟨g1, o, none⟩ = w3.cell? ⟨g1, o, none⟩ := fun o => (Keep.grown hg34 (S := fun k => k ≠ g) (fun k hk e => hk (by injection e))).cell (by have := HGG.out; omega) hgl3
   rw [← e34] at r0 r1 r2
   have hgl4 := Nat.lt_of_lt_of_le hgl3 hg34.size
   clear hw4 c0 c1 f1 hgl hgl3 e34 hg34
   go_wp2_with fail
   refine bodyPost_ret (v := .tuple #[.slice (some ⟨w4.heap.size, 0, none⟩) 1 1, .bool true]) (by simp [results, Tryz.results76, go_sem]) rfl ?_
   have hN := NdN.one w4 (Nat.le_trans hB HG4.out.size) x
   rw [HMX.out] at hN
   have hb5 : Below w4.heap.size w4 (w4.alloc (.cells #[.int .i64 x.k, .string x.t, .string ⟨#[]⟩] 63)) := (Below.refl _ _).alloc (Nat.le_refl _) _
   exact ⟨_, HRT'.out, _, [x], rfl, hN, HA4.out.below hb5, gr_tr HG4.out (grown_below hb5), (fun M q e => by cases e; rfl), by simp [endR]; omega, by simp only [endR]; omega⟩
end Go.Proofs.YtbamkklhkhglnaaGreatDoor.PeE
namespace Go.Proofs.YtbamkklhkhglnaaGreatDoor.PeF
open Go.Proofs.YtbamkklhkhglnaaGreatDoor.ImplB (grown_below)
open Go.RowKit Go.Lib Go.Proofs.YtbamkklhkhglnaaGreatDoor Tow CyA CyB LbC LbD LbN PeA PeD PeE

theorem infoNd : (Tryz.prog.info? 63).map (fun i => (i.zero, i.size, i.bytes)) = some (some (.agg #[.int .i64 0, .string ByteArray.empty, .string ByteArray.empty]), 3, 40) := by kernel_rfl
theorem add_none (b o j : Nat) : (⟨b, o, none⟩ : Addr).add j = ⟨b, o + j, none⟩ := by simp [Addr.add]
def ndc (L : List Nd) : List Value := L.flatMap fun x => [.int .i64 x.k, .string x.t, .string x.m]
theorem ndc_len : ∀ L : List Nd, (ndc L).length = L.length * 3
 | [] => rfl
 | x :: L => by show ([_, _, _] ++ ndc L).length = _; rw [List.length_append, ndc_len L, List.length_cons]; simp; omega
theorem ndc_app (L M : List Nd) : ndc (L ++ M) = ndc L ++ ndc M := by simp [ndc]
theorem ndc_one : ∀ (L : List Nd), ∀ u ∈ ndc L, u.oneCell' = true := by
 intro L u hu
 unfold ndc at hu
 rw [List.mem_flatMap] at hu
 obtain ⟨x, _, hu⟩ := hu
 simp at hu
 rcases hu with rfl | rfl | rfl <;> rfl
theorem ndc_at : ∀ {L : List Nd} {i : Nat} {x : Nd}, L[i]? = some x → (ndc L)[i * 3]? = some (.int .i64 x.k) ∧ (ndc L)[i * 3 + 1]? = some (.string x.t) ∧ (ndc L)[i * 3 + 2]? = some (.string x.m)
 | [], i, x, h => by simp at h
 | y :: L, 0, x, h => by
  obtain rfl : y = x := by simpa using h
  exact ⟨rfl, rfl, rfl⟩
 | y :: L, i + 1, x, h => by
  have := ndc_at (L := L) (i := i) (x := x) (by simpa using h)
  rw [show (i + 1) * 3 = i * 3 + 1 + 1 + 1 by omega]
  exact this
theorem ndc_src {W : World} {b o n c : Nat} {L : List Nd} (h : NdS W (.slice (some ⟨b, o, none⟩) n c) L) : ∀ j u, (ndc L)[j]? = some u → W.cell? ((⟨b, o, none⟩ : Addr).add j) = some u := by
 intro j u hu
 have hj := (List.getElem?_eq_some_iff.1 hu).1
 rw [ndc_len] at hj
 obtain ⟨x, hx⟩ : ∃ x, L[j / 3]? = some x := ⟨_, List.getElem?_eq_getElem (by omega)⟩
 obtain ⟨h1, h2, h3⟩ := ndc_at hx
 obtain ⟨b', o', c', e, _, q0, q1, q2⟩ := h.at_ _ x hx
 obtain ⟨⟨rfl, rfl⟩, _⟩ : (b = b' ∧ o = o') ∧ _ := by simpa using e
 rw [add_none]
 have hr : j = j / 3 * 3 + j % 3 := by omega
 have : j % 3 = 0 ∨ j % 3 = 1 ∨ j % 3 = 2 := by omega
 rcases this with e | e | e <;> (rw [e] at hr; rw [hr] at hu ⊢)
 ·rw [Nat.add_zero] at hu ⊢; rw [h1] at hu; rw [← Option.some.inj hu]; exact q0
 ·rw [h2] at hu; rw [← Option.some.inj hu]; exact q1
 ·rw [h3] at hu; rw [← Option.some.inj hu]; exact q2
def OwnN (B : Nat) (W : World) (v : Value) (L : List Nd) : Prop := W.ownsRow B 63 3 v L.length (ndc L)
theorem OwnN.ndn {B : Nat} {W : World} {v : Value} {L : List Nd} (h : OwnN B W v L) (h0 : L ≠ []) : NdN B W v L := by
 have hl : 0 < L.length := List.length_pos_iff.2 h0
 have hc := h
 rcases h.2 with ⟨_, e⟩ | ⟨g, cap, cur, rfl, hB, hr, hnc, _, _, _⟩
 ·omega
 ·have hcell : ∀ j u, (ndc L)[j]? = some u → W.cell? ⟨g, 0 + j, none⟩ = some u := fun j u hu => by rw [← add_none]; exact hc.cells (g := g) rfl j u hu
  refine ⟨⟨_, _, rfl⟩, fun e => absurd e h0, (fun a n c e => by cases e; exact hnc), fun i x hx => ?_⟩
  obtain ⟨h1, h2, h3⟩ := ndc_at hx
  exact ⟨g, 0, cap, rfl, hB, (Array.getElem?_eq_some_iff.1 hr).1, hcell _ _ h1, hcell _ _ h2, hcell _ _ h3⟩
def GroR (w : World) (e : Ending) (w' : World) : Prop := ∃ cp, e = .returned (.slice (some ⟨w.heap.size, 0, none⟩) 0 cp) ∧ OwnN w.heap.size w' (.slice (some ⟨w.heap.size, 0, none⟩) 0 cp) [] ∧ Below w.heap.size w w'
theorem grow_any (n : Nat) (h0 : 0 < n) (hn : n ≤ 1000000) (w : World) : Calls Tryz.prog 54 #[.slice none 0 0, .int .i64 (n : Int)] w (GroR w) := by
 obtain ⟨i0, hi, hz0, hz1, hz2⟩ := info_parts infoNd
 have h1 : ¬ ((n : Int) < 0) := by omega
 have h4 : (n : Int) > 0 := by omega
 have hw : IntKind.i64.wrap (n : Int) = n := IntWalk.i64_in _ (by omega)
 have hrz := fun ty => Lib.run_append_nil_zeros (P := Tryz.prog) w 25 3 ty 63 i0 (.agg #[.int .i64 0, .string ByteArray.empty, .string ByteArray.empty]) .i64 .i64 Tryz.underlying25 Tryz.underlying3 hi hz0 n h0 (by rw [hz1]; omega) (by omega) (by rw [hz2]; omega)
 have hge := grownCap_ge w n 0 63
 have hle := hid (grownCap_le_maxLen w n 0 63 (by unfold maxLen; omega))
 have hle2 : (grownCap w n 0 63 : Int) ≤ 9223372036854775807 := by have := hle.out; unfold maxLen at this; omega
 obtain ⟨cp, hcp⟩ : ∃ cp, grownCap w n 0 63 = cp := ⟨_, rfl⟩
 obtain ⟨w2, hw2⟩ : ∃ w2, w.drew.alloc (.cells (Builtin.zeroCells (Value.agg #[.int .i64 0, .string ByteArray.empty, .string ByteArray.empty]).cells n ++ Builtin.zeroCells (Value.agg #[.int .i64 0, .string ByteArray.empty, .string ByteArray.empty]).cells (grownCap w n 0 63 - n)) 63) = w2 := ⟨_, rfl⟩
 have HR := hid (show GroR w (.returned (.slice (some ⟨w.heap.size, 0, none⟩) 0 cp)) w2 from by
  rw [← hw2, ← hcp]
  refine ⟨_, rfl, ⟨rfl, .inr ⟨w.heap.size, _, _, rfl, Nat.le_refl _, heap_alloc_new w.drew _, Nat.zero_le _, hle.out, ?_, by simp [ndc]⟩⟩, ((Below.refl _ _).drew).alloc (Nat.le_refl _) _⟩
  simp [Builtin.zeroCells, Value.cells]; omega)
 rw [hw2] at hrz
 rw [hcp] at hrz hge hle2
 have hge' : (n : Int) ≤ (cp : Int) := by omega
 have hcp0 : (0 : Int) ≤ (cp : Int) := by omega
 clear hw2 hcp h0 hle hn
 go_enter Tryz.func54, Tryz.ntmps54
 go_wp2_with (at_builtin; (refine Lib.wpList_append_run _ rfl _ _ _ _ rfl _ _ rfl rfl _ _ (hrz _) ?_))
 go_ret
 exact HR.out
theorem NdN.mono {B B' : Nat} {W : World} {v : Value} {L : List Nd} (h : NdN B W v L) (hB : B' ≤ B) : NdN B' W v L := ⟨h.form, h.none_, h.cap_, fun i x hx => by
 obtain ⟨b, o, c, h1, h0, h2⟩ := h.at_ i x hx
 exact ⟨b, o, c, h1, by omega, h2⟩⟩
theorem NdN.below {B : Nat} {W W' : World} {v : Value} {L : List Nd} (h : NdN B W v L) (hb : Below W.heap.size W W') : NdN B W' v L := ⟨h.form, h.none_, h.cap_, fun i x hx => by
 obtain ⟨b, o, c, h1, h0, h2, h3, h4, h5⟩ := h.at_ i x hx
 exact ⟨b, o, c, h1, h0, Nat.lt_of_lt_of_le h2 hb.size, (hb.cell (p := ⟨b, _, none⟩) h2).trans h3, (hb.cell (p := ⟨b, _, none⟩) h2).trans h4, (hb.cell (p := ⟨b, _, none⟩) h2).trans h5⟩⟩
def ConR (l : List Nd) (w : World) (e : Ending) (w' : World) : Prop := ∃ v, e = .returned v ∧ NdN w.heap.size w' v l ∧ Below w.heap.size w w'
theorem flat_take {us : List (List Nd)} {r : List Nd} {k : Nat} (h : us[k]? = some r) : (us.take (k + 1)).flatten = (us.take k).flatten ++ r := by
 rw [List.take_add_one, h]; simp
theorem flat_le (us : List (List Nd)) (k : Nat) : (us.take k).flatten.length ≤ us.flatten.length := by
 have h := congrArg (fun l => (List.flatten l).length) (List.take_append_drop k us)
 simp only [List.flatten_append, List.length_append] at h
 omega
theorem concat_any (w : World) (bU m cU : Nat) (us : List (List Nd)) (hm : us.length = m) (hU : ∀ k L, us[k]? = some L → ∃ v, w.cell? ⟨bU, k, none⟩ = some v ∧ NdN 0 w v L) (hbU : bU < w.heap.size) (h0 : 0 < us.flatten.length) (ht : us.flatten.length ≤ 1000000) (hml : m ≤ 1000) :
  Calls Tryz.prog 43 #[.slice (some ⟨bU, 0, none⟩) m cU] w (ConR us.flatten w) := by
 obtain ⟨i0, hi, hz0, hz1, hz2⟩ := info_parts infoNd
 have HFL := hid (fun k => show (us.take k).flatten.length ≤ 1000000 from Nat.le_trans (flat_le us k) ht)
 have HU := hid hU
 have HM := hid hm
 have HT := hid (show (us.take m).flatten = us.flatten by rw [List.take_of_length_le (by omega)])
 have H0 := hid h0
 clear hU hm ht h0
 go_enter Tryz.func43, Tryz.ntmps43
 go_wp2_with fail
 go_loop [3, 11] (fun sv iv => ∃ k s : Nat, k ≤ m ∧ iv = .int .i64 (k : Int) ∧ sv = .int .i64 (s : Int) ∧ Hid (s = (us.take k).flatten.length)) (fun _ iv => m - (intOf iv).toNat)
 case atStart => exact ⟨0, 0, Nat.zero_le _, rfl, rfl, hid (by simp)⟩
 case round =>
  obtain ⟨k, s, hk, rfl, rfl, hs⟩ := hrel
  by_cases hlt : k < m
  ·obtain ⟨r, hrk⟩ : ∃ r, us[k]? = some r := ⟨_, List.getElem?_eq_getElem (by rw [HM.out]; exact hlt)⟩
   obtain ⟨u, hcc, hru⟩ := HU.out k r hrk
   obtain ⟨a2, c2, rfl⟩ := hru.form
   have hd : decide ((k : Int) < (m : Int)) = true := by simp; omega
   have HN := hid (show s + r.length = (us.take (k + 1)).flatten.length by rw [flat_take hrk, List.length_append, ← hs.out])
   have hw : IntKind.i64.wrap ((s : Int) + (r.length : Int)) = ((s + r.length : Nat) : Int) := by
    have h1 := HFL.out (k + 1)
    rw [← HN.out] at h1
    rw [IntWalk.i64_in _ (by omega)]; omega
   obtain ⟨t, ht⟩ : ∃ t, s + r.length = t := ⟨_, rfl⟩
   rw [ht] at HN hw
   have hd2 : decide ((t : Int) < 0) = false := by simp
   clear hrk hru ht
   go_wp2_with fail
   go_round
   case rel => exact ⟨k + 1, t, by omega, by go_num, by first | rfl | simp [hw], HN⟩
   case measure => simp [intOf]; omega
  ·obtain rfl : k = m := by omega
   have hd : decide ((k : Int) < (k : Int)) = false := by simp
   have HG := hid (grow_any s (by rw [hs.out, HT.out]; exact H0.out) (by rw [hs.out]; exact HFL.out k) w)
   clear hs
   go_wp2_with fail
   refine HG.out.mono ?_
   rintro e w1 ⟨cp, rfl, ho1, hb1⟩
   have HO1 := hid ho1
   have HB1 := hid hb1
   clear ho1 hb1
   go_wp2_with fail
   go_loopw [6, 27] (fun nv iv wr => ∃ j : Nat, j ≤ k ∧ iv = .int .i64 (j : Int) ∧ Hid (OwnN w.heap.size wr nv (us.take j).flatten) ∧ Hid (Below w.heap.size w wr)) (fun _ iv _ => k - (intOf iv).toNat)
   case atStart => exact ⟨0, Nat.zero_le _, rfl, hid (by simpa using HO1.out), HB1⟩
   case round =>
    obtain ⟨j, hj, rfl, hO, hB⟩ := hrel
    by_cases hlt2 : j < k
    ·obtain ⟨r, hrk⟩ : ∃ r, us[j]? = some r := ⟨_, List.getElem?_eq_getElem (by rw [HM.out]; exact hlt2)⟩
     obtain ⟨u, hcc0, hru0⟩ := HU.out j r hrk
     have hcc := (hB.out.cell (p := ⟨bU, j, none⟩) hbU).trans hcc0
     have hbw := Nat.lt_of_lt_of_le hbU hB.out.size
     have hru := NdN.below hru0 hB.out
     have hd : decide ((j : Int) < (k : Int)) = true := by simp; omega
     obtain ⟨f, hf⟩ : ∃ f, (us.take j).flatten = f := ⟨_, rfl⟩
     have HN := hid (show (us.take (j + 1)).flatten = f ++ r by rw [flat_take hrk, hf])
     have HFB := hid (show f.length + r.length ≤ 1000000 by have := HFL.out (j + 1); rw [HN.out, List.length_append] at this; exact this)
     rw [hf] at hO
     have HOW := hid (show wr.ownsRow w.heap.size 63 3 _ f.length (ndc f) from hO.out)
     have C6 := hid hB.out.size
     by_cases hr0 : r = []
     ·subst hr0
      obtain rfl := hru.none_ rfl
      have HO4 := hid (show OwnN w.heap.size wr _ (us.take (j + 1)).flatten from by rw [HN.out, List.append_nil]; exact hO.out)
      clear hrk hru hru0 hcc0 hf
      go_wp2_with (at_builtin; refine wpList_append_own_none rfl _ _ 25 rfl w.heap.size 63 i0 3 Tryz.underlying25 hi _ _ _ rfl HOW.out rfl ?_)
      go_roundw
      case rel => exact ⟨j + 1, by omega, by go_num, HO4, hB⟩
      case measure => simp [intOf]; omega
     ·obtain ⟨x0, hx0⟩ : ∃ x0, r[0]? = some x0 := by
       cases r with
       | nil => exact absurd rfl hr0
       | cons x r => exact ⟨x, rfl⟩
      obtain ⟨b2, o2, c2, rfl, -⟩ := hru.at_ 0 x0 hx0
      have C1 := hid (ndc_src hru.nds)
      have C2 := hid (ndc_one r)
      have C3 := hid (show f.length + r.length ≤ maxLen from by have := HFB.out; unfold maxLen; omega)
      have C4 := hid (show (f.length + r.length) * 40 ≤ 140737488355328 from by have := HFB.out; omega)
      have C5 := hid (ndc_len r)
      clear hrk hru hru0 hcc0 hf hO hx0 hr0
      go_wp2_with (at_builtin; refine wpList_append_own _ rfl _ _ 25 rfl w.heap.size 63 i0 (.agg #[.int .i64 0, .string ByteArray.empty, .string ByteArray.empty]) 3 40 Tryz.underlying25 hi hz0 hz1 hz2 rfl (by decide) _ _ _ rfl HOW.out ⟨b2, o2, none⟩ r.length c2 (ndc r) rfl C5.out C1.out C2.out C3.out C4.out C6.out ?_)
      intro v' w4 hown' hgrow _
      have HO4 := hid (show OwnN w.heap.size w4 v' (us.take (j + 1)).flatten from by
       rw [HN.out, OwnN, ndc_app, List.length_append]
       exact hown')
      have HB4 := hid (show Below w.heap.size w w4 from hB.out.grown hgrow hB.out.size (fun g hg => (World.ownsRow.lt HOW.out g hg).1))
      clear hown' hgrow
      go_wp2_with fail
      go_roundw
      case rel => exact ⟨j + 1, by omega, by go_num, HO4, HB4⟩
      case measure => simp [intOf]; omega
    ·obtain rfl : j = k := by omega
     have hd : decide ((j : Int) < (j : Int)) = false := by simp
     have HE := hid (show NdN w.heap.size _ _ us.flatten from by rw [← HT.out]; exact hO.out.ndn (by rw [HT.out]; exact List.length_pos_iff.1 H0.out))
     clear hO
     go_wp2_with fail
     go_ret
     exact ⟨_, rfl, HE.out, hB.out⟩
end Go.Proofs.YtbamkklhkhglnaaGreatDoor.PeF
namespace Go.Proofs.YtbamkklhkhglnaaGreatDoor.PeG
open Go.Proofs.YtbamkklhkhglnaaGreatDoor.ImplB (grown_below)
open Go.RowKit Go.Lib Go.Proofs.YtbamkklhkhglnaaGreatDoor Tow CyA CyB LbC LbD LbN PeA PeD PeE PeF TrA

def Ctr (f n : Nat) (s : ByteArray) (B g d : Nat) : Prop := ∀ (w : World) (i : Nat), i ≤ s.size → s.size ≤ i + d → Vars w → RdA w g s i → B ≤ w.heap.size →
 Calls Tryz.prog f #[.pointer (some ⟨g, 0, none⟩)] w (FcP n B g s i w)
theorem par_yes (s : ByteArray) (B g d : Nat) (hs : s.size ≤ 100000000) (hg : g < B) (HP : Ctr 29 2 s B g d) (hVG : ∀ w w', Vars w → w.grownBy w' (some g) → Vars w')
  (w : World) (i : Nat) (hd : s.size ≤ i + 1 + d) (hv : Vars w) (hA : RdA w g s i) (hB : B ≤ w.heap.size) (hc : (bs s)[i]? = some 40) :
  Calls Tryz.prog 77 #[.pointer (some ⟨g, 0, none⟩)] w (fun e w' => ∃ r, Rds (bs s) 5 [] (i + 1) r ∧ FcR r B g s (i + 1) w e w') := by
 have hl : i < s.size := by have := (List.getElem?_eq_some_iff.1 hc).1; rwa [bs_len] at this
 have HT := hid (show Calls Tryz.prog 42 #[.pointer (some ⟨g, 0, none⟩), .int .u8 40] w (TkR true g s (i + 1) w) from take_yes w g i s hA hs 40 hc)
 have HP1 := hid (fun (w1 : World) (h : w.grownBy w1 (some g)) (hA1 : RdA w1 g s (i + 1)) => HP w1 (i + 1) (by omega) hd (hVG w w1 hv h) hA1 (Nat.le_trans hB h.size))
 clear hA hc HP
 go_enter Tryz.func77, Tryz.ntmps77
 go_upto_region 4 with (first | (go_at_call 42; refine HT.out.mono ?_; rintro e w1 ⟨rfl, hA1, hg1⟩; have HA1 := hid hA1; have HG1 := hid hg1; clear hA1 hg1) | (go_at_call 29; refine (HP1.out _ HG1.out HA1.out).mono ?_; rintro e w2 ⟨r, hr, v, L, rfl, hN, hA2, hg2, hM, hlen, hend⟩; have HR := hid hr; have HN := hid hN; have HA2 := hid hA2; have HG2 := hid hg2; have HMM := hid hM; have HLE := hid hlen; have HEN := hid hend; obtain ⟨a, c, rfl⟩ := hN.form; clear hr hN hA2 hg2 hM hlen hend))
 cases r with
 | error p =>
  have hq : (!isErr (.error p : Rd)) = false := rfl
  simp only [hq]
  go_wp2_with fail
  refine bodyPost_ret (v := .tuple #[.slice a L.length c, .bool false]) (by simp [results, Tryz.results77, go_sem]) rfl ?_
  exact ⟨_, .per HR.out, _, L, rfl, HN.out, HA2.out, gr_tr HG1.out HG2.out, (fun M q e => by injection e), HLE.out, HEN.out⟩
 | ok rq =>
  obtain ⟨M, q⟩ := rq
  obtain rfl := HMM.out M q rfl
  have hq : (!isErr (.ok (L, q) : Rd)) = true := rfl
  simp only [hq]
  have HLE' := hid (show L.length + (i + 1) ≤ q from HLE.out)
  have HEN' := hid (show q ≤ s.size from HEN.out)
  have HA2' := hid (show RdA w2 g s q from HA2.out)
  by_cases hc1 : (bs s)[q]? = some 41
  ·have hql : q < s.size := by have := (List.getElem?_eq_some_iff.1 hc1).1; rwa [bs_len] at this
   have HT2 := hid (show Calls Tryz.prog 42 #[.pointer (some ⟨g, 0, none⟩), .int .u8 41] w2 (TkR true g s (q + 1) w2) from take_yes w2 g q s HA2'.out hs 41 hc1)
   have HRR := hid (Rds.pok HR.out hc1)
   clear hc1
   go_wp2_with (go_at_call 42; refine HT2.out.mono ?_; rintro e w3 ⟨rfl, hA3, hg3⟩; have HA3 := hid hA3; have HG3 := hid hg3; clear hA3 hg3)
   refine bodyPost_ret (v := .tuple #[.slice a L.length c, .bool true]) (by simp [results, Tryz.results77, go_sem]) rfl ?_
   exact ⟨_, HRR.out, _, L, rfl, HN.out.grown HG3.out hg, HA3.out, gr_tr HG1.out (gr_tr HG2.out HG3.out), (fun M q e => by cases e; rfl), by have := HLE'.out; simp only [endR]; omega, by simp only [endR]; omega⟩
  ·have HT2 := hid (show Calls Tryz.prog 42 #[.pointer (some ⟨g, 0, none⟩), .int .u8 41] w2 (TkR false g s q w2) from take_no w2 g q s HA2'.out HEN'.out 41 hc1)
   have HRR := hid (Rds.pno HR.out hc1)
   clear hc1
   go_wp2_with (go_at_call 42; refine HT2.out.mono ?_; rintro e w3 ⟨rfl, hA3, hg3⟩; have HA3 := hid hA3; have HG3 := hid hg3; clear hA3 hg3)
   refine bodyPost_ret (v := .tuple #[.slice a L.length c, .bool false]) (by simp [results, Tryz.results77, go_sem]) rfl ?_
   exact ⟨_, HRR.out, _, L, rfl, HN.out.grown HG3.out hg, HA3.out, gr_tr HG1.out (gr_tr HG2.out HG3.out), (fun M q e => by injection e), HLE'.out, HEN'.out⟩
end Go.Proofs.YtbamkklhkhglnaaGreatDoor.PeG
namespace Go.Proofs.YtbamkklhkhglnaaGreatDoor.PeH
open Go.Proofs.YtbamkklhkhglnaaGreatDoor.ImplB (grown_below)
open Go.RowKit Go.Lib Go.Proofs.YtbamkklhkhglnaaGreatDoor Tow CyA CyB LbC LbD LbN PeA PeD PeE PeF PeG TrA

theorem concat2 (w : World) (x : Nd) (v : Value) (L : List Nd) {B : Nat} (hN : NdN B w v L) (hl : L.length ≤ 900000) (hB : B ≤ w.heap.size) (cU : Nat) :
  Calls Tryz.prog 43 #[.slice (some ⟨w.heap.size + 1, 0, none⟩) 2 cU] ((w.alloc (.cells #[.int .i64 x.k, .string x.t, .string x.m] 63)).alloc (.cells #[.slice (some ⟨w.heap.size, 0, none⟩) 1 1, v] 25))
   (fun e w' => ∃ v', e = .returned v' ∧ NdN B w' v' (x :: L) ∧ Below w.heap.size w w') := by
 obtain ⟨w1, hw1⟩ : ∃ w1, w.alloc (.cells #[.int .i64 x.k, .string x.t, .string x.m] 63) = w1 := ⟨_, rfl⟩
 have hN1 := NdN.one w hB x
 rw [hw1] at hN1 ⊢
 have hb1 : Below w.heap.size w w1 := by rw [← hw1]; exact (Below.refl _ _).alloc (Nat.le_refl _) _
 have hs1 : w1.heap.size = w.heap.size + 1 := by rw [← hw1]; simp
 obtain ⟨w2, hw2⟩ : ∃ w2, w1.alloc (.cells #[.slice (some ⟨w.heap.size, 0, none⟩) 1 1, v] 25) = w2 := ⟨_, rfl⟩
 have hr2 : w2.heap[w1.heap.size]? = some (.cells #[.slice (some ⟨w.heap.size, 0, none⟩) 1 1, v] 25 (0, 0)) := by rw [← hw2]; exact World.alloc_heap_new w1 _
 have hb2 : Below w1.heap.size w1 w2 := by rw [← hw2]; exact (Below.refl _ _).alloc (Nat.le_refl _) _
 have hb02 : Below w.heap.size w w2 := hb1.trans (hb2.mono hb1.size)
 have hs2 : w1.heap.size < w2.heap.size := (Array.getElem?_eq_some_iff.1 hr2).1
 rw [hw2, ← hs1]
 refine (concat_any w2 w1.heap.size 2 cU [[x], L] rfl (fun k M hk => ?_) hs2 (by simp) (by simp; omega) (by omega)).mono ?_
 ·cases k with
  | zero =>
   obtain rfl : [x] = M := by simpa using hk
   exact ⟨_, (cell_of_row _ _ _ _ _ _ hr2).trans rfl, NdN.mono (NdN.below hN1 hb2) (Nat.zero_le _)⟩
  | succ k =>
   cases k with
   | zero =>
    obtain rfl : L = M := by simpa using hk
    exact ⟨_, (cell_of_row _ _ _ _ _ _ hr2).trans rfl, NdN.mono (NdN.below hN hb02) (Nat.zero_le _)⟩
   | succ k => simp at hk
 ·rintro e w3 ⟨v', rfl, hN3, hb3⟩
  refine ⟨v', rfl, ?_, hb02.trans (hb3.mono hb02.size)⟩
  have : [[x], L].flatten = x :: L := by simp
  rw [this] at hN3
  exact NdN.mono hN3 (Nat.le_trans hB hb02.size)
def plc (w : World) (g : Nat) : Nat := match w.cell? ⟨g, 1, none⟩ with
 | some (.int _ z) => z.toNat
 | _ => 0
def mea (s : ByteArray) (g : Nat) (bv : Value) (w : World) : Nat := match bv with
 | .bool true => s.size + 1 - plc w g
 | _ => 0
theorem plc_of {w : World} {g q : Nat} {s : ByteArray} (h : RdA w g s q) : plc w g = q := by
 unfold plc
 rw [h.cells.1.2]
 simp
def TrmS (n m : Nat) (s : ByteArray) (B g i : Nat) (w : World) (b : Bool) (L : List Nd) (q : Nat) (lv : Value) (wr : World) : Prop :=
 NdN B wr lv L ∧ RdA wr g s q ∧ w.grownBy wr (some g) ∧ L.length + i ≤ q ∧ q ≤ s.size ∧
 (b = true → ∀ r, Rds (bs s) m L q r → Rds (bs s) n [] i r) ∧ (b = false → Rds (bs s) n [] i (.error q))
theorem term_of (s : ByteArray) (B g d : Nat) (hs : s.size ≤ 300) (hg : g < B) (HP : Ctr 52 0 s B g d) :
  Ctr 41 1 s B g d := by
 intro w i hi hd hv hA hB
 have HF := hid (HP w i hi hd hv hA hB)
 have HS := hid hs
 have HB := hid hB
 clear hA HP hv hd hi hs
 go_enter Tryz.func41, Tryz.ntmps41
 go_upto_region 2 with (first | (go_at_call 52; refine HF.out.mono ?_; rintro e w2 ⟨r, hr, v, L, rfl, hN, hA2, hg2, hM, hlen, hend⟩; have HR := hid hr; have HN := hid hN; have HA2 := hid hA2; have HG2 := hid hg2; have HMM := hid hM; have HLE := hid hlen; have HEN := hid hend; obtain ⟨a, c, rfl⟩ := hN.form; clear hr hN hA2 hg2 hM hlen hend))
 go_loopw [4, 5] (fun lv bv wr => ∃ b : Bool, ∃ (L : List Nd) (q : Nat), (∃ a c, lv = .slice a L.length c) ∧ bv = .bool b ∧ Hid (TrmS 1 3 s B g i w b L q lv wr)) (fun _ bv wr => mea s g bv wr)
 case atStart =>
  refine ⟨!isErr r, L, endR r, ⟨a, c, rfl⟩, rfl, hid ⟨HN.out, HA2.out, HG2.out, HLE.out, HEN.out, fun hb r' hr' => ?_, fun hb => ?_⟩⟩
  ·cases r with
   | error p => simp [isErr] at hb
   | ok rq => obtain ⟨M, q⟩ := rq; obtain rfl := HMM.out M q rfl; exact .tok HR.out hr'
  ·cases r with
   | error p => exact .ter HR.out
   | ok rq => simp [isErr] at hb
 case round =>
  obtain ⟨b, L, q, ⟨a, c, rfl⟩, rfl, hT⟩ := hrel
  cases b with
  | false =>
   have HE := hid (hT.out.2.2.2.2.2.2 rfl)
   go_wp2_with fail
   refine bodyPost_ret (v := .tuple #[.slice a L.length c, .bool false]) (by simp [results, Tryz.results41, go_sem]) rfl ?_
   exact ⟨_, HE.out, _, L, rfl, hT.out.1, hT.out.2.1, hT.out.2.2.1, (fun M q e => by injection e), hT.out.2.2.2.1, hT.out.2.2.2.2.1⟩
  | true =>
   obtain ⟨hN, hA, hG, hle, hen, hyes, -⟩ := hT.out
   have HN := hid hN
   have HG := hid hG
   have HLE := hid hle
   have HEN := hid hen
   have HY := hid (hyes rfl)
   have HBr := hid (Nat.le_trans HB.out hG.size)
   by_cases hc : (bs s)[q]? = some 47
   ·have hql : q < s.size := by have := (List.getElem?_eq_some_iff.1 hc).1; rwa [bs_len] at this
    have HT := hid (show Calls Tryz.prog 42 #[.pointer (some ⟨g, 0, none⟩), .int .u8 47] wr (TkR true g s (q + 1) wr) from take_yes wr g q s hA (by have := HS.out; omega) 47 hc)
    have HMK := hid (fun (W : World) (hA : RdA W g s (q + 1)) => mark_any W g (q + 1) s hA (by omega) (by have := HS.out; omega))
    have HQL := hid hql
    have HMS := hid (plc_of hA)
    obtain ⟨m, hm⟩ : ∃ m, nx (bs s) (q + 1) = m := ⟨_, rfl⟩
    rw [hm] at HMK
    cases hk : isMk [m] with
    | true =>
     have HMK := hid (fun (W : World) (hA : RdA W g s (q + 1)) => show Calls Tryz.prog 53 #[.pointer (some ⟨g, 0, none⟩)] W (MkR [m] true g s (q + 2) W) from by have h := HMK.out W hA; rw [if_pos hk] at h; exact h)
     have hm1 : (bs s)[q + 1]? = some m := by
      cases e : (bs s)[q + 1]? with
      | none => rw [nx, e] at hm; rw [← hm] at hk; exact absurd hk (by decide)
      | some m' => rw [nx, e] at hm; rw [← hm]; rfl
     have hq2 : q + 1 < s.size := by have := (List.getElem?_eq_some_iff.1 hm1).1; rwa [bs_len] at this
     have HQ2 := hid hq2
     have HYY := hid (fun r hr => HY.out r (.qok hc hm1 hk hr))
     clear hN hA hG hle hen hyes hc hql hm hk hm1 hq2
     go_wp2_with (first | (go_at_call 42; refine HT.out.mono ?_; rintro e w3 ⟨rfl, hA3, hg3⟩; have HA3 := hid hA3; have HG3 := hid hg3; clear hA3 hg3) | (go_at_call 53; refine (HMK.out _ HA3.out).mono ?_; rintro e w4 ⟨rfl, hA4, hg4⟩; have HA4 := hid hA4; have HG4 := hid hg4; clear hA4 hg4) | (go_at_call 43; refine (concat2 w4 (ndM 4 m) _ L ((HN.out.grown HG3.out hg).grown HG4.out hg) (by have := HLE.out; have := HEN.out; have := HS.out; omega) (Nat.le_trans HBr.out (gr_tr HG3.out HG4.out).size) _).mono ?_; rintro e w5 ⟨v5, rfl, hN5, hb5⟩; have HN5 := hid hN5; have HB5 := hid hb5; obtain ⟨a5, c5, rfl⟩ := hN5.form; clear hN5 hb5))
     go_roundw
     case rel => exact ⟨true, ndM 4 m :: L, q + 2, ⟨a5, c5, rfl⟩, rfl, hid ⟨HN5.out, HA4.out.below HB5.out, gr_tr (gr_tr (gr_tr HG.out HG3.out) HG4.out) (grown_below HB5.out), by have := HLE.out; simp only [List.length_cons]; omega, HQ2.out, fun _ => HYY.out, fun h => by simp at h⟩⟩
     case measure =>
      have h1 := plc_of (HA4.out.below HB5.out)
      have h2 := HMS.out
      have := HQ2.out
      simp only [mea, h1, h2]
      omega
    | false =>
     have HMK := hid (fun (W : World) (hA : RdA W g s (q + 1)) => show Calls Tryz.prog 53 #[.pointer (some ⟨g, 0, none⟩)] W (MkR [] false g s (q + 1) W) from by have h := HMK.out W hA; rw [if_neg (by rw [hk]; simp)] at h; exact h)
     have HYY := hid (HY.out _ (.qer hc (fun m' e => by rw [nx, e] at hm; rw [show m' = m from hm]; exact hk)))
     clear hN hA hG hle hen hyes hc hql hm hk
     go_wp2_with (first | (go_at_call 42; refine HT.out.mono ?_; rintro e w3 ⟨rfl, hA3, hg3⟩; have HA3 := hid hA3; have HG3 := hid hg3; clear hA3 hg3) | (go_at_call 53; refine (HMK.out _ HA3.out).mono ?_; rintro e w4 ⟨rfl, hA4, hg4⟩; have HA4 := hid hA4; have HG4 := hid hg4; clear hA4 hg4) | (go_at_call 43; refine (concat2 w4 (⟨4, ba [], ba []⟩ : Nd) _ L ((HN.out.grown HG3.out hg).grown HG4.out hg) (by have := HLE.out; have := HEN.out; have := HS.out; omega) (Nat.le_trans HBr.out (gr_tr HG3.out HG4.out).size) _).mono ?_; rintro e w5 ⟨v5, rfl, hN5, hb5⟩; have HN5 := hid hN5; have HB5 := hid hb5; obtain ⟨a5, c5, rfl⟩ := hN5.form; clear hN5 hb5))
     go_roundw
     case rel => exact ⟨false, (⟨4, ba [], ba []⟩ : Nd) :: L, q + 1, ⟨a5, c5, rfl⟩, rfl, hid ⟨HN5.out, HA4.out.below HB5.out, gr_tr (gr_tr (gr_tr HG.out HG3.out) HG4.out) (grown_below HB5.out), by have := HLE.out; simp only [List.length_cons]; omega, HQL.out, fun h => by simp at h, fun _ => HYY.out⟩⟩
     case measure =>
      have h2 := HMS.out
      have := HQL.out
      simp only [mea, h2]
      omega
   ·have HT := hid (show Calls Tryz.prog 42 #[.pointer (some ⟨g, 0, none⟩), .int .u8 47] wr (TkR false g s q wr) from take_no wr g q s hA hen 47 hc)
    have HYY := hid (HY.out _ (.qno hc))
    clear hN hA hG hle hen hyes hc
    go_wp2_with (first | (go_at_call 42; refine HT.out.mono ?_; rintro e w3 ⟨rfl, hA3, hg3⟩; have HA3 := hid hA3; have HG3 := hid hg3; clear hA3 hg3))
    refine bodyPost_ret (v := .tuple #[.slice a L.length c, .bool true]) (by simp [results, Tryz.results41, go_sem]) rfl ?_
    exact ⟨_, HYY.out, _, L, rfl, HN.out.grown HG3.out hg, HA3.out, gr_tr HG.out HG3.out, (fun M q e => by cases e; rfl), HLE.out, HEN.out⟩
end Go.Proofs.YtbamkklhkhglnaaGreatDoor.PeH
namespace Go.Proofs.YtbamkklhkhglnaaGreatDoor.PeI
open Go.Proofs.YtbamkklhkhglnaaGreatDoor.ImplB (grown_below)
open Go.RowKit Go.Lib Go.Proofs.YtbamkklhkhglnaaGreatDoor Tow CyA CyB LbC LbD LbN PeA PeD PeE PeF PeG PeH TrA

theorem concat3 (w : World) (x : Nd) (v u : Value) (L R : List Nd) {B : Nat} (hN : NdN B w v L) (hR : NdN B w u R) (hl : L.length + R.length ≤ 900000) (hB : B ≤ w.heap.size) (cU : Nat) :
  Calls Tryz.prog 43 #[.slice (some ⟨w.heap.size + 1, 0, none⟩) 3 cU] ((w.alloc (.cells #[.int .i64 x.k, .string x.t, .string x.m] 63)).alloc (.cells #[.slice (some ⟨w.heap.size, 0, none⟩) 1 1, v, u] 25))
   (fun e w' => ∃ v', e = .returned v' ∧ NdN B w' v' (x :: (L ++ R)) ∧ Below w.heap.size w w') := by
 obtain ⟨w1, hw1⟩ : ∃ w1, w.alloc (.cells #[.int .i64 x.k, .string x.t, .string x.m] 63) = w1 := ⟨_, rfl⟩
 have hN1 := NdN.one w hB x
 rw [hw1] at hN1 ⊢
 have hb1 : Below w.heap.size w w1 := by rw [← hw1]; exact (Below.refl _ _).alloc (Nat.le_refl _) _
 have hs1 : w1.heap.size = w.heap.size + 1 := by rw [← hw1]; simp
 obtain ⟨w2, hw2⟩ : ∃ w2, w1.alloc (.cells #[.slice (some ⟨w.heap.size, 0, none⟩) 1 1, v, u] 25) = w2 := ⟨_, rfl⟩
 have hr2 : w2.heap[w1.heap.size]? = some (.cells #[.slice (some ⟨w.heap.size, 0, none⟩) 1 1, v, u] 25 (0, 0)) := by rw [← hw2]; exact World.alloc_heap_new w1 _
 have hb2 : Below w1.heap.size w1 w2 := by rw [← hw2]; exact (Below.refl _ _).alloc (Nat.le_refl _) _
 have hb02 : Below w.heap.size w w2 := hb1.trans (hb2.mono hb1.size)
 have hs2 : w1.heap.size < w2.heap.size := (Array.getElem?_eq_some_iff.1 hr2).1
 rw [hw2, ← hs1]
 refine (concat_any w2 w1.heap.size 3 cU [[x], L, R] rfl (fun k M hk => ?_) hs2 (by simp) (by simp; omega) (by omega)).mono ?_
 ·cases k with
  | zero =>
   obtain rfl : [x] = M := by simpa using hk
   exact ⟨_, (cell_of_row _ _ _ _ _ _ hr2).trans rfl, NdN.mono (NdN.below hN1 hb2) (Nat.zero_le _)⟩
  | succ k =>
   cases k with
   | zero =>
    obtain rfl : L = M := by simpa using hk
    exact ⟨_, (cell_of_row _ _ _ _ _ _ hr2).trans rfl, NdN.mono (NdN.below hN hb02) (Nat.zero_le _)⟩
   | succ k =>
    cases k with
    | zero =>
     obtain rfl : R = M := by simpa using hk
     exact ⟨_, (cell_of_row _ _ _ _ _ _ hr2).trans rfl, NdN.mono (NdN.below hR hb02) (Nat.zero_le _)⟩
    | succ k => simp at hk
 ·rintro e w3 ⟨v', rfl, hN3, hb3⟩
  refine ⟨v', rfl, ?_, hb02.trans (hb3.mono hb02.size)⟩
  have : [[x], L, R].flatten = x :: (L ++ R) := by simp
  rw [this] at hN3
  exact NdN.mono hN3 (Nat.le_trans hB hb02.size)
theorem prod_of (s : ByteArray) (B g d : Nat) (hs : s.size ≤ 300) (hg : g < B) (HP : Ctr 41 1 s B g d) (hVG : ∀ w w', Vars w → w.grownBy w' (some g) → Vars w') :
  Ctr 29 2 s B g d := by
 intro w i hi hd hv hA hB
 have HF := hid (HP w i hi hd hv hA hB)
 have HS := hid hs
 have HPP := hid HP
 have HVV := hid (fun W (h : w.grownBy W (some g)) => hVG w W hv h)
 have HDD := hid hd
 have HB := hid hB
 clear hA HP hv hd hi hs hVG
 go_enter Tryz.func29, Tryz.ntmps29
 go_upto_region 2 with (first | (go_at_call 41; refine HF.out.mono ?_; rintro e w2 ⟨r, hr, v, L, rfl, hN, hA2, hg2, hM, hlen, hend⟩; have HR := hid hr; have HN := hid hN; have HA2 := hid hA2; have HG2 := hid hg2; have HMM := hid hM; have HLE := hid hlen; have HEN := hid hend; obtain ⟨a, c, rfl⟩ := hN.form; clear hr hN hA2 hg2 hM hlen hend))
 go_loopw [4, 5] (fun lv bv wr => ∃ b : Bool, ∃ (L : List Nd) (q : Nat), (∃ a c, lv = .slice a L.length c) ∧ bv = .bool b ∧ Hid (TrmS 2 4 s B g i w b L q lv wr)) (fun _ bv wr => mea s g bv wr)
 case atStart =>
  refine ⟨!isErr r, L, endR r, ⟨a, c, rfl⟩, rfl, hid ⟨HN.out, HA2.out, HG2.out, HLE.out, HEN.out, fun hb r' hr' => ?_, fun hb => ?_⟩⟩
  ·cases r with
   | error p => simp [isErr] at hb
   | ok rq => obtain ⟨M, q⟩ := rq; obtain rfl := HMM.out M q rfl; exact .dok HR.out hr'
  ·cases r with
   | error p => exact .der HR.out
   | ok rq => simp [isErr] at hb
 case round =>
  obtain ⟨b, L, q, ⟨a, c, rfl⟩, rfl, hT⟩ := hrel
  cases b with
  | false =>
   have HE := hid (hT.out.2.2.2.2.2.2 rfl)
   go_wp2_with fail
   refine bodyPost_ret (v := .tuple #[.slice a L.length c, .bool false]) (by simp [results, Tryz.results29, go_sem]) rfl ?_
   exact ⟨_, HE.out, _, L, rfl, hT.out.1, hT.out.2.1, hT.out.2.2.1, (fun M q e => by injection e), hT.out.2.2.2.1, hT.out.2.2.2.2.1⟩
  | true =>
   obtain ⟨hN, hA, hG, hle, hen, hyes, -⟩ := hT.out
   have HN := hid hN
   have HG := hid hG
   have HLE := hid hle
   have HEN := hid hen
   have HY := hid (hyes rfl)
   have HBr := hid (Nat.le_trans HB.out hG.size)
   by_cases hc : (bs s)[q]? = some 43
   ·have hql : q < s.size := by have := (List.getElem?_eq_some_iff.1 hc).1; rwa [bs_len] at this
    have HT := hid (show Calls Tryz.prog 42 #[.pointer (some ⟨g, 0, none⟩), .int .u8 43] wr (TkR true g s (q + 1) wr) from take_yes wr g q s hA (by have := HS.out; omega) 43 hc)
    have HQL := hid hql
    have HI := hid (show s.size ≤ q + d by have := HDD.out; omega)
    have HMS := hid (plc_of hA)
    have HTM := hid (fun (W : World) (hA : RdA W g s (q + 1)) (hg1 : wr.grownBy W (some g)) => HPP.out W (q + 1) (by omega) (by have := HI.out; omega) (HVV.out _ (gr_tr hG hg1)) hA (Nat.le_trans HBr.out hg1.size))
    have HOK := hid (fun r (hr : Rds (bs s) 1 [] (q + 1) r) M q' (e : r = .ok (M, q')) r' (h : Rds (bs s) 4 (ndP :: (L ++ M)) q' r') => HY.out r' (.sok hc (by rw [← e]; exact hr) h))
    have HER := hid (fun r (hr : Rds (bs s) 1 [] (q + 1) r) p (e : r = .error p) => HY.out _ (.ser hc (by rw [← e]; exact hr)))
    clear hN hA hG hle hen hyes hc hql
    go_wp2_with (first | (go_at_call 42; refine HT.out.mono ?_; rintro e w3 ⟨rfl, hA3, hg3⟩; have HA3 := hid hA3; have HG3 := hid hg3; clear hA3 hg3) | (go_at_call 41; refine (HTM.out _ HA3.out HG3.out).mono ?_; rintro e w4 ⟨r4, hr4, v4, R, rfl, hN4, hA4, hg4, hM4, hlen4, hend4⟩; have HR4 := hid hr4; have HN4 := hid hN4; have HA4 := hid hA4; have HG4 := hid hg4; have HM4 := hid hM4; have HLE4 := hid hlen4; have HEN4 := hid hend4; obtain ⟨a4, c4, rfl⟩ := hN4.form; clear hr4 hN4 hA4 hg4 hM4 hlen4 hend4) | (go_at_call 43; refine (concat3 w4 ndP _ _ L R ((HN.out.grown HG3.out hg).grown HG4.out hg) HN4.out (by have := HLE.out; have := HEN.out; have := HS.out; have := HLE4.out; have := HEN4.out; omega) (Nat.le_trans HBr.out (gr_tr HG3.out HG4.out).size) _).mono ?_; rintro e w5 ⟨v5, rfl, hN5, hb5⟩; have HN5 := hid hN5; have HB5 := hid hb5; obtain ⟨a5, c5, rfl⟩ := hN5.form; clear hN5 hb5))
    go_roundw
    case rel =>
     have hln : (ndP :: (L ++ R)).length = L.length + R.length + 1 := by simp
     refine ⟨!isErr r4, ndP :: (L ++ R), endR r4, ⟨a5, c5, by rw [hln]⟩, rfl, hid ⟨by rw [← hln]; exact HN5.out, HA4.out.below HB5.out, gr_tr (gr_tr (gr_tr HG.out HG3.out) HG4.out) (grown_below HB5.out), by have := HLE.out; have := HLE4.out; simp only [List.length_cons, List.length_append]; omega, HEN4.out, fun hb => ?_, fun hb => ?_⟩⟩
     ·cases r4 with
      | error p => simp [isErr] at hb
      | ok rq => obtain ⟨M, q'⟩ := rq; obtain rfl := HM4.out M q' rfl; exact HOK.out _ HR4.out _ _ rfl
     ·cases r4 with
      | error p => exact HER.out _ HR4.out _ rfl
      | ok rq => simp [isErr] at hb
    case measure =>
     have h1 := plc_of (HA4.out.below HB5.out)
     have h2 := HMS.out
     have h3 := HQL.out
     have h4 := HR4.out.fwd
     have h5 := HEN4.out
     cases r4 with
     | error p => simp only [mea, isErr, h2]; show 0 < _; omega
     | ok rq =>
      obtain ⟨M, q'⟩ := rq
      simp only [endR] at h1 h4 h5
      simp only [isErr, Bool.not_false, mea, h1, h2]
      omega
   ·have HT := hid (show Calls Tryz.prog 42 #[.pointer (some ⟨g, 0, none⟩), .int .u8 43] wr (TkR false g s q wr) from take_no wr g q s hA hen 43 hc)
    have HYY := hid (HY.out _ (.sno hc))
    clear hN hA hG hle hen hyes hc
    go_wp2_with (first | (go_at_call 42; refine HT.out.mono ?_; rintro e w3 ⟨rfl, hA3, hg3⟩; have HA3 := hid hA3; have HG3 := hid hg3; clear hA3 hg3))
    refine bodyPost_ret (v := .tuple #[.slice a L.length c, .bool true]) (by simp [results, Tryz.results29, go_sem]) rfl ?_
    exact ⟨_, HYY.out, _, L, rfl, HN.out.grown HG3.out hg, HA3.out, gr_tr HG.out HG3.out, (fun M q e => by cases e; rfl), HLE.out, HEN.out⟩
end Go.Proofs.YtbamkklhkhglnaaGreatDoor.PeI
namespace Go.Proofs.YtbamkklhkhglnaaGreatDoor.PeJ
open Go.Proofs.YtbamkklhkhglnaaGreatDoor.ImplB (grown_below)
open Go.RowKit Go.Lib Go.Proofs.YtbamkklhkhglnaaGreatDoor Tow CyA CyB LbC LbD LbN PeA PeD PeE PeF PeG PeH TrA

def PnR (g : Nat) (s : ByteArray) (i : Nat) (w : World) (e : Ending) (w' : World) : Prop := e = .returned (.tuple #[.slice none 0 0, .bool false]) ∧ RdA w' g s i ∧ w.grownBy w' (some g)
theorem par_no (s : ByteArray) (g : Nat) (w : World) (i : Nat) (hi : i ≤ s.size) (hA : RdA w g s i) (hc : (bs s)[i]? ≠ some 40) :
  Calls Tryz.prog 77 #[.pointer (some ⟨g, 0, none⟩)] w (PnR g s i w) := by
 have HT := hid (show Calls Tryz.prog 42 #[.pointer (some ⟨g, 0, none⟩), .int .u8 40] w (TkR false g s i w) from take_no w g i s hA hi 40 hc)
 clear hA hc hi
 go_enter Tryz.func77, Tryz.ntmps77
 go_wp2_with (go_at_call 42; refine HT.out.mono ?_; rintro e w1 ⟨rfl, hA1, hg1⟩; have HA1 := hid hA1; have HG1 := hid hg1; clear hA1 hg1)
 refine bodyPost_ret (v := .tuple #[.slice none 0 0, .bool false]) (by simp [results, Tryz.results77, go_sem]) rfl ?_
 exact ⟨rfl, HA1.out, HG1.out⟩
theorem nx_some {t : List UInt8} {i : Nat} {c : UInt8} (h : nx t i = c) (h0 : c ≠ 0) : t[i]? = some c := by
 unfold nx at h
 cases e : t[i]? with
 | none => rw [e] at h; exact absurd h.symm h0
 | some m => rw [e] at h; rw [← h]; rfl
theorem fac_brk (s : ByteArray) (B g : Nat) (hs : s.size ≤ 300) (hg : g < B) (w : World) (i : Nat) (hi : i ≤ s.size) (hv : Vars w) (hA : RdA w g s i) (hB : B ≤ w.heap.size) (c : UInt8) (hc : nx (bs s) i = c) (hb : c = 123 ∨ c = 91) :
  Calls Tryz.prog 52 #[.pointer (some ⟨g, 0, none⟩)] w (FcP 0 B g s i w) := by
 have HN := hid (next_any w g i s hA hi)
 rw [hc] at HN
 rcases hb with rfl | rfl
 ·have HN := hid (show Calls Tryz.prog 75 #[.pointer (some ⟨g, 0, none⟩)] w (fun e w' => e = .returned (.int .u8 123) ∧ Below w.heap.size w w') from HN.out)
  have HK := hid (fun (W : World) (hb : Below w.heap.size w W) => show Calls Tryz.prog 76 #[.pointer (some ⟨g, 0, none⟩), .int .u8 125, .int .i64 0] W (FcP 0 B g s i W) from brk_any W B g i s (hv.below hb) (hA.below hb) hg (Nat.le_trans hB hb.size) (by omega) 123 125 0 (.inl ⟨rfl, rfl, rfl⟩) (nx_some hc (by decide)))
  clear hA hv hi hs hB hc
  go_enter Tryz.func52, Tryz.ntmps52
  go_wp2_with (first | (go_at_call 75; refine HN.out.mono ?_; rintro e w1 ⟨rfl, hb1⟩; have HB1 := hid hb1; clear hb1) | (go_at_call 76; refine (HK.out _ HB1.out).mono ?_; rintro e w2 ⟨r, hr, v, L, rfl, hN, hA2, hg2, hM, hlen, hend⟩; have HF := hid (show FcP 0 B g s i w (.returned (.tuple #[v, .bool (!isErr r)])) w2 from ⟨r, hr, v, L, rfl, hN, hA2, gr_tr (grown_below HB1.out) hg2, hM, hlen, hend⟩); obtain ⟨a, c, rfl⟩ := hN.form; clear hr hN hA2 hg2 hM hlen hend))
  refine bodyPost_ret (v := .tuple #[.slice a L.length c, .bool (!isErr r)]) (by simp [results, Tryz.results52, go_sem]) rfl ?_
  exact HF.out
 ·have HN := hid (show Calls Tryz.prog 75 #[.pointer (some ⟨g, 0, none⟩)] w (fun e w' => e = .returned (.int .u8 91) ∧ Below w.heap.size w w') from HN.out)
  have HK := hid (fun (W : World) (hb : Below w.heap.size w W) => show Calls Tryz.prog 76 #[.pointer (some ⟨g, 0, none⟩), .int .u8 93, .int .i64 1] W (FcP 0 B g s i W) from brk_any W B g i s (hv.below hb) (hA.below hb) hg (Nat.le_trans hB hb.size) (by omega) 91 93 1 (.inr ⟨rfl, rfl, rfl⟩) (nx_some hc (by decide)))
  clear hA hv hi hs hB hc
  go_enter Tryz.func52, Tryz.ntmps52
  go_wp2_with (first | (go_at_call 75; refine HN.out.mono ?_; rintro e w1 ⟨rfl, hb1⟩; have HB1 := hid hb1; clear hb1) | (go_at_call 76; refine (HK.out _ HB1.out).mono ?_; rintro e w2 ⟨r, hr, v, L, rfl, hN, hA2, hg2, hM, hlen, hend⟩; have HF := hid (show FcP 0 B g s i w (.returned (.tuple #[v, .bool (!isErr r)])) w2 from ⟨r, hr, v, L, rfl, hN, hA2, gr_tr (grown_below HB1.out) hg2, hM, hlen, hend⟩); obtain ⟨a, c, rfl⟩ := hN.form; clear hr hN hA2 hg2 hM hlen hend))
  refine bodyPost_ret (v := .tuple #[.slice a L.length c, .bool (!isErr r)]) (by simp [results, Tryz.results52, go_sem]) rfl ?_
  exact HF.out
theorem fac_par (s : ByteArray) (B g d : Nat) (hs : s.size ≤ 300) (hg : g < B) (HP : Ctr 29 2 s B g d) (hVG : ∀ w w', Vars w → w.grownBy w' (some g) → Vars w') (w : World) (i : Nat) (hi : i ≤ s.size) (hd : s.size ≤ i + 1 + d) (hv : Vars w) (hA : RdA w g s i) (hB : B ≤ w.heap.size) (hc : nx (bs s) i = 40) :
  Calls Tryz.prog 52 #[.pointer (some ⟨g, 0, none⟩)] w (FcP 0 B g s i w) := by
 have HN0 := next_any w g i s hA hi
 rw [hc] at HN0
 have HN := hid (show Calls Tryz.prog 75 #[.pointer (some ⟨g, 0, none⟩)] w (fun e w' => e = .returned (.int .u8 40) ∧ Below w.heap.size w w') from HN0)
 have h40 := nx_some hc (by decide)
 have H40 := hid h40
 have HK := hid (fun (W : World) (hb : Below w.heap.size w W) => par_yes s B g d (by omega) hg HP hVG W i hd (hv.below hb) (hA.below hb) (Nat.le_trans hB hb.size) h40)
 clear HN0 hA hv hi hs hB hc h40 HP hVG hd
 go_enter Tryz.func52, Tryz.ntmps52
 go_wp2_with (first | (go_at_call 75; refine HN.out.mono ?_; rintro e w1 ⟨rfl, hb1⟩; have HB1 := hid hb1; clear hb1) | (go_at_call 77; refine (HK.out _ HB1.out).mono ?_; rintro e w2 ⟨r, hr, v, L, rfl, hN, hA2, hg2, hM, hlen, hend⟩; have HF := hid (show FcP 0 B g s i w (.returned (.tuple #[v, .bool (!isErr r)])) w2 from ⟨r, .fpo H40.out hr, v, L, rfl, hN, hA2, gr_tr (grown_below HB1.out) hg2, hM, by omega, hend⟩); obtain ⟨a, c, rfl⟩ := hN.form; clear hr hN hA2 hg2 hM hlen hend))
 refine bodyPost_ret (v := .tuple #[.slice a L.length c, .bool (!isErr r)]) (by simp [results, Tryz.results52, go_sem]) rfl ?_
 exact HF.out
end Go.Proofs.YtbamkklhkhglnaaGreatDoor.PeJ
namespace Go.Proofs.YtbamkklhkhglnaaGreatDoor.PeK
open Go.Proofs.YtbamkklhkhglnaaGreatDoor.ImplB (grown_below)
open Go.RowKit Go.Lib Go.Proofs.YtbamkklhkhglnaaGreatDoor Tow CyA CyB LbC LbD LbN PeA PeD PeE PeF PeG PeH PeJ TrA

theorem u8_ne' {c k : UInt8} (h : c ≠ k) : ((c.toNat : Int) == (k.toNat : Int)) = false := beq_eq_false_iff_ne.2 (fun e => h (UInt8.toNat_inj.1 (by omega)))
theorem fac_none (s : ByteArray) (B g : Nat) (hs : s.size ≤ 300) (hg : g < B) (w : World) (i : Nat) (hi : i ≤ s.size) (hv : Vars w) (hA : RdA w g s i) (hB : B ≤ w.heap.size) (c : UInt8) (hc : nx (bs s) i = c) (h1 : c ≠ 123) (h2 : c ≠ 91) (h3 : isLt [c] = false) (h4 : c ≠ 40) (h5 : isMk [c] = false) :
  Calls Tryz.prog 52 #[.pointer (some ⟨g, 0, none⟩)] w (FcP 0 B g s i w) := by
 have HN := next_any w g i s hA hi
 rw [hc] at HN
 have HN := hid HN
 have HK := hid (fun (W : World) (hb : Below w.heap.size w W) => show Calls Tryz.prog 53 #[.pointer (some ⟨g, 0, none⟩)] W (MkR [] false g s i W) from by
  have h := mark_any W g i s (hA.below hb) hi (by omega)
  rw [hc, if_neg (by rw [h5]; simp)] at h
  exact h)
 have HR := hid (show Rds (bs s) 0 [] i (.error i) from by
  cases e : (bs s)[i]? with
  | none => exact .fend e
  | some m => rw [nx, e] at hc; obtain rfl : m = c := hc; exact .fno e h1 h2 h3 h4 h5)
 have n1 : ((c.toNat : Int) == 123) = false := u8_ne' h1
 have n2 : ((c.toNat : Int) == 91) = false := u8_ne' h2
 have n4 : ((c.toNat : Int) == 40) = false := u8_ne' h4
 have HI := hid hi
 have h3' : ¬ (97 ≤ c.toNat ∧ c.toNat ≤ 122) := fun h => by rw [isLt] at h3; simp [h.1, h.2] at h3
 by_cases ha : 97 ≤ c.toNat
 ·have hb : ¬ c.toNat ≤ 122 := fun h => h3' ⟨ha, h⟩
  have d1 : decide ((97 : Int) ≤ (c.toNat : Int)) = true := decide_eq_true (by omega)
  have d2 : decide ((c.toNat : Int) ≤ 122) = false := decide_eq_false (by omega)
  clear hA hv hi hs hB hc h1 h2 h3 h4 h5 h3'
  go_enter Tryz.func52, Tryz.ntmps52
  go_wp2_with (first | (go_at_call 75; refine HN.out.mono ?_; rintro e w1 ⟨rfl, hb1⟩; have HB1 := hid hb1; clear hb1) | (go_at_call 53; refine (HK.out _ HB1.out).mono ?_; rintro e w2 ⟨rfl, hA2, hg2⟩; have HA2 := hid hA2; have HG2 := hid hg2; clear hA2 hg2))
  refine bodyPost_ret (v := .tuple #[.slice none 0 0, .bool false]) (by simp [results, Tryz.results52, go_sem]) rfl ?_
  exact ⟨_, HR.out, _, [], rfl, .nil _ _, HA2.out, gr_tr (grown_below HB1.out) HG2.out, (fun M q e => by injection e), by simp [endR], HI.out⟩
 ·have d1 : decide ((97 : Int) ≤ (c.toNat : Int)) = false := decide_eq_false (by omega)
  clear hA hv hi hs hB hc h1 h2 h3 h4 h5 h3'
  go_enter Tryz.func52, Tryz.ntmps52
  go_wp2_with (first | (go_at_call 75; refine HN.out.mono ?_; rintro e w1 ⟨rfl, hb1⟩; have HB1 := hid hb1; clear hb1) | (go_at_call 53; refine (HK.out _ HB1.out).mono ?_; rintro e w2 ⟨rfl, hA2, hg2⟩; have HA2 := hid hA2; have HG2 := hid hg2; clear hA2 hg2))
  refine bodyPost_ret (v := .tuple #[.slice none 0 0, .bool false]) (by simp [results, Tryz.results52, go_sem]) rfl ?_
  exact ⟨_, HR.out, _, [], rfl, .nil _ _, HA2.out, gr_tr (grown_below HB1.out) HG2.out, (fun M q e => by injection e), by simp [endR], HI.out⟩
theorem fac_let (s : ByteArray) (B g : Nat) (hs : s.size ≤ 300) (hg : g < B) (w : World) (i : Nat) (hi : i ≤ s.size) (hA : RdA w g s i) (hB : B ≤ w.heap.size) (c : UInt8) (hc : nx (bs s) i = c) (hl : isLt [c] = true) :
  Calls Tryz.prog 52 #[.pointer (some ⟨g, 0, none⟩)] w (FcP 0 B g s i w) := by
 have HN := next_any w g i s hA hi
 rw [hc] at HN
 have HN := hid HN
 have hab : 97 ≤ c.toNat ∧ c.toNat ≤ 122 := by simpa [isLt] using hl
 have hcs := nx_some hc (by rintro rfl; exact absurd hab.1 (by decide))
 have hil : i < s.size := by have := (List.getElem?_eq_some_iff.1 hcs).1; rwa [bs_len] at this
 have HR := hid (show Rds (bs s) 0 [] i (.ok ([ndB 2 [c]], i + 1)) from .flt hcs hl)
 have n1 : ((c.toNat : Int) == 123) = false := beq_eq_false_iff_ne.2 (by omega)
 have n2 : ((c.toNat : Int) == 91) = false := beq_eq_false_iff_ne.2 (by omega)
 have d1 : decide ((97 : Int) ≤ (c.toNat : Int)) = true := decide_eq_true (by omega)
 have d2 : decide ((c.toNat : Int) ≤ 122) = true := decide_eq_true (by omega)
 have hwi : IntKind.i64.wrap ((i : Int) + 1) = (i : Int) + 1 := IntWalk.i64_in _ (by omega)
 have HA := hid hA
 have HIL := hid hil
 have HBB := hid hB
 clear hA hi hs hB hc hl hcs hil hab
 go_enter Tryz.func52, Tryz.ntmps52
 go_upto_region 8 with (first | (go_at_call 75; refine HN.out.mono ?_; rintro e w1 ⟨rfl, hb1⟩; have HB1 := hid hb1; have HA1 := hid (HA.out.below hb1); obtain ⟨⟨c0, c1⟩, f1, hgl⟩ := HA1.out.cells; clear hb1))
 obtain ⟨w2, hw2⟩ : ∃ w2, w1.setCell ⟨g, 1, none⟩ (.int .i64 ((i : Int) + 1)) = w2 := ⟨_, rfl⟩
 simp only [hw2]
 have HA2 := hid (show RdA w2 g s (i + 1) by rw [← hw2]; exact HA1.out.set (i + 1))
 have HG2 := hid (show w.grownBy w2 (some g) by rw [← hw2]; exact gr_set (grown_below HB1.out) _)
 have hcv := one_new c w2
 clear hw2 c0 c1 f1 hgl
 go_wp2_with fail
 refine bodyPost_ret (v := .tuple #[.slice (some ⟨w2.heap.size + 1, 0, none⟩) 1 1, .bool true]) (by simp [results, Tryz.results52, go_sem]) rfl ?_
 obtain ⟨w3, hw3⟩ : ∃ w3, w2.alloc (.cells #[.int .u8 (c.toNat : Int)] 5) = w3 := ⟨_, rfl⟩
 have hb3 : Below w2.heap.size w2 w3 := by rw [← hw3]; exact (Below.refl _ _).alloc (Nat.le_refl _) _
 have hs3 : w3.heap.size = w2.heap.size + 1 := by rw [← hw3]; simp
 have hN := NdN.one (B := B) w3 (Nat.le_trans HBB.out (Nat.le_trans HG2.out.size hb3.size)) (ndB 2 [c])
 have hb4 : Below w2.heap.size w2 (w3.alloc (.cells #[.int .i64 (ndB 2 [c]).k, .string (ndB 2 [c]).t, .string (ndB 2 [c]).m] 63)) := hb3.alloc hb3.size _
 rw [hs3] at hN
 rw [hw3]
 exact ⟨_, HR.out, _, [ndB 2 [c]], rfl, hN, HA2.out.below hb4, gr_tr HG2.out (grown_below hb4), (fun M q e => by cases e; rfl), by simp [endR]; omega, HIL.out⟩
end Go.Proofs.YtbamkklhkhglnaaGreatDoor.PeK
namespace Go.Proofs.YtbamkklhkhglnaaGreatDoor.PeL
open Go.Proofs.YtbamkklhkhglnaaGreatDoor.ImplB (grown_below)
open Go.RowKit Go.Lib Go.Proofs.YtbamkklhkhglnaaGreatDoor Tow CyA CyB LbC LbD LbN PeA PeD PeE PeF PeG PeH PeI PeJ PeK TrA

theorem fac_mk (s : ByteArray) (B g d : Nat) (hs : s.size ≤ 300) (hg : g < B) (HP : Ctr 29 2 s B g d) (hVG : ∀ w w', Vars w → w.grownBy w' (some g) → Vars w') (w : World) (i : Nat) (hi : i ≤ s.size) (hd : s.size ≤ i + 1 + d) (hv : Vars w) (hA : RdA w g s i) (hB : B ≤ w.heap.size) (c : UInt8) (hc : nx (bs s) i = c) (hm : isMk [c] = true) :
  Calls Tryz.prog 52 #[.pointer (some ⟨g, 0, none⟩)] w (FcP 0 B g s i w) := by
 have HN := next_any w g i s hA hi
 rw [hc] at HN
 have HN := hid HN
 have hcs := nx_some hc (by rintro rfl; exact absurd hm (by decide))
 have hil : i < s.size := by have := (List.getElem?_eq_some_iff.1 hcs).1; rwa [bs_len] at this
 have HMK := hid (fun (W : World) (hb : Below w.heap.size w W) => show Calls Tryz.prog 53 #[.pointer (some ⟨g, 0, none⟩)] W (MkR [c] true g s (i + 1) W) from by
  have h := mark_any W g i s (hA.below hb) hi (by omega)
  rw [hc, if_pos hm] at h
  exact h)
 have hmk := isMk_sg hm
 have hct : c.toNat = 90 ∨ c.toNat = 68 ∨ c.toNat = 70 := by
  have : c = 90 ∨ c = 68 ∨ c = 70 := by simpa [isMk, or_assoc] using hm
  rcases this with rfl | rfl | rfl <;> simp
 have n1 : ((c.toNat : Int) == 123) = false := beq_eq_false_iff_ne.2 (by omega)
 have n2 : ((c.toNat : Int) == 91) = false := beq_eq_false_iff_ne.2 (by omega)
 have n4 : ((c.toNat : Int) == 40) = false := beq_eq_false_iff_ne.2 (by omega)
 have d1 : decide ((97 : Int) ≤ (c.toNat : Int)) = false := decide_eq_false (by omega)
 have HS := hid hs
 have HIL := hid hil
 have HBB := hid hB
 by_cases hp : (bs s)[i + 1]? = some 40
 ·have HPA := hid (fun (W : World) (hG : w.grownBy W (some g)) (hA1 : RdA W g s (i + 1)) => par_yes s B g d (by omega) hg HP hVG W (i + 1) (by omega) (hVG w W hv hG) hA1 (Nat.le_trans hB hG.size) hp)
  have HRR := hid (fun r (hr : Rds (bs s) 5 [] (i + 2) r) => Rds.fmk hcs hm hp hr)
  clear hA hv hi hs hB hc hm hcs hil hp HP hVG hmk hct hd
  go_enter Tryz.func52, Tryz.ntmps52
  go_wp2_with (first | (go_at_call 75; refine HN.out.mono ?_; rintro e w1 ⟨rfl, hb1⟩; have HB1 := hid hb1; clear hb1) | (go_at_call 53; refine (HMK.out _ HB1.out).mono ?_; rintro e w2 ⟨rfl, hA2, hg2⟩; have HA2 := hid hA2; have HG2 := hid (gr_tr (grown_below (row := some g) HB1.out) hg2); clear hA2 hg2) | (go_at_call 77; refine (HPA.out _ HG2.out HA2.out).mono ?_; rintro e w4 ⟨r4, hr4, v4, R, rfl, hN4, hA4, hg4, hM4, hlen4, hend4⟩; have HR4 := hid (HRR.out _ hr4); have HN4 := hid hN4; have HA4 := hid hA4; have HG4 := hid (gr_tr HG2.out hg4); have HM4 := hid hM4; have HLE4 := hid hlen4; have HEN4 := hid hend4; obtain ⟨a4, c4, rfl⟩ := hN4.form; clear hr4 hN4 hA4 hg4 hM4 hlen4 hend4) | (go_at_call 43; refine (concat2 w4 (ndM 5 c) _ R HN4.out (by have := HS.out; have := HLE4.out; have := HEN4.out; omega) (Nat.le_trans HBB.out HG4.out.size) _).mono ?_; rintro e w5 ⟨v5, rfl, hN5, hb5⟩; have HN5 := hid hN5; have HB5 := hid hb5; obtain ⟨a5, c5, rfl⟩ := hN5.form; clear hN5 hb5))
  refine bodyPost_ret (v := .tuple #[.slice a5 (ndM 5 c :: R).length c5, .bool (!isErr r4)]) (by simp [results, Tryz.results52, go_sem]) rfl ?_
  exact ⟨_, HR4.out, _, ndM 5 c :: R, by rw [isErr_put], HN5.out, by rw [endR_put]; exact HA4.out.below HB5.out, gr_tr HG4.out (grown_below HB5.out), (fun M q e => by
   cases r4 with
   | error p => cases e
   | ok rq => obtain ⟨M', q'⟩ := rq; cases e; rw [HM4.out M' q rfl]), by rw [endR_put]; have := HLE4.out; simp only [List.length_cons]; omega, by rw [endR_put]; exact HEN4.out⟩
 ·have HPA := hid (fun (W : World) (hA1 : RdA W g s (i + 1)) => par_no s g W (i + 1) (by omega) hA1 hp)
  have HRR := hid (Rds.fm1 hcs hm hp)
  clear hA hv hi hs hB hc hm hcs hil hp HP hVG hmk hct hd
  go_enter Tryz.func52, Tryz.ntmps52
  go_wp2_with (first | (go_at_call 75; refine HN.out.mono ?_; rintro e w1 ⟨rfl, hb1⟩; have HB1 := hid hb1; clear hb1) | (go_at_call 53; refine (HMK.out _ HB1.out).mono ?_; rintro e w2 ⟨rfl, hA2, hg2⟩; have HA2 := hid hA2; have HG2 := hid (gr_tr (grown_below (row := some g) HB1.out) hg2); clear hA2 hg2) | (go_at_call 77; refine (HPA.out _ HA2.out).mono ?_; rintro e w4 ⟨rfl, hA4, hg4⟩; have HA4 := hid hA4; have HG4 := hid (gr_tr HG2.out hg4); clear hA4 hg4) | (go_at_call 43; refine (concat2 w4 (ndM 5 c) _ [] (NdN.nil B w4) (by simp) (Nat.le_trans HBB.out HG4.out.size) _).mono ?_; rintro e w5 ⟨v5, rfl, hN5, hb5⟩; have HN5 := hid hN5; have HB5 := hid hb5; obtain ⟨a5, c5, rfl⟩ := hN5.form; clear hN5 hb5))
  refine bodyPost_ret (v := .tuple #[.slice a5 [ndM 5 c].length c5, .bool false]) (by simp [results, Tryz.results52, go_sem]) rfl ?_
  exact ⟨_, HRR.out, _, [ndM 5 c], rfl, HN5.out, HA4.out.below HB5.out, gr_tr HG4.out (grown_below HB5.out), (fun M q e => by cases e), by simp [endR]; omega, HIL.out⟩
theorem fac_of (s : ByteArray) (B g d : Nat) (hs : s.size ≤ 300) (hg : g < B) (HP : Ctr 29 2 s B g d) (hVG : ∀ w w', Vars w → w.grownBy w' (some g) → Vars w') :
  Ctr 52 0 s B g (d + 1) := by
 intro w i hi hd hv hA hB
 obtain ⟨c, hc⟩ : ∃ c, nx (bs s) i = c := ⟨_, rfl⟩
 by_cases h1 : c = 123
 ·exact fac_brk s B g hs hg w i hi hv hA hB c hc (.inl h1)
 by_cases h2 : c = 91
 ·exact fac_brk s B g hs hg w i hi hv hA hB c hc (.inr h2)
 by_cases h4 : c = 40
 ·exact fac_par s B g d hs hg HP hVG w i hi (by omega) hv hA hB (by rw [hc, h4])
 cases h3 : isLt [c] with
 | true => exact fac_let s B g hs hg w i hi hA hB c hc h3
 | false =>
  cases h5 : isMk [c] with
  | true => exact fac_mk s B g d hs hg HP hVG w i hi (by omega) hv hA hB c hc h5
  | false => exact fac_none s B g hs hg w i hi hv hA hB c hc h1 h2 h3 h4 h5
end Go.Proofs.YtbamkklhkhglnaaGreatDoor.PeL
namespace Go.Proofs.YtbamkklhkhglnaaGreatDoor.PeM
open Go.RowKit Go.Lib Go.Proofs.YtbamkklhkhglnaaGreatDoor Tow CyA CyB LbC LbD LbN PeA PeD PeE PeF PeG PeH PeI PeJ PeK PeL TrA

theorem prod_all (s : ByteArray) (B g : Nat) (hs : s.size ≤ 300) (hg : g < B) (hVG : ∀ w w', Vars w → w.grownBy w' (some g) → Vars w') : ∀ d, Ctr 29 2 s B g d
 | 0 => prod_of s B g 0 hs hg (term_of s B g 0 hs hg (fun w i hi hd hv hA hB => by
   have hc : nx (bs s) i = 0 := by unfold nx; rw [List.getElem?_eq_none (by rw [bs_len]; omega)]; rfl
   exact fac_none s B g hs hg w i hi hv hA hB 0 hc (by decide) (by decide) (by decide) (by decide) (by decide))) hVG
 | d + 1 => prod_of s B g (d + 1) hs hg (term_of s B g (d + 1) hs hg (fac_of s B g d hs hg (prod_all s B g hs hg hVG d) hVG)) hVG
theorem var_grown {w w' : World} {g g0 : Nat} {n : String} {cs : Array Value} (hn : Tryz.prog.globalNamed n = some g0) (h : w.var? Tryz.prog n = some cs) (hg : w.grownBy w' (some g)) (hne : g0 ≠ g) : w'.var? Tryz.prog n = some cs := by
 have hl := var_lt hn h
 have hb := hg.block g0 hl (fun e => hne (by injection e))
 unfold World.var? at h ⊢
 simp only [hn, Option.bind_some] at h ⊢
 rw [hb]
 exact h
theorem vars_grown {w0 : World} (h0 : Vars w0) : ∀ w w', Vars w → w.grownBy w' (some w0.heap.size) → Vars w' := fun w w' h hg => by
 obtain ⟨⟨u1, q1, k1⟩, ⟨u2, q2, k2⟩, m0, k4⟩ := h0
 obtain ⟨⟨t1, p1, h1⟩, ⟨t2, p2, h2⟩, m, h4⟩ := h
 have l1 := var_lt gSyn k1
 have l2 := var_lt gRng k2
 have l4 := World.block_lt_of_cell? w0 _ k4
 refine ⟨⟨t1, p1, var_grown gSyn h1 hg (Nat.ne_of_lt l1)⟩, ⟨t2, p2, var_grown gRng h2 hg (Nat.ne_of_lt l2)⟩, m, ?_⟩
 rw [(Keep.grown hg (S := fun k => k ≠ w0.heap.size) (fun k hk e => hk (by injection e))).cell (Nat.ne_of_lt l4) (World.block_lt_of_cell? w _ h4)]
 exact h4
end Go.Proofs.YtbamkklhkhglnaaGreatDoor.PeM
namespace Go.Proofs.YtbamkklhkhglnaaGreatDoor.PeN
open Go.RowKit Go.Lib Go.Proofs.YtbamkklhkhglnaaGreatDoor Tow CyA CyB LbC LbD LbN PeA PeD PeE PeF PeG PeM TrA

inductive Out (t : List UInt8) : List Nd → Int → Int → Prop
 | long (h : 300 < t.length) : Out t [] 0 3
 | err {p : Nat} (h : ¬ 300 < t.length) (hr : Rds t 2 [] 0 (.error p)) : Out t [] p 6
 | rest {L : List Nd} {q : Nat} (h : ¬ 300 < t.length) (hr : Rds t 2 [] 0 (.ok (L, q))) (hq : q < t.length) : Out t [] q 6
 | many {L : List Nd} {q : Nat} (h : ¬ 300 < t.length) (hr : Rds t 2 [] 0 (.ok (L, q))) (hq : ¬ q < t.length) (hl : 30 < L.length) : Out t [] 0 3
 | good {L : List Nd} {q : Nat} (h : ¬ 300 < t.length) (hr : Rds t 2 [] 0 (.ok (L, q))) (hq : ¬ q < t.length) (hl : ¬ 30 < L.length) : Out t L 0 0
def PxR (t : List UInt8) (w : World) (e : Ending) (w' : World) : Prop := ∃ v L p c, e = .returned (.tuple #[v, .int .i64 p, .int .i64 c]) ∧ Out t L p c ∧ NdN w.heap.size w' v L ∧ Below w.heap.size w w'
theorem ipx_any (s : ByteArray) (w : World) (hv : Vars w) : Calls Tryz.prog 8 #[.string s] w (PxR (bs s) w) := by
 by_cases hs : 300 < s.size
 ·have HO := hid (show Out (bs s) [] 0 3 from .long (by rw [bs_len]; exact hs))
  have hd : (s.size : Int) > 300 := by omega
  clear hs
  go_enter Tryz.func8, Tryz.ntmps8
  go_wp2_with fail
  refine bodyPost_ret (v := .tuple #[.slice none 0 0, .int .i64 0, .int .i64 3]) (by simp [results, Tryz.results8, go_sem]) rfl ?_
  exact ⟨_, [], _, _, rfl, HO.out, .nil _ _, Below.refl _ _⟩
 ·have hn : ¬ 300 < (bs s).length := by rw [bs_len]; exact hs
  have hd : ¬ (s.size : Int) > 300 := by omega
  obtain ⟨g, hg⟩ : ∃ g, w.heap.size = g := ⟨_, rfl⟩
  obtain ⟨w1, hw1⟩ : ∃ w1, w.alloc (.cells #[.string s, .int .i64 0] 52) = w1 := ⟨_, rfl⟩
  have hb1 : Below w.heap.size w w1 := by rw [← hw1]; exact (Below.refl _ _).alloc (Nat.le_refl _) _
  have hA1 : RdA w1 g s 0 := by rw [← hw1, ← hg]; exact World.alloc_heap_new w _
  have hgl : g + 1 ≤ w1.heap.size := hA1.cells.2.2
  have HP := hid (prod_all s (g + 1) g (by omega) (by omega) (by rw [← hg]; exact vars_grown hv) s.size w1 0 (by omega) (by omega) (hv.below hb1) hA1 hgl)
  have HB1 := hid hb1
  have HN := hid hn
  have HG := hid hg
  have HW1 := hid hw1
  clear hs hn hb1 hA1 hgl hv hg
  go_enter Tryz.func8, Tryz.ntmps8
  go_upto_region 4 with fail
  simp only [hw1, HG.out]
  clear hw1
  go_upto_region 5 with (go_at_call 29; refine HP.out.mono ?_; rintro e w2 ⟨r, hr, v, L, rfl, hN2, hA2, hg2, hM, hlen, hend⟩; have HR := hid hr; have HN2 := hid hN2; have HA2 := hid hA2; have HG2 := hid hg2; have HMM := hid hM; have HLE := hid hlen; have HEN := hid hend; obtain ⟨a, c, rfl⟩ := hN2.form; clear hr hN2 hA2 hg2 hM hlen hend)
  have HB2 := hid (show Below w.heap.size w w2 from HB1.out.grown HG2.out HB1.out.size (fun k hk => by have := HG.out; injection hk; omega))
  have hmono : ∀ L' v', NdN (g + 1) w2 v' L' → NdN w.heap.size w2 v' L' := fun L' v' h => PeF.NdN.mono h (by have := HG.out; omega)
  have HMO := hid hmono
  clear hmono
  obtain ⟨⟨c0, c1⟩, f1, hgl⟩ := HA2.out.cells
  cases r with
  | error p =>
   have hq : (!isErr (.error p : Rd)) = false := rfl
   have he : endR (.error p : Rd) = p := rfl
   simp only [hq]
   simp only [he] at c1
   have HO := hid (show Out (bs s) [] (p : Int) 6 from .err HN.out HR.out)
   go_wp2_with fail
   go_region
   go_wp2_with fail
   refine bodyPost_ret (v := .tuple #[.slice none 0 0, .int .i64 (p : Int), .int .i64 6]) (by simp [results, Tryz.results8, go_sem]) rfl ?_
   exact ⟨_, [], _, _, rfl, HO.out, .nil _ _, HB2.out.drew⟩
  | ok rq =>
   obtain ⟨M, q⟩ := rq
   obtain rfl := HMM.out M q rfl
   have hq : (!isErr (.ok (L, q) : Rd)) = true := rfl
   have he : endR (.ok (L, q) : Rd) = q := rfl
   simp only [hq]
   simp only [he] at c1
   by_cases hql : q < s.size
   ·have HO := hid (show Out (bs s) [] (q : Int) 6 from .rest (L := L) HN.out HR.out (by rw [bs_len]; exact hql))
    have hd1 : decide ((q : Int) < (s.size : Int)) = true := decide_eq_true (by omega)
    go_wp2_with fail
    go_region
    go_wp2_with fail
    refine bodyPost_ret (v := .tuple #[.slice none 0 0, .int .i64 (q : Int), .int .i64 6]) (by simp [results, Tryz.results8, go_sem]) rfl ?_
    exact ⟨_, [], _, _, rfl, HO.out, .nil _ _, HB2.out.drew⟩
   ·have hd1 : decide ((q : Int) < (s.size : Int)) = false := decide_eq_false (by omega)
    by_cases hL : 30 < L.length
    ·have HO := hid (show Out (bs s) [] 0 3 from .many (L := L) (q := q) HN.out HR.out (by rw [bs_len]; exact hql) hL)
     have hd2 : decide ((L.length : Int) > 30) = true := decide_eq_true (by omega)
     go_wp2_with fail
     refine bodyPost_ret (v := .tuple #[.slice none 0 0, .int .i64 0, .int .i64 3]) (by simp [results, Tryz.results8, go_sem]) rfl ?_
     exact ⟨_, [], _, _, rfl, HO.out, .nil _ _, HB2.out⟩
    ·have HO := hid (show Out (bs s) L 0 0 from .good (q := q) HN.out HR.out (by rw [bs_len]; exact hql) hL)
     have hd2 : decide ((L.length : Int) > 30) = false := decide_eq_false (by omega)
     go_wp2_with fail
     refine bodyPost_ret (v := .tuple #[.slice a L.length c, .int .i64 0, .int .i64 0]) (by simp [results, Tryz.results8, go_sem]) rfl ?_
     exact ⟨_, L, _, _, rfl, HO.out, HMO.out _ _ HN2.out, HB2.out⟩
end Go.Proofs.YtbamkklhkhglnaaGreatDoor.PeN
