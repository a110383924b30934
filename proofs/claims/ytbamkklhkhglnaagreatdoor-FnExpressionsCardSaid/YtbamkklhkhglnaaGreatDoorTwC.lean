import Derived.Test.YtbamkklhkhglnaaGreatDoorTwB
import Derived.Deep.RegionLaw
/-
  impl.presentationText.
-/
namespace Go.Proofs.YtbamkklhkhglnaaGreatDoor.TwC
open Go.RowKit Go.Lib Go.Proofs.YtbamkklhkhglnaaGreatDoor Go.Proofs.YtbamkklhkhglnaaGreatDoor.Tow Go.Proofs.YtbamkklhkhglnaaGreatDoor.CyA Go.Proofs.YtbamkklhkhglnaaGreatDoor.TxA Go.Proofs.YtbamkklhkhglnaaGreatDoor.TxB Go.Proofs.YtbamkklhkhglnaaGreatDoor.TxC Go.Proofs.YtbamkklhkhglnaaGreatDoor.TmA Go.Proofs.YtbamkklhkhglnaaGreatDoor.TiA Go.Proofs.YtbamkklhkhglnaaGreatDoor.TwA Go.Proofs.YtbamkklhkhglnaaGreatDoor.TwB Go.Proofs.YtbamkklhkhglnaaGreatDoor.Val
set_option linter.unusedVariables false
set_option linter.unusedSimpArgs false

theorem powR_succ (p : RP) (k : Nat) : powR p (k + 1) = powR p k ++ (pwF p k).toList := by
  unfold powR
  rw [List.range_succ, List.filterMap_append]
  cases h : pwF p k <;> simp [h]
theorem conI_succ (p : RP) (i k : Nat) : conI p i (k + 1) = conI p i k ++ (cjF p i k).toList := by
  unfold conI
  rw [List.range_succ, List.filterMap_append]
  cases h : cjF p i k <;> simp [h]
theorem conR_succ (p : RP) (i : Nat) : conR p (i + 1) = conR p i ++ conI p i (p.os.length - (i + 1)) := by
  unfold conR
  rw [List.range_succ, List.flatMap_append]
  simp
theorem powR_len (p : RP) : ∀ k, (powR p k).length ≤ k
  | 0 => Nat.le_refl _
  | k + 1 => by
    rw [powR_succ, List.length_append]
    have := powR_len p k
    cases pwF p k <;> simp <;> omega
theorem conI_len (p : RP) (i : Nat) : ∀ k, (conI p i k).length ≤ k
  | 0 => Nat.le_refl _
  | k + 1 => by
    rw [conI_succ, List.length_append]
    have := conI_len p i k
    cases cjF p i k <;> simp <;> omega
theorem conR_len (p : RP) {n : Nat} (hn : p.os.length = n) : ∀ i, (conR p i).length ≤ i * n
  | 0 => Nat.zero_le _
  | i + 1 => by
    rw [conR_succ, List.length_append, Nat.succ_mul]
    have h1 := conR_len p hn i
    have h2 := conI_len p i (p.os.length - (i + 1))
    omega
/-- a presentation whose text is written -/
structure TxOk (n : Nat) (p : RP) : Prop where
  gd : Gd n p
  pb : ∀ r ∈ p.ps, ∀ x ∈ r, x ≤ 100
  cb : ∀ L ∈ p.cs, ∀ r ∈ L, ∀ x ∈ r, x ≤ 100
theorem wdF_len (v : List Nat) (h : ∀ x ∈ v, x ≤ 100) : (wdF 0 v).length ≤ v.length * 100 := by
  rw [← nwF_wdF, List.length_map]
  exact nwF_len v 0 100 h
theorem wtx_len (v : List Nat) (h : ∀ x ∈ v, x ≤ 100) : (wtx v).length ≤ v.length * 100 + 1 := by
  have := wdF_len v h
  unfold wtx
  split
  · simp
  · omega
theorem TxOk.rb {n : Nat} {p : RP} (h : TxOk n p) {r : Rl} (hr : r ∈ rels p) : ∀ x ∈ r.v, x ≤ 100 := by
  have ha := (rels_ok h.gd.sh r hr).2
  unfold Agr at ha
  intro x hx
  split at ha
  · exact h.pb r.v (List.mem_of_getElem? ha) x hx
  · rename_i i hi
    unfold RP.cj at ha
    obtain ⟨L, hL, hv⟩ := Option.bind_eq_some_iff.1 ha
    exact h.cb L (List.mem_of_getElem? hL) r.v (List.mem_of_getElem? hv) x hx
theorem TxOk.rl {n : Nat} {p : RP} (h : TxOk n p) {r : Rl} (hr : r ∈ rels p) : (relT p.os r).length ≤ 1000 := by
  have hw := (rels_ok h.gd.sh r hr).1
  have h6 := h.gd.n6
  obtain ⟨b, e, _⟩ := byT_one (n := n) (by omega) h.gd.sh.os h.gd.pr hw
  have := wtx_len r.v (h.rb hr)
  rw [hw.v] at this
  unfold relT
  rw [e]
  simp
  omega
theorem join_len32 : ∀ (os : List Int), Prs os → (join (os.map dT) [32]).length ≤ 2 * os.length
  | [], _ => by simp [join_nil]
  | o :: os, h => by
    rw [List.map_cons, join_length]
    have key : ∀ (l : List Int), Prs l → lens (l.map dT) = l.length := by
      intro l
      induction l with
      | nil => intro _; rfl
      | cons a l ih =>
        intro h
        obtain ⟨b, e, _⟩ := dT_prime (h a (by simp))
        have := ih (fun x hx => h x (List.mem_cons_of_mem _ hx))
        unfold lens at this ⊢
        simp only [List.map_cons, List.sum_cons, this, e, List.length_cons, List.length_nil]
        omega
    have := key (o :: os) h
    rw [List.map_cons] at this
    rw [this]
    simp
    omega
theorem ordT_len {os : List Int} (h : Prs os) (h6 : os.length ≤ 6) : (ordT os).length ≤ 12 := by
  unfold ordT
  split
  · simp
  · have := join_len32 os h
    omega
theorem TxOk.pieces {n : Nat} {p : RP} (h : TxOk n p) : ∀ x ∈ ordT p.os :: (rels p).map (relT p.os), x.length ≤ 1000 := by
  intro x hx
  rcases List.mem_cons.1 hx with rfl | hx
  · have := ordT_len h.gd.pr (by rw [h.gd.sh.os]; exact h.gd.n6)
    omega
  · obtain ⟨r, hr, rfl⟩ := List.mem_map.1 hx
    exact h.rl hr
/-- the texts of the orders -/
def OT (os : List Int) : List (List UInt8) := if os = [] then [[49]] else os.map dT
theorem OT_join (os : List Int) : join (OT os) [32] = ordT os := by
  unfold OT ordT
  split
  · rfl
  · rfl
theorem zero_zer (v : List Nat) : ImplV.Zero (ints v) ↔ v = zer v.length := by
  unfold ImplV.Zero zer ints
  constructor
  · intro h
    exact List.eq_replicate_iff.2 ⟨rfl, fun x hx => by
      have := h (x : Int) (List.mem_map.2 ⟨x, hx, rfl⟩)
      omega⟩
  · intro h x hx
    obtain ⟨y, hy, rfl⟩ := List.mem_map.1 hx
    rw [h] at hy
    have := (List.mem_replicate.1 hy).2
    rw [this]; rfl
def PT (p : RP) (rs : List Rl) : List (List UInt8) := ordT p.os :: rs.map (relT p.os)
theorem PT_app (p : RP) (a b : List Rl) : PT p (a ++ b) = PT p a ++ b.map (relT p.os) := by simp [PT]
theorem kS_mk {B : Nat} {wr w' : World} (hB : B ≤ wr.heap.size) (h : Keep (fun k => k < B) wr w') : (∀ b o, b < B → w'.cell? ⟨b, o, none⟩ = wr.cell? ⟨b, o, none⟩) ∧ Keep (fun k => k < B) wr w' := ⟨fun b o hb => h.cell hb (Nat.lt_of_lt_of_le hb hB), h⟩
/-- the bytes of a relation's text, put together -/
theorem rel_bytes (a x s : ByteArray) (j : Nat) (y : List UInt8) (os : List Int) (r : Rl) (hj : r.j = j) (hx : x.data.toList = byT os r) (hs : s.data.toList = wtx r.v) :
    (((((⟨#[ltr j]⟩ : ByteArray) ++ ⟨#[94]⟩) ++ x) ++ ⟨#[61]⟩) ++ s).data.toList = relT os r := by
  subst hj
  unfold relT
  rw [← hx, ← hs]
  simp [ByteArray.data_append]
end Go.Proofs.YtbamkklhkhglnaaGreatDoor.TwC
