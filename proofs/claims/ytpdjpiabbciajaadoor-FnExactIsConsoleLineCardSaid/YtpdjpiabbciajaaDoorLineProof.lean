/-
  WHAT IS PROVED: the law FnExactIsConsoleLine holds of the given program for every input: the call returns true, and its arguments read afterwards as before.
  CONDITIONS: the package-level variables that the row lists hold what their initialisers lay (the card ties them); nothing else is assumed.
-/
import Derived.Test.YtpdjpiabbciajaaDoorCards
import Derived.Test.YtpdjpiabbciajaaDoorTie
import Derived.Test.YtpdjpiabbciajaaDoorLineLaw
import Derived.WalkKit
import Derived.ProofKit
import Derived.OpenShut
import Derived.ShutString
import Derived.ChangeOld
import Derived.Below
import Derived.Carry
import Derived.Deep.DeepHandedRow
import Derived.Deep.DeepWitnessRowRef
import Derived.Lib.LaidTab
import Derived.Stop.LaidErr
import Derived.Lay
namespace Go.Proofs.YtpdjpiabbciajaaDoor.isLine
open Go.ChangeShapes Go.WideShapes Go.ChangeAt Go.RowKit
open Go.ChangeMaps (open_string shut_string)
set_option linter.unusedVariables false
set_option linter.unusedSimpArgs false

theorem own : ownKnob Tryd.prog.godebug = none := by kernel_rfl
theorem g_p10 : Tryd.prog.globalNamed "internal/strconv.uint64pow10" = some 1 := by kernel_rfl
theorem gt_p10 : (Tryd.prog.globals[1]?).map (·.type) = some 71 := by kernel_rfl
theorem ca_p10 : Tryd.prog.cellsOf 71 = 20 := by kernel_rfl
theorem ce_p10 : Tryd.prog.cellsOf 63 = 1 := by kernel_rfl
theorem tab_p10 {W : World} (h : laidMetH Tryd.prog Rows.fnExactIsConsoleLineRow.laid W) : Lib.TabIs Tryd.prog W "internal/strconv.uint64pow10" .u64 [1, 10, 100, 1000, 10000, 100000, 1000000, 10000000, 100000000, 1000000000, 10000000000, 100000000000, 1000000000000, 10000000000000, 100000000000000, 1000000000000000, 10000000000000000, 100000000000000000, 1000000000000000000, 10000000000000000000] :=
  Lib.tabIs_of_head g_p10 gt_p10 Tryd.underlying71 Tryd.underlying63 ce_p10 ca_p10 (laidMet.tail (laidMet.tail h))

theorem row_es (u : TypeId) (h : Tryd.prog.typeName? 3 u = some "*errors.errorString") : u = 93 :=
  typeName_ptr_named (nm := "errors.errorString") (by kernel_rfl) (by kernel_rfl) (by decide) u h
theorem ce_es : Tryd.prog.cellsOf 95 = 1 := by kernel_rfl
theorem ce_str : Tryd.prog.cellsOf 9 = 1 := by kernel_rfl
theorem g_ErrRange : Tryd.prog.globalNamed "strconv.ErrRange" = some 3 := by kernel_rfl
theorem gt_ErrRange : (Tryd.prog.globals[3]?).map (·.type) = some 58 := by kernel_rfl
theorem sen_ErrRange {W : World} (h : laidMetH Tryd.prog Rows.fnExactIsConsoleLineRow.laid W) : ∃ tp p, W.var? Tryd.prog "strconv.ErrRange" = some #[.iface tp p] := by
  obtain ⟨a, s, h1, _⟩ := laid_sentinel (laidMet.tail (laidMet.tail (laidMet.tail h))) g_ErrRange gt_ErrRange Tryd.underlying58 row_es Tryd.underlying93 Tryd.underlying95 rfl rfl Tryd.underlying9 ce_es ce_str
  exact ⟨_, _, h1⟩
theorem g_ErrSyntax : Tryd.prog.globalNamed "strconv.ErrSyntax" = some 2 := by kernel_rfl
theorem gt_ErrSyntax : (Tryd.prog.globals[2]?).map (·.type) = some 58 := by kernel_rfl
theorem sen_ErrSyntax {W : World} (h : laidMetH Tryd.prog Rows.fnExactIsConsoleLineRow.laid W) : ∃ tp p, W.var? Tryd.prog "strconv.ErrSyntax" = some #[.iface tp p] := by
  obtain ⟨a, s, h1, _⟩ := laid_sentinel (laidMet.tail (laidMet.tail (laidMet.tail (laidMet.tail h)))) g_ErrSyntax gt_ErrSyntax Tryd.underlying58 row_es Tryd.underlying93 Tryd.underlying95 rfl rfl Tryd.underlying9 ce_es ce_str
  exact ⟨_, _, h1⟩
theorem vars {W : World} (h : laidMetH Tryd.prog Rows.fnExactIsConsoleLineRow.laid W) (hsh : W.ShapedOpen Tryd.prog) : ConsWalks.Vars W :=
  ⟨sen_ErrSyntax h, sen_ErrRange h, tab_p10 h, Tryd.layscM145.s1_3 W hsh⟩

set_option maxRecDepth 100000 in
theorem contract (H : Type) (enc : TypeId × Value → H) (W : World) (base : Nat) (args : Array Value) (ds gs : List (DataW H)) (before : List MemPlace)
    (hval : ∀ (j : Nat) t v, Tryd.f6.params[j]? = some t → args[j]? = some v → Value.okWide Tryd.prog W .any base t v)
    (hW : DataW.Whole enc Tryd.prog Tryd.f6.params.toList Rows.fnExactIsConsoleLineSpec.vars false W args.toList ds gs before) (hL : laidMetH Tryd.prog Rows.fnExactIsConsoleLineRow.laid W) (hsh : W.ShapedOpen Tryd.prog) :
    Calls Tryd.prog 6 args W fun e W' => ∃ v, e = .returned v ∧ Rows.fnExactIsConsoleLineSpec.post enc Tryd.prog Tryd.f6 false true false false W args v W' := by
  have hW' := hW
  obtain ⟨p, q, hA0, hV, rfl, hfz, hnd⟩ := hW
  have hA : DataW.TrodAll enc Tryd.prog W 0 (fun _ => true) true Tryd.f6.params.toList args.toList ds p := hA0
  rw [Tryd.params6] at hA hval
  obtain ⟨v0, vs0, d0, ds0, p0, q0, hargs, rfl, rfl, h0, r0⟩ := trodAll_cons hA
  obtain ⟨rfl, rfl, rfl⟩ := trodAll_nil r0
  obtain rfl : args = #[v0] := by cases args; simp_all
  obtain ⟨rfl, rfl⟩ := trodVars_none hV
  obtain ⟨a0, rfl, rfl, rfl, w0⟩ := open_string Tryd.underlying9 (hval 0 9 v0 rfl rfl) h0
  refine (LineLaw.law a0 W w0 (vars hL hsh)).mono fun e W' ⟨he, bel⟩ => ?_
  subst he
  exact ⟨_, rfl, _, _, _, [], _, [], hW', trodAll_mk1 (shut_bool Tryd.underlying4 _), (trodAll_cons_mk (shut_string Tryd.underlying9 w0) trodAll_mk0), rfl, bel.frame _, fun h => by cases h⟩

set_option maxRecDepth 100000 in
theorem laid_met (os : Os) (args : Array Value) : laidMet Tryd.prog Rows.fnExactIsConsoleLineRow.laid ((World.laidAll Tryd.prog os Rows.fnExactIsConsoleLineRow.laid).forCall (fun _ _ => 0) ⟨#[], args, []⟩).memory :=
  laidMet_laidAll args (by kernel_rfl) (by kernel_rfl)
theorem reads (os : Os) {H : Type} (enc : TypeId × Value → H) : ∃ places, DataW.whole enc Tryd.prog ((World.laidAll Tryd.prog os Rows.fnExactIsConsoleLineRow.laid).forCall (fun _ _ => 0) ⟨#[], #[(.string ByteArray.empty : Value)], []⟩).memory Tryd.f6.params.toList Rows.fnExactIsConsoleLineSpec.vars false (#[(.string ByteArray.empty : Value)] : Array Value).toList 8 = some ([.lit (.string [])], [], places) :=
  ⟨[], by kernel_rfl⟩

set_option maxRecDepth 100000 in
theorem lifted (os : Os) (started : os.Started) (H : Type) (enc : TypeId × Value → H) (F : Stop.Interp) :
    ReturnsInHanded {} Tryd.checked os 6 .any ((OpenSpec.ofChange Rows.fnExactIsConsoleLineSpec).preRow enc Tryd.prog Tryd.f6 Rows.fnExactIsConsoleLineRow.domain false Rows.fnExactIsConsoleLineRow.laid) (((OpenSpec.ofChange Rows.fnExactIsConsoleLineSpec).at F).post enc Tryd.prog Tryd.f6 false true false false) := by
  obtain ⟨places, hx⟩ := reads os enc
  refine returnsInHanded_of_row (C := Tryd.checked) (s := (OpenSpec.ofChange Rows.fnExactIsConsoleLineSpec)) own started (by kernel_rfl) Tryd.func6
    (witness_row_atRef (enc := enc) (C := Tryd.checked) false (World.laidAll Tryd.prog os Rows.fnExactIsConsoleLineRow.laid) #[(.string ByteArray.empty : Value)] (World.laidAll_os _ _ _) (by kernel_rfl) (by kernel_rfl) (by kernel_rfl)
      (OpenSpec.preRow_of_cond 8 hx (by kernel_rfl) (fun k hk => by cases hk) (by kernel_rfl) (laid_met os _))) ?_
  intro W base args ds gs before hval hW _ hcond _ hL hsh _
  exact contract H enc W base args ds gs before hval hW hL hsh

theorem said : Rows.FnExactIsConsoleLineSaid :=
  OpenClaim.holds_of_cond 6 Tryd.f6 rfl rfl rfl rfl rfl rfl rfl ⟨rfl, rfl, rfl, rfl, rfl⟩ rfl rfl rfl rfl rfl (by kernel_rfl) Tryd.func6 (by kernel_rfl)
    (of_decide_eq_true (by kernel_rfl)) (by unfold Func.isWrapper; first | (rw [if_pos (by decide +kernel)]; kernel_rfl) | (rw [if_neg (by decide +kernel)]; exact ⟨rfl, rfl⟩))
    (fun os started H enc _ F => by rw [OpenClaim.pre_eq_preRow]; exact lifted os started H enc F)

theorem plain (f : FuncId) (fn : Func) (hf : Tryd.pinned.checked.prog.funcNamed "loop.example/g01076/laws.FnExactIsConsoleLine" = some f) (hfn : Tryd.pinned.checked.prog.funcs[f]? = some fn) :
    true = Tryd.pinned.checked.prog.looks [] ∧ ∀ (j : Nat) t, fn.params[j]? = some t → Tryd.pinned.checked.prog.wantsStandIn t = false := by
  obtain rfl : f = 6 := Option.some.inj ((show Tryd.prog.funcNamed "loop.example/g01076/laws.FnExactIsConsoleLine" = some 6 by kernel_rfl).symm.trans hf) |>.symm
  obtain rfl : fn = Tryd.f6 := (Option.some.inj (Tryd.func6.symm.trans hfn)).symm
  refine ⟨by kernel_rfl, fun j t ht => ?_⟩
  rw [Tryd.params6] at ht
  have hm := Array.mem_of_getElem? ht
  simp only [List.mem_toArray, List.mem_cons, List.not_mem_nil, or_false] at hm
  rcases hm with rfl
  · exact (show Tryd.prog.wantsStandIn 9 = false by kernel_rfl)

theorem proved : Rows.FnExactIsConsoleLineCardSaid :=
  Claim7.holds_tied_plain_at .later [] _ _ _ _ said (fun _ h => by cases h) (by kernel_rfl) (fun _ h => by cases h) fnExactIsConsoleLine_row_tie rfl ⟨rfl, rfl⟩ (by kernel_rfl) rfl plain (by kernel_rfl)
#print axioms proved
end Go.Proofs.YtpdjpiabbciajaaDoor.isLine
