-- Written by rows2.py (a program of this repo) for this seat: the row.
import Derived.Test.YtkfloghdnklakaaRows
import Derived.Test.YtkfloghdnklakaaQx10
import Derived.Test.YtkfloghdnklakaaOpenT
import Derived.Test.YtkfloghdnklakaaSayLayoutOne
import Derived.Test.YtkfloghdnklakaaPureLayoutOne
import Derived.WalkKit
import Derived.ProofKit
import Derived.OpenShut
import Derived.ShutString
import Derived.ChangeOld
import Derived.Below
import Derived.SizedLaws
import Derived.Carry
namespace Go.Proofs.Ytkfloghdnklakaa.layoutOne
open Go.ChangeShapes Go.WideShapes Go.ChangeAt Go.RowKit
open Go.ChangeMaps (open_string shut_string)
open Go.Proofs.YtkfloghdnklakaaW.PrintWords
set_option linter.unusedVariables false
theorem own : ownKnob Try.prog.godebug = none := by kernel_rfl
theorem laidOut : laidOutB Try.prog = true := by kernel_rfl
set_option maxRecDepth 100000 in
theorem lifted (os : Os) (started : os.Started) (H : Type) (enc : TypeId × Value → H) :
    ReturnsInHanded {} Try.checked os 6 .any (Rows.layoutOneSpec.pre6 enc Try.prog Try.f6 Rows.layoutOneRow.domain false) (Rows.layoutOneSpec.post enc Try.prog Try.f6 false true false false) := by
  refine returnsInHanded_of_change_sized (C := Try.checked) own started (by kernel_rfl) Try.func6
    (ChangeSpec.witness6 (enc := enc) (C := Try.checked) false ⟨#[], #[.agg #[.int .i64 0, .int .i64 0], .agg #[.int .i64 0, .int .i64 0]], []⟩ 8 (by kernel_rfl) (by kernel_rfl) (by kernel_rfl) (by kernel_rfl)) ?_
  intro W base args ds gs before hval0 hW hcnd hsz0 _
  have hsz : (DataW.weightsEach Try.prog (Try.f6.params.toList ++ Rows.layoutOneSpec.plain.varTypes Try.prog) (ds ++ gs)).all (· ≤ reachBytes) = true := hsz0
  have hval : ∀ (j : Nat) t v, Try.f6.params[j]? = some t → args[j]? = some v → Value.okWide Try.prog W .any base t v := hval0
  have hW' := hW
  obtain ⟨p, q, hA0, hV, rfl, hfz, hnd⟩ := hW
  have hA : DataW.TrodAll enc Try.prog W 0 (fun _ => true) true Try.f6.params.toList args.toList ds p := hA0
  rw [Try.params6] at hA hval hsz
  obtain ⟨v0, vs0, d0, ds0, p0, q0, hargs, rfl, rfl, h0, r0⟩ := trodAll_cons hA
  obtain ⟨v1, vs1, d1, ds1, p1, q1, rfl, rfl, rfl, h1, r1⟩ := trodAll_cons r0
  obtain ⟨rfl, rfl, rfl⟩ := trodAll_nil r1
  obtain rfl : args = #[v0, v1] := by cases args; simp_all
  obtain ⟨rfl, rfl⟩ := trodVars_none hV
  have k0 := h0
  have lt0 : ∀ x ∈ p0, x.block < W.heap.size := by obtain ⟨m, hm⟩ := k0; exact DataW.trod_lt m _ _ _ hm
  have wt0 := OpenC.arg_weights hsz (j := 0) (t := 32) rfl rfl
  obtain ⟨cs0, rfl⟩ := OpenC.okWide_array Try.underlying32 (hval 0 32 v0 rfl rfl)
  obtain ⟨f0_0, f0_1, ec0, hG0_0, hG0_1, -⟩ := OpenC.open_agg Q.cells_32 h0 wt0
  obtain rfl := OpenC.agg_of ec0
  have k1 := h1
  have lt1 : ∀ x ∈ p1, x.block < W.heap.size := by obtain ⟨m, hm⟩ := k1; exact DataW.trod_lt m _ _ _ hm
  have wt1 := OpenC.arg_weights hsz (j := 1) (t := 32) rfl rfl
  obtain ⟨cs1, rfl⟩ := OpenC.okWide_array Try.underlying32 (hval 1 32 v1 rfl rfl)
  obtain ⟨f1_0, f1_1, ec1, hG1_0, hG1_1, -⟩ := OpenC.open_agg Q.cells_32 h1 wt1
  obtain rfl := OpenC.agg_of ec1
  clear hA0 hval0 hsz0 hsz
  obtain ⟨k, hk⟩ := Pure.LayoutOne f0_0 f0_1 f1_0 f1_1 hG0_0 hG0_1 hG1_0 hG1_1
  refine (Q.lockgatelaw13_LayoutOne.calls k f0_0 f0_1 f1_0 f1_1 true W hk).mono fun e W' he => ?_
  obtain ⟨he, bel_⟩ := he
  have bel : Below W.heap.size W W' := by first | exact bel_ | exact bel_.below
  subst he
  exact ⟨_, rfl, _, _, _, [], _, [], hW', trodAll_mk1 (shut_bool Try.underlying4 _), (trodAll_cons_mk (Below.trod laidOut (by kernel_rfl) (of_decide_eq_true (by kernel_rfl)) k0 bel lt0) (trodAll_cons_mk (Below.trod laidOut (by kernel_rfl) (of_decide_eq_true (by kernel_rfl)) k1 bel lt1) trodAll_mk0)), rfl, bel.frame _, fun h => by cases h⟩
theorem over : Rows.layoutOneRow.holds Try.pinned (OpenSpec.ofChange Rows.layoutOneSpec) :=
  OpenClaim.holds_of_wide 6 Try.f6 rfl rfl rfl rfl rfl rfl rfl ⟨rfl, rfl, rfl, rfl, rfl⟩ rfl rfl rfl rfl rfl (by kernel_rfl) Try.func6 (by kernel_rfl)
    (of_decide_eq_true (by kernel_rfl)) (by unfold Func.isWrapper; first | (rw [if_pos (by decide +kernel)]; kernel_rfl) | (rw [if_neg (by decide +kernel)]; exact ⟨rfl, rfl⟩))
    (fun os started H enc _ => lifted os started H enc)
theorem proved : Rows.LayoutOneSaid := over
#print axioms proved
end Go.Proofs.Ytkfloghdnklakaa.layoutOne
namespace Go.Proofs.Ytkfloghdnklakaa
/-- The row, under a short name, for the claim. -/
theorem layoutOne_holds : Rows.LayoutOneSaid := layoutOne.proved
end Go.Proofs.Ytkfloghdnklakaa
