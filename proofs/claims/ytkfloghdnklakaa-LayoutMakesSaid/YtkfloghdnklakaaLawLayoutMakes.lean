-- Written by rows2.py (a program of this repo) for this seat: the row.
import Derived.Test.YtkfloghdnklakaaRows
import Derived.Test.YtkfloghdnklakaaQx10
import Derived.Test.YtkfloghdnklakaaOpenT
import Derived.Test.YtkfloghdnklakaaSayLayoutMakes
import Derived.Test.YtkfloghdnklakaaPureLayoutMakes
import Derived.WalkKit
import Derived.ProofKit
import Derived.OpenShut
import Derived.ShutString
import Derived.ChangeOld
import Derived.Below
import Derived.SizedLaws
import Derived.Carry
namespace Go.Proofs.Ytkfloghdnklakaa.layoutMakes
open Go.ChangeShapes Go.WideShapes Go.ChangeAt Go.RowKit
open Go.ChangeMaps (open_string shut_string)
open Go.Proofs.YtkfloghdnklakaaW.PrintWords
set_option linter.unusedVariables false
theorem own : ownKnob Try.prog.godebug = none := by kernel_rfl
theorem laidOut : laidOutB Try.prog = true := by kernel_rfl
set_option maxRecDepth 100000 in
theorem lifted (os : Os) (started : os.Started) (H : Type) (enc : TypeId × Value → H) :
    ReturnsInHanded {} Try.checked os 5 .any (Rows.layoutMakesSpec.pre6 enc Try.prog Try.f5 Rows.layoutMakesRow.domain false) (Rows.layoutMakesSpec.post enc Try.prog Try.f5 false true false false) := by
  refine returnsInHanded_of_change_sized (C := Try.checked) own started (by kernel_rfl) Try.func5
    (ChangeSpec.witness6 (enc := enc) (C := Try.checked) false ⟨#[], #[.agg #[.int .i64 0, .int .i64 0], .agg #[.int .i64 0, .int .i64 0, .int .i64 0, .int .i64 0], .string ByteArray.empty], []⟩ 8 (by kernel_rfl) (by kernel_rfl) (by kernel_rfl) (by kernel_rfl)) ?_
  intro W base args ds gs before hval0 hW hcnd hsz0 _
  have hsz : (DataW.weightsEach Try.prog (Try.f5.params.toList ++ Rows.layoutMakesSpec.plain.varTypes Try.prog) (ds ++ gs)).all (· ≤ reachBytes) = true := hsz0
  have hval : ∀ (j : Nat) t v, Try.f5.params[j]? = some t → args[j]? = some v → Value.okWide Try.prog W .any base t v := hval0
  have hW' := hW
  obtain ⟨p, q, hA0, hV, rfl, hfz, hnd⟩ := hW
  have hA : DataW.TrodAll enc Try.prog W 0 (fun _ => true) true Try.f5.params.toList args.toList ds p := hA0
  rw [Try.params5] at hA hval hsz
  obtain ⟨v0, vs0, d0, ds0, p0, q0, hargs, rfl, rfl, h0, r0⟩ := trodAll_cons hA
  obtain ⟨v1, vs1, d1, ds1, p1, q1, rfl, rfl, rfl, h1, r1⟩ := trodAll_cons r0
  obtain ⟨v2, vs2, d2, ds2, p2, q2, rfl, rfl, rfl, h2, r2⟩ := trodAll_cons r1
  obtain ⟨rfl, rfl, rfl⟩ := trodAll_nil r2
  obtain rfl : args = #[v0, v1, v2] := by cases args; simp_all
  obtain ⟨rfl, rfl⟩ := trodVars_none hV
  have k0 := h0
  have lt0 : ∀ x ∈ p0, x.block < W.heap.size := by obtain ⟨m, hm⟩ := k0; exact DataW.trod_lt m _ _ _ hm
  have wt0 := OpenC.arg_weights hsz (j := 0) (t := 32) rfl rfl
  obtain ⟨cs0, rfl⟩ := OpenC.okWide_array Try.underlying32 (hval 0 32 v0 rfl rfl)
  obtain ⟨f0_0, f0_1, ec0, hG0_0, hG0_1, -⟩ := OpenC.open_agg Q.cells_32 h0 wt0
  obtain rfl := OpenC.agg_of ec0
  have k1 := h1
  have lt1 : ∀ x ∈ p1, x.block < W.heap.size := by obtain ⟨m, hm⟩ := k1; exact DataW.trod_lt m _ _ _ hm
  have wt1 := OpenC.arg_weights hsz (j := 1) (t := 24) rfl rfl
  obtain ⟨cs1, rfl, _⟩ := okWide_struct Try.underlying24 (hval 1 24 v1 rfl rfl)
  obtain ⟨f1_0, f1_1, f1_2, f1_3, ec1, hG1_0, hG1_1, hG1_2, hG1_3, -⟩ := OpenC.open_agg Q.cells_24 h1 wt1
  obtain rfl := OpenC.agg_of ec1
  obtain ⟨a2, rfl, rfl, rfl, y2⟩ := open_string Try.underlying9 (hval 2 9 v2 rfl rfl) h2
  have w2 : a2.size ≤ 140737488351232 := by
    have z := sized_string hsz (j := 2) (t := 9) rfl rfl
    rw [Array.length_toList] at z
    exact z
  clear hA0 hval0 hsz0 hsz
  obtain ⟨k, hk⟩ := Pure.LayoutMakes f0_0 f0_1 f1_0 f1_1 f1_2 f1_3 a2 hG0_0 hG0_1 hG1_0 hG1_1 hG1_2 hG1_3 w2
  refine (Q.lockgatelaw13_LayoutMakes.calls k f0_0 f0_1 f1_0 f1_1 f1_2 f1_3 a2 true W hk).mono fun e W' he => ?_
  obtain ⟨he, bel_⟩ := he
  have bel : Below W.heap.size W W' := by first | exact bel_ | exact bel_.below
  subst he
  exact ⟨_, rfl, _, _, _, [], _, [], hW', trodAll_mk1 (shut_bool Try.underlying4 _), (trodAll_cons_mk (Below.trod laidOut (by kernel_rfl) (of_decide_eq_true (by kernel_rfl)) k0 bel lt0) (trodAll_cons_mk (Below.trod laidOut (by kernel_rfl) (of_decide_eq_true (by kernel_rfl)) k1 bel lt1) (trodAll_cons_mk (shut_string Try.underlying9 y2) trodAll_mk0))), rfl, bel.frame _, fun h => by cases h⟩
theorem over : Rows.layoutMakesRow.holds Try.pinned (OpenSpec.ofChange Rows.layoutMakesSpec) :=
  OpenClaim.holds_of_wide 5 Try.f5 rfl rfl rfl rfl rfl rfl rfl ⟨rfl, rfl, rfl, rfl, rfl⟩ rfl rfl rfl rfl rfl (by kernel_rfl) Try.func5 (by kernel_rfl)
    (of_decide_eq_true (by kernel_rfl)) (by unfold Func.isWrapper; first | (rw [if_pos (by decide +kernel)]; kernel_rfl) | (rw [if_neg (by decide +kernel)]; exact ⟨rfl, rfl⟩))
    (fun os started H enc _ => lifted os started H enc)
theorem proved : Rows.LayoutMakesSaid := over
#print axioms proved
end Go.Proofs.Ytkfloghdnklakaa.layoutMakes
namespace Go.Proofs.Ytkfloghdnklakaa
/-- The row, under a short name, for the claim. -/
theorem layoutMakes_holds : Rows.LayoutMakesSaid := layoutMakes.proved
end Go.Proofs.Ytkfloghdnklakaa
