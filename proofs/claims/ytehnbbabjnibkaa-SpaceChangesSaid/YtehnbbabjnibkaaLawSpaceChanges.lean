-- Written by rows2.py (a program of this repo) for this seat: the row.
import Derived.Test.YtehnbbabjnibkaaRows
import Derived.Test.YtehnbbabjnibkaaQx16
import Derived.Test.YtehnbbabjnibkaaOpenT
import Derived.Test.YtehnbbabjnibkaaSaySpaceChanges
import Derived.Test.YtehnbbabjnibkaaPureSpaceChanges
import Derived.WalkKit
import Derived.ProofKit
import Derived.OpenShut
import Derived.ShutString
import Derived.ChangeOld
import Derived.Below
import Derived.SizedLaws
import Derived.Carry
namespace Go.Proofs.Ytehnbbabjnibkaa.spaceChanges
open Go.ChangeShapes Go.WideShapes Go.ChangeAt Go.RowKit
open Go.ChangeMaps (open_string shut_string)
open Go.Proofs.YtehnbbabjnibkaaW.PrintWords
set_option linter.unusedVariables false
theorem own : ownKnob Try.prog.godebug = none := by kernel_rfl
theorem laidOut : laidOutB Try.prog = true := by kernel_rfl
set_option maxRecDepth 100000 in
theorem lifted (os : Os) (started : os.Started) (H : Type) (enc : TypeId × Value → H) :
    ReturnsInHanded {} Try.checked os 4 .any (Rows.spaceChangesSpec.pre6 enc Try.prog Try.f4 Rows.spaceChangesRow.domain false) (Rows.spaceChangesSpec.post enc Try.prog Try.f4 false true false false) := by
  refine returnsInHanded_of_change_sized (C := Try.checked) own started (by kernel_rfl) Try.func4
    (ChangeSpec.witness6 (enc := enc) (C := Try.checked) false ⟨#[], #[.agg #[.int .i64 0, .int .i64 0, .int .i64 0, .int .i64 0], .slice none 0 0, .agg #[.int .i64 0, .int .i64 0, .slice none 0 0]], []⟩ 8 (by kernel_rfl) (by kernel_rfl) (by kernel_rfl) (by kernel_rfl)) ?_
  intro W base args ds gs before hval0 hW hcnd hsz0 _
  have hsz : (DataW.weightsEach Try.prog (Try.f4.params.toList ++ Rows.spaceChangesSpec.plain.varTypes Try.prog) (ds ++ gs)).all (· ≤ reachBytes) = true := hsz0
  have hval : ∀ (j : Nat) t v, Try.f4.params[j]? = some t → args[j]? = some v → Value.okWide Try.prog W .any base t v := hval0
  have hW' := hW
  obtain ⟨p, q, hA0, hV, rfl, hfz, hnd⟩ := hW
  have hA : DataW.TrodAll enc Try.prog W 0 (fun _ => true) true Try.f4.params.toList args.toList ds p := hA0
  rw [Try.params4] at hA hval hsz
  obtain ⟨v0, vs0, d0, ds0, p0, q0, hargs, rfl, rfl, h0, r0⟩ := trodAll_cons hA
  obtain ⟨v1, vs1, d1, ds1, p1, q1, rfl, rfl, rfl, h1, r1⟩ := trodAll_cons r0
  obtain ⟨v2, vs2, d2, ds2, p2, q2, rfl, rfl, rfl, h2, r2⟩ := trodAll_cons r1
  obtain ⟨rfl, rfl, rfl⟩ := trodAll_nil r2
  obtain rfl : args = #[v0, v1, v2] := by cases args; simp_all
  obtain ⟨rfl, rfl⟩ := trodVars_none hV
  have k0 := h0
  have lt0 : ∀ x ∈ p0, x.block < W.heap.size := by obtain ⟨m, hm⟩ := k0; exact DataW.trod_lt m _ _ _ hm
  have wt0 := OpenC.arg_weights hsz (j := 0) (t := 23) rfl rfl
  obtain ⟨cs0, rfl, _⟩ := okWide_struct Try.underlying23 (hval 0 23 v0 rfl rfl)
  obtain ⟨f0_0, f0_1, f0_2, f0_3, ec0, hG0_0, hG0_1, hG0_2, hG0_3, -⟩ := OpenC.open_agg Q.cells_23 h0 wt0
  obtain rfl := OpenC.agg_of ec0
  have k1 := h1
  have lt1 : ∀ x ∈ p1, x.block < W.heap.size := by obtain ⟨m, hm⟩ := k1; exact DataW.trod_lt m _ _ _ hm
  have wt1 := OpenC.arg_weights hsz (j := 1) (t := 24) rfl rfl
  obtain ⟨A1, c1, l1, rfl, hr1, hc1, w1⟩ := OpenC.open_row_b Try.underlying24 Q.cellsOf_9 Q.bytes_9 (OpenC.opens_string Try.underlying9) (hval 1 24 v1 rfl rfl) h1 wt1
  have k2 := h2
  have lt2 : ∀ x ∈ p2, x.block < W.heap.size := by obtain ⟨m, hm⟩ := k2; exact DataW.trod_lt m _ _ _ hm
  have wt2 := OpenC.arg_weights hsz (j := 2) (t := 32) rfl rfl
  obtain ⟨cs2, rfl, _⟩ := okWide_struct Try.underlying32 (hval 2 32 v2 rfl rfl)
  obtain ⟨f2_0, f2_1, A2_2, c2_2, l2_2, ec2, hG2_0, hG2_1, hl2_2, hC2_2, hG2_2, -⟩ := OpenC.open_agg Q.cells_32 h2 wt2
  obtain rfl := OpenC.agg_of ec2
  clear hA0 hval0 hsz0 hsz
  obtain ⟨k, hk⟩ := Pure.SpaceChanges f0_0 f0_1 f0_2 f0_3 l1 f2_0 f2_1 l2_2 hG0_0 hG0_1 hG0_2 hG0_3 w1 hG2_0 hG2_1 hG2_2
  refine (Q.lockgatelaw17_SpaceChanges.calls k f0_0 f0_1 f0_2 f0_3 A1 c1 l1 f2_0 f2_1 A2_2 c2_2 l2_2 true W hr1 hc1 hC2_2 hl2_2 hk).mono fun e W' he => ?_
  obtain ⟨he, bel_⟩ := he
  have bel : Below W.heap.size W W' := by first | exact bel_ | exact bel_.below
  subst he
  exact ⟨_, rfl, _, _, _, [], _, [], hW', trodAll_mk1 (shut_bool Try.underlying4 _), (trodAll_cons_mk (Below.trod laidOut (by kernel_rfl) (of_decide_eq_true (by kernel_rfl)) k0 bel lt0) (trodAll_cons_mk (Below.trod laidOut (by kernel_rfl) (of_decide_eq_true (by kernel_rfl)) k1 bel lt1) (trodAll_cons_mk (Below.trod laidOut (by kernel_rfl) (of_decide_eq_true (by kernel_rfl)) k2 bel lt2) trodAll_mk0))), rfl, bel.frame _, fun h => by cases h⟩
theorem over : Rows.spaceChangesRow.holds Try.pinned (OpenSpec.ofChange Rows.spaceChangesSpec) :=
  OpenClaim.holds_of_wide 4 Try.f4 rfl rfl rfl rfl rfl rfl rfl ⟨rfl, rfl, rfl, rfl, rfl⟩ rfl rfl rfl rfl rfl (by kernel_rfl) Try.func4 (by kernel_rfl)
    (of_decide_eq_true (by kernel_rfl)) (by unfold Func.isWrapper; first | (rw [if_pos (by decide +kernel)]; kernel_rfl) | (rw [if_neg (by decide +kernel)]; exact ⟨rfl, rfl⟩))
    (fun os started H enc _ => lifted os started H enc)
theorem proved : Rows.SpaceChangesSaid := over
#print axioms proved
end Go.Proofs.Ytehnbbabjnibkaa.spaceChanges
namespace Go.Proofs.Ytehnbbabjnibkaa
/-- The row, under a short name, for the claim. -/
theorem spaceChanges_holds : Rows.SpaceChangesSaid := spaceChanges.proved
end Go.Proofs.Ytehnbbabjnibkaa
