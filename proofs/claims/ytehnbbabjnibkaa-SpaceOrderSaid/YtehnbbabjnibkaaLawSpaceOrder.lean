-- Written by rows2.py (a program of this repo) for this seat: the row.
import Derived.Test.YtehnbbabjnibkaaRows
import Derived.Test.YtehnbbabjnibkaaQx17
import Derived.Test.YtehnbbabjnibkaaOpenT
import Derived.Test.YtehnbbabjnibkaaSaySpaceOrder
import Derived.Test.YtehnbbabjnibkaaPureSpaceOrder
import Derived.WalkKit
import Derived.ProofKit
import Derived.OpenShut
import Derived.ShutString
import Derived.ChangeOld
import Derived.Below
import Derived.SizedLaws
import Derived.Carry
namespace Go.Proofs.Ytehnbbabjnibkaa.spaceOrder
open Go.ChangeShapes Go.WideShapes Go.ChangeAt Go.RowKit
open Go.ChangeMaps (open_string shut_string)
open Go.Proofs.YtehnbbabjnibkaaW.PrintWords
set_option linter.unusedVariables false
theorem own : ownKnob Try.prog.godebug = none := by kernel_rfl
theorem laidOut : laidOutB Try.prog = true := by kernel_rfl
set_option maxRecDepth 100000 in
theorem lifted (os : Os) (started : os.Started) (H : Type) (enc : TypeId × Value → H) :
    ReturnsInHanded {} Try.checked os 7 .any (Rows.spaceOrderSpec.pre6 enc Try.prog Try.f7 Rows.spaceOrderRow.domain false) (Rows.spaceOrderSpec.post enc Try.prog Try.f7 false true false false) := by
  refine returnsInHanded_of_change_sized (C := Try.checked) own started (by kernel_rfl) Try.func7
    (ChangeSpec.witness6 (enc := enc) (C := Try.checked) false ⟨#[], #[.int .i64 0, .agg #[.int .i64 0, .int .i64 0, .slice none 0 0]], []⟩ 8 (by kernel_rfl) (by kernel_rfl) (by kernel_rfl) (by kernel_rfl)) ?_
  intro W base args ds gs before hval0 hW hcnd hsz0 _
  have hsz : (DataW.weightsEach Try.prog (Try.f7.params.toList ++ Rows.spaceOrderSpec.plain.varTypes Try.prog) (ds ++ gs)).all (· ≤ reachBytes) = true := hsz0
  have hval : ∀ (j : Nat) t v, Try.f7.params[j]? = some t → args[j]? = some v → Value.okWide Try.prog W .any base t v := hval0
  have hW' := hW
  obtain ⟨p, q, hA0, hV, rfl, hfz, hnd⟩ := hW
  have hA : DataW.TrodAll enc Try.prog W 0 (fun _ => true) true Try.f7.params.toList args.toList ds p := hA0
  rw [Try.params7] at hA hval hsz
  obtain ⟨v0, vs0, d0, ds0, p0, q0, hargs, rfl, rfl, h0, r0⟩ := trodAll_cons hA
  obtain ⟨v1, vs1, d1, ds1, p1, q1, rfl, rfl, rfl, h1, r1⟩ := trodAll_cons r0
  obtain ⟨rfl, rfl, rfl⟩ := trodAll_nil r1
  obtain rfl : args = #[v0, v1] := by cases args; simp_all
  obtain ⟨rfl, rfl⟩ := trodVars_none hV
  obtain ⟨a0, rfl, rfl, rfl, w0⟩ := open_int Try.underlying3 (hval 0 3 v0 rfl rfl) h0
  have k1 := h1
  have lt1 : ∀ x ∈ p1, x.block < W.heap.size := by obtain ⟨m, hm⟩ := k1; exact DataW.trod_lt m _ _ _ hm
  have wt1 := OpenC.arg_weights hsz (j := 1) (t := 32) rfl rfl
  obtain ⟨cs1, rfl, _⟩ := okWide_struct Try.underlying32 (hval 1 32 v1 rfl rfl)
  obtain ⟨f1_0, f1_1, A1_2, c1_2, l1_2, ec1, hG1_0, hG1_1, hl1_2, hC1_2, hG1_2, -⟩ := OpenC.open_agg Q.cells_32 h1 wt1
  obtain rfl := OpenC.agg_of ec1
  clear hA0 hval0 hsz0 hsz
  obtain ⟨k, hk⟩ := Pure.SpaceOrder a0 f1_0 f1_1 l1_2 w0 hG1_0 hG1_1 hG1_2
  refine (Q.lockgatelaw17_SpaceOrder.calls k a0 f1_0 f1_1 A1_2 c1_2 l1_2 true W hC1_2 hl1_2 hk).mono fun e W' he => ?_
  obtain ⟨he, bel_⟩ := he
  have bel : Below W.heap.size W W' := by first | exact bel_ | exact bel_.below
  subst he
  exact ⟨_, rfl, _, _, _, [], _, [], hW', trodAll_mk1 (shut_bool Try.underlying4 _), (trodAll_cons_mk (shut_int Try.underlying3 w0) (trodAll_cons_mk (Below.trod laidOut (by kernel_rfl) (of_decide_eq_true (by kernel_rfl)) k1 bel lt1) trodAll_mk0)), rfl, bel.frame _, fun h => by cases h⟩
theorem over : Rows.spaceOrderRow.holds Try.pinned (OpenSpec.ofChange Rows.spaceOrderSpec) :=
  OpenClaim.holds_of_wide 7 Try.f7 rfl rfl rfl rfl rfl rfl rfl ⟨rfl, rfl, rfl, rfl, rfl⟩ rfl rfl rfl rfl rfl (by kernel_rfl) Try.func7 (by kernel_rfl)
    (of_decide_eq_true (by kernel_rfl)) (by unfold Func.isWrapper; first | (rw [if_pos (by decide +kernel)]; kernel_rfl) | (rw [if_neg (by decide +kernel)]; exact ⟨rfl, rfl⟩))
    (fun os started H enc _ => lifted os started H enc)
theorem proved : Rows.SpaceOrderSaid := over
#print axioms proved
end Go.Proofs.Ytehnbbabjnibkaa.spaceOrder
namespace Go.Proofs.Ytehnbbabjnibkaa
/-- The row, under a short name, for the claim. -/
theorem spaceOrder_holds : Rows.SpaceOrderSaid := spaceOrder.proved
end Go.Proofs.Ytehnbbabjnibkaa
