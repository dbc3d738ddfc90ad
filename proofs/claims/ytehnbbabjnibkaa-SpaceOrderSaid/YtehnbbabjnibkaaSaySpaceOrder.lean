-- Written by rows2.py (a program of this repo) for this seat: the pure statement.
import Derived.Test.YtehnbbabjnibkaaQx17
namespace Go.Proofs.Ytehnbbabjnibkaa.Q
open Go.RowKit Go.Proofs.YtehnbbabjnibkaaW.PrintWords Go.Proofs.YtehnbbabjnibkaaW.PrintLast Go.Proofs.YtehnbbabjnibkaaW.PrintMore
def lockgatelaw17_SpaceOrder.Pure : Prop := ∀ (a0 : Int) (a1_0 : Int) (a1_1 : Int) (l1_2 : List Int), (Lit.int .i64 a0).wf = true → (Lit.int .i64 a1_0).wf = true → (Lit.int .i64 a1_1).wf = true → (List.length l1_2 ≤ maxLen ∧ List.length l1_2 * 8 ≤ 140737488351232 ∧ ∀ y1 ∈ l1_2, (Lit.int .i64 y1).wf = true) → ∃ k, lockgatelaw17_SpaceOrder.f k a0 a1_0 a1_1 l1_2 = some true
end Go.Proofs.Ytehnbbabjnibkaa.Q
