-- Written by rows2.py (a program of this repo) for this seat: the pure statement.
import Derived.Test.YtehnbbabjnibkaaQx16
namespace Go.Proofs.Ytehnbbabjnibkaa.Q
open Go.RowKit Go.Proofs.YtehnbbabjnibkaaW.PrintWords Go.Proofs.YtehnbbabjnibkaaW.PrintLast Go.Proofs.YtehnbbabjnibkaaW.PrintMore
def lockgatelaw17_SpaceTurns.Pure : Prop := ∀ (a0 : Int) (l1 : List (S32)), (Lit.int .i64 a0).wf = true → (List.length l1 ≤ maxLen ∧ List.length l1 * 40 ≤ 140737488351232 ∧ ∀ y1 ∈ l1, ((Lit.int .i64 y1.f0).wf = true ∧ (Lit.int .i64 y1.f1).wf = true ∧ (List.length y1.f2 ≤ maxLen ∧ List.length y1.f2 * 8 ≤ 140737488351232 ∧ ∀ y2 ∈ y1.f2, (Lit.int .i64 y2).wf = true))) → ∃ k, lockgatelaw17_SpaceTurns.f k a0 l1 = some true
end Go.Proofs.Ytehnbbabjnibkaa.Q
