-- Written by rows2.py (a program of this repo) for this seat: the pure statement.
import Derived.Test.YtehnbbabjnibkaaQx16
namespace Go.Proofs.Ytehnbbabjnibkaa.Q
open Go.RowKit Go.Proofs.YtehnbbabjnibkaaW.PrintWords Go.Proofs.YtehnbbabjnibkaaW.PrintLast Go.Proofs.YtehnbbabjnibkaaW.PrintMore
def lockgatelaw17_SpaceChanges.Pure : Prop := ∀ (a0_0 : Int) (a0_1 : Int) (a0_2 : Int) (a0_3 : Int) (l1 : List ByteArray) (a2_0 : Int) (a2_1 : Int) (l2_2 : List Int), (Lit.int .i64 a0_0).wf = true → (Lit.int .i64 a0_1).wf = true → (Lit.int .i64 a0_2).wf = true → (Lit.int .i64 a0_3).wf = true → (List.length l1 ≤ maxLen ∧ List.length l1 * 16 ≤ 140737488351232 ∧ ∀ y1 ∈ l1, y1.size ≤ 140737488351232) → (Lit.int .i64 a2_0).wf = true → (Lit.int .i64 a2_1).wf = true → (List.length l2_2 ≤ maxLen ∧ List.length l2_2 * 8 ≤ 140737488351232 ∧ ∀ y1 ∈ l2_2, (Lit.int .i64 y1).wf = true) → ∃ k, lockgatelaw17_SpaceChanges.f k a0_0 a0_1 a0_2 a0_3 l1 a2_0 a2_1 l2_2 = some true
end Go.Proofs.Ytehnbbabjnibkaa.Q
