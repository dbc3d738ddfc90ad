-- Written by rows2.py (a program of this repo) for this seat: the pure statement.
import Derived.Test.YtkfloghdnklakaaQx10
namespace Go.Proofs.Ytkfloghdnklakaa.Q
open Go.RowKit Go.Proofs.YtkfloghdnklakaaW.PrintWords Go.Proofs.YtkfloghdnklakaaW.PrintLast Go.Proofs.YtkfloghdnklakaaW.PrintMore
def lockgatelaw13_LayoutMakes.Pure : Prop := ∀ (a0_0 : Int) (a0_1 : Int) (a1_0 : Int) (a1_1 : Int) (a1_2 : Int) (a1_3 : Int) (a2 : ByteArray), (Lit.int .i64 a0_0).wf = true → (Lit.int .i64 a0_1).wf = true → (Lit.int .i64 a1_0).wf = true → (Lit.int .i64 a1_1).wf = true → (Lit.int .i64 a1_2).wf = true → (Lit.int .i64 a1_3).wf = true → a2.size ≤ 140737488351232 → ∃ k, lockgatelaw13_LayoutMakes.f k a0_0 a0_1 a1_0 a1_1 a1_2 a1_3 a2 = some true
end Go.Proofs.Ytkfloghdnklakaa.Q
