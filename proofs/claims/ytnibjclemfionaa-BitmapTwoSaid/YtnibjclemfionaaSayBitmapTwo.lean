-- Written by rows2.py (a program of this repo) for this seat: the pure statement.
import Derived.Test.YtnibjclemfionaaQx4
namespace Go.Proofs.Ytnibjclemfionaa.Q
open Go.RowKit Go.Proofs.YtnibjclemfionaaW.PrintWords Go.Proofs.YtnibjclemfionaaW.PrintLast Go.Proofs.YtnibjclemfionaaW.PrintMore
def lockgatelaw03_BitmapTwo.Pure : Prop := ∀ (a0 : ByteArray) (a1_0 : Int) (a1_1 : Int) (a2_0 : Bool) (a2_1 : Bool), a0.size ≤ 140737488351232 → (Lit.int .i64 a1_0).wf = true → (Lit.int .i64 a1_1).wf = true → ∃ k, lockgatelaw03_BitmapTwo.f k a0 a1_0 a1_1 a2_0 a2_1 = some true
end Go.Proofs.Ytnibjclemfionaa.Q
