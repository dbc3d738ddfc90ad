-- Written by rows2.py (a program of this repo) for this seat: the pure statement.
import Derived.Test.YtgmbmkjdfmoanaaDoorQx21
namespace Go.Proofs.YtgmbmkjdfmoanaaDoor.Q
open Go.RowKit Go.Proofs.YtgmbmkjdfmoanaaDoorW.PrintWords Go.Proofs.YtgmbmkjdfmoanaaDoorW.PrintLast Go.Proofs.YtgmbmkjdfmoanaaDoorW.PrintMore
def lockgatelaw15_EntryKeeps.Pure : Prop := ∀ (l0 : List (S43)), (List.length l0 ≤ maxLen ∧ List.length l0 * 24 ≤ 140737488351232 ∧ ∀ y1 ∈ l0, (y1.f0.size ≤ 140737488351232 ∧ (Lit.int .i64 y1.f1).wf = true)) → ∃ k, lockgatelaw15_EntryKeeps.f k l0 = some true
end Go.Proofs.YtgmbmkjdfmoanaaDoor.Q
