-- Written by rows2.py (a program of this repo) for this seat: the pure statement.
import Derived.Test.YtgmbmkjdfmoanaaDoorQx9
namespace Go.Proofs.YtgmbmkjdfmoanaaDoor.Q
open Go.RowKit Go.Proofs.YtgmbmkjdfmoanaaDoorW.PrintWords Go.Proofs.YtgmbmkjdfmoanaaDoorW.PrintLast Go.Proofs.YtgmbmkjdfmoanaaDoorW.PrintMore
def lockgatelaw15_EntryPaths.Pure : Prop := ∀ (l0 : List ByteArray), (List.length l0 ≤ maxLen ∧ List.length l0 * 16 ≤ 140737488351232 ∧ ∀ y1 ∈ l0, y1.size ≤ 140737488351232) → ∃ k, lockgatelaw15_EntryPaths.f k l0 = some true
end Go.Proofs.YtgmbmkjdfmoanaaDoor.Q
