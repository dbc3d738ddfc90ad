-- Written by rows2.py (a program of this repo) for this seat: the pure statement.
import Derived.Test.YtfphaiobbpjpkaaQx9
namespace Go.Proofs.Ytfphaiobbpjpkaa.Q
open Go.RowKit Go.Proofs.YtfphaiobbpjpkaaW.PrintWords Go.Proofs.YtfphaiobbpjpkaaW.PrintLast Go.Proofs.YtfphaiobbpjpkaaW.PrintMore
def lockgatelaw01_PackBack.Pure : Prop := ∀ (l0 : List Int) (l1 : List ByteArray) (a2 : Int), (List.length l0 ≤ maxLen ∧ List.length l0 * 4 ≤ 140737488351232 ∧ ∀ y1 ∈ l0, (Lit.int .u32 y1).wf = true) → (List.length l1 ≤ maxLen ∧ List.length l1 * 16 ≤ 140737488351232 ∧ ∀ y1 ∈ l1, y1.size ≤ 140737488351232) → (Lit.int .i64 a2).wf = true → ∃ k, lockgatelaw01_PackBack.f k l0 l1 a2 = some true
end Go.Proofs.Ytfphaiobbpjpkaa.Q
