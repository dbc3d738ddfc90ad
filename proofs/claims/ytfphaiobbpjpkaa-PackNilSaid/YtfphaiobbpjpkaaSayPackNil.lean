-- Written by rows2.py (a program of this repo) for this seat: the pure statement.
import Derived.Test.YtfphaiobbpjpkaaQx12
namespace Go.Proofs.Ytfphaiobbpjpkaa.Q
open Go.RowKit Go.Proofs.YtfphaiobbpjpkaaW.PrintWords Go.Proofs.YtfphaiobbpjpkaaW.PrintLast Go.Proofs.YtfphaiobbpjpkaaW.PrintMore
def lockgatelaw01_PackNil.Pure : Prop := ∀ (a0 : Int), (Lit.int .i64 a0).wf = true → ∃ k, lockgatelaw01_PackNil.f k a0 = some true
end Go.Proofs.Ytfphaiobbpjpkaa.Q
