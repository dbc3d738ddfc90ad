/- Of no reader nothing comes; a zero one has nothing: the pure law of PackNil. -/
import Derived.Test.YtfphaiobbpjpkaaPkL
import Derived.Test.YtfphaiobbpjpkaaSayPackNil
namespace Go.Proofs.Ytfphaiobbpjpkaa.Pure
open Go.RowKit Go.Proofs.Ytfphaiobbpjpkaa.Q Go.Proofs.Ytfphaiobbpjpkaa.By Go.Proofs.Ytfphaiobbpjpkaa.Bm Go.Proofs.YtfphaiobbpjpkaaW.PrintWords Go.Proofs.YtfphaiobbpjpkaaW.PrintLast Go.Proofs.YtfphaiobbpjpkaaW.PrintMore
theorem PackNil : lockgatelaw01_PackNil.Pure := by
  intro a0 _
  refine ⟨0, ?_⟩
  unfold lockgatelaw01_PackNil.f
  rw [awake_ok]
  rfl
end Go.Proofs.Ytfphaiobbpjpkaa.Pure
