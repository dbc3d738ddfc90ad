/- Texts are made sectors, and any bytes opened, as the reference does it; what was made is opened again: the pure law of PackFills, for every two texts. -/
import Derived.Test.YtfphaiobbpjpkaaQx3
import Derived.Test.YtfphaiobbpjpkaaPkL
namespace Go.Proofs.Ytfphaiobbpjpkaa.Pure
open Go.RowKit Go.Proofs.Ytfphaiobbpjpkaa.Q Go.Proofs.Ytfphaiobbpjpkaa.By Go.Proofs.Ytfphaiobbpjpkaa.Bm Go.Proofs.YtfphaiobbpjpkaaW.PrintWords Go.Proofs.YtfphaiobbpjpkaaW.PrintLast Go.Proofs.YtfphaiobbpjpkaaW.PrintMore
set_option linter.unusedVariables false
theorem PackFills : lockgatelaw01_PackFills.Pure := by
  intro a0 a1 h0 h1
  obtain ⟨K, hK⟩ : ∃ K : Nat, 20 ≤ K := ⟨20, Nat.le_refl _⟩
  refine ⟨K, ?_⟩
  obtain ⟨s, hs, ls⟩ := short_some a0 600 h0
  obtain ⟨t, ht, lt⟩ := short_some a1 600 h1
  unfold lockgatelaw01_PackFills.f
  rw [awake_ok]
  simp only [Option.bind_some]
  rw [show (600 : Int) = ((600 : Nat) : Int) from rfl, hs, ht]
  simp only [Option.bind_some]
  by_cases c : s.size ≤ 510
  · rw [fill_ok s c, rfill_ok s c K hK]
    simp only [Option.bind_some]
    rw [open_ok t (by omega), ropen_ok t (by omega) K hK]
    simp only [Option.bind_some]
    rw [open_ok _ (by rw [fillS_size s c]; omega), open_fill s c]
    simp only [Option.bind_some, if_true, beq_self_eq_true]
    rw [fillS_size s c]; rfl
  · rw [fill_bad s (by omega) (by omega), rfill_bad s (by omega) K]
    simp only [Option.bind_some]
    rw [open_ok t (by omega), ropen_ok t (by omega) K hK]
    simp only [Option.bind_some]
    rw [open_ok ⟨#[]⟩ (by decide)]
    have e : openS ⟨#[]⟩ = (⟨#[]⟩, false) := by
      unfold openS
      rw [if_neg (fun g => by have : (⟨#[]⟩ : ByteArray).size = 0 := rfl; omega)]
    rw [e]
    simp
end Go.Proofs.Ytfphaiobbpjpkaa.Pure
