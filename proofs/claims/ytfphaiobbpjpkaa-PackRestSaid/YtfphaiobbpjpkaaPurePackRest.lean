/- Behind a text that was read stands what stood behind it, and is read as if it stood alone: the pure law of PackRest. -/
import Derived.Test.YtfphaiobbpjpkaaQx9
import Derived.Test.YtfphaiobbpjpkaaPkS
import Derived.Test.YtfphaiobbpjpkaaPkL
namespace Go.Proofs.Ytfphaiobbpjpkaa.Pure
open Go.RowKit Go.Proofs.Ytfphaiobbpjpkaa.Q Go.Proofs.Ytfphaiobbpjpkaa.By Go.Proofs.Ytfphaiobbpjpkaa.Bm Go.Proofs.YtfphaiobbpjpkaaW.PrintWords Go.Proofs.YtfphaiobbpjpkaaW.PrintLast Go.Proofs.YtfphaiobbpjpkaaW.PrintMore
set_option linter.unusedVariables false
theorem PackRest : lockgatelaw01_PackRest.Pure := by
  intro s rest w0 w1
  refine ⟨50, ?_⟩
  unfold lockgatelaw01_PackRest.f
  rw [awake_ok]
  simp only [Option.bind_some]
  rw [show (200 : Int) = ((200 : Nat) : Int) from rfl, short_ok _ 200 w0, show (100 : Int) = ((100 : Nat) : Int) from rfl, short_ok _ 100 w1]
  have hz := cutTo_size s 200
  have hr := cutTo_size rest 100
  generalize cutTo s 200 = s at hz
  generalize cutTo rest 100 = r at hr
  simp only [Option.bind_some]
  rw [text_ok s (by omega)]
  simp only [Option.bind_some]
  rw [if_pos (by simp only [app_size, beS_size]; omega)]
  unfold pack_Read.f
  simp only [Option.bind_some, if_true]
  rw [rtext_ok s r (by omega) (by omega)]
  simp only [Option.bind_some, if_true]
  rw [rleft_ok]
  simp only [Option.bind_some]
  rw [if_neg (by simp), show (((r.size : Int) != (r.size : Int)) = false) by simp]
  have hR : Rel r r false 0 := ⟨by omega, by omega, Nat.le_refl _, .inr (ext_all r).symm⟩
  obtain ⟨v, l1, b1, a1, e1, _, hR1⟩ := four_rel r r false 0 hR 50 (by omega)
  obtain ⟨t, l2, b2, a2, e2, _, hR2⟩ := text_rel r l1 b1 a1 hR1 50 (by omega)
  obtain ⟨x, e3, _⟩ := left_rel r l2 b2 a2 hR2
  obtain ⟨y, e4, _⟩ := end_rel r l2 b2 a2 hR2
  rw [lockgatelaw01_PackRest.j0.eq_2, if_neg (by simp), e1]
  simp only [Option.bind_some]
  rw [e2]
  simp only [Option.bind_some, if_true]
  rw [e3]
  simp only [Option.bind_some, if_true]
  rw [e4]
  simp only [Option.bind_some, beq_self_eq_true]
end Go.Proofs.Ytfphaiobbpjpkaa.Pure
