/- Bits are told, set and counted as the reference does it: the pure law of BitmapBits, for every text, every number, taken or not. -/
import Derived.Test.YtnibjclemfionaaQx1
import Derived.Test.YtnibjclemfionaaQx6
import Derived.Test.YtnibjclemfionaaBmL
import Derived.Test.YtnibjclemfionaaBmE
import Derived.Test.YtnibjclemfionaaBmS
namespace Go.Proofs.Ytnibjclemfionaa.Pure
open Go.RowKit Go.Proofs.Ytnibjclemfionaa.Q Go.Proofs.Ytnibjclemfionaa.Bm Go.Proofs.YtnibjclemfionaaW.PrintWords Go.Proofs.YtnibjclemfionaaW.PrintLast Go.Proofs.YtnibjclemfionaaW.PrintMore
set_option linter.unusedVariables false
theorem BitmapBits : lockgatelaw03_BitmapBits.Pure := by
  intro a0 a1 a2 ha w1
  have hw := wf_i64 w1
  obtain ⟨K, hK⟩ : ∃ K : Nat, 3000 ≤ K := ⟨3000, Nat.le_refl _⟩
  refine ⟨K, ?_⟩
  unfold lockgatelaw03_BitmapBits.f
  have hle := shorten_size a0
  generalize shorten a0 = s at hle
  have hs : ∃ s, lockgatelaw03_short.f a0 = some s ∧ s.size ≤ 100 := ⟨_, short_ok a0 ha, shorten_size a0⟩
  obtain ⟨s, hs, hle⟩ := hs
  have hc := cnt_le s (8 * s.size)
  have hl := takenTo_length s (8 * s.size)
  rw [awake_ok K (by omega), hs]
  simp only [Option.bind_some]
  rw [set_ok s (by omega)]
  simp only [Option.bind_some]
  rw [reach_ok s (by omega) K (by omega)]
  simp only [Option.bind_some]
  rw [each_ok s (by omega) K (by omega)]
  simp only [Option.bind_some]
  rw [rsame_refl _ (by omega) K (by omega)]
  simp only [Option.bind_some, if_true]
  rw [has_ok s (by omega), rhas_ok s (by omega) a1 (by omega) (by omega) K (by omega)]
  simp only [Option.bind_some, beq_self_eq_true, if_true]
  rw [rset_ok s (by omega) a1 (by omega) (by omega) a2 K (by omega)]
  simp only [Option.bind_some, if_true]
  rw [first_ok s (by omega) a1 (by omega) K (by omega), rfirst_ok s (by omega) a1 (by omega) K (by omega)]
  simp only [Option.bind_some, if_true]
  rw [count_ok s (by omega) K (by omega), hl]
  simp
end Go.Proofs.Ytnibjclemfionaa.Pure
