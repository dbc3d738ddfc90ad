/- In whatever order two bits are set, the bitmap is the same; the one that was set last of one place counts: the pure law of BitmapTwo. -/
import Derived.Test.YtnibjclemfionaaSayBitmapTwo
import Derived.Test.YtnibjclemfionaaBmL
namespace Go.Proofs.Ytnibjclemfionaa.Pure
open Go.RowKit Go.Proofs.Ytnibjclemfionaa.Q Go.Proofs.Ytnibjclemfionaa.Bm Go.Proofs.YtnibjclemfionaaW.PrintWords Go.Proofs.YtnibjclemfionaaW.PrintLast Go.Proofs.YtnibjclemfionaaW.PrintMore
set_option linter.unusedVariables false
theorem BitmapTwo : lockgatelaw03_BitmapTwo.Pure := by
  intro a0 i j t u w0 w1 w2
  refine ⟨100, ?_⟩
  unfold lockgatelaw03_BitmapTwo.f
  have hz := shorten_size a0
  rw [awake_ok 100 (by omega), short_ok a0 w0]
  generalize shorten a0 = s at hz ⊢
  simp only [Option.bind_some]
  rw [set_ok s (by omega) i t, set_ok s (by omega) j u]
  simp only [Option.bind_some]
  have z1 := setI_size s i t
  have z2 := setI_size s j u
  rw [set_ok _ (by omega), set_ok _ (by omega)]
  simp only [Option.bind_some, if_true]
  have z3 := setI_size (setI s i t) j u
  have z4 := setI_size (setI s j u) i t
  by_cases e : i = j
  · subst e
    have e1 : setI (setI s i t) i u = setI s i u := bits_ext (by omega) fun n hn => by
      rw [setI_bit _ _ _ _ (by omega), setI_bit _ _ _ _ (by omega), setI_bit _ _ _ _ (by omega)]
      split <;> rfl
    have e2 : setI (setI s i u) i t = setI s i t := bits_ext (by omega) fun n hn => by
      rw [setI_bit _ _ _ _ (by omega), setI_bit _ _ _ _ (by omega), setI_bit _ _ _ _ (by omega)]
      split <;> rfl
    rw [if_pos rfl, e1, e2, if_pos rfl]
    simp
  · have e1 : setI (setI s i t) j u = setI (setI s j u) i t := bits_ext (by omega) fun n hn => by
      rw [setI_bit _ _ _ _ (by omega), setI_bit _ _ _ _ (by omega), setI_bit _ _ _ _ (by omega), setI_bit _ _ _ _ (by omega)]
      by_cases c : (n : Int) = j
      · rw [if_pos c, if_neg (by omega), if_pos c]
      · rw [if_neg c, if_neg c]
    rw [if_neg e, e1]
    simp
end Go.Proofs.Ytnibjclemfionaa.Pure
