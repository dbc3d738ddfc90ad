/- The bitmap laws' own helpers: awake and short. -/
import Derived.Test.YtnibjclemfionaaQx1
import Derived.Test.YtnibjclemfionaaBmF
namespace Go.Proofs.Ytnibjclemfionaa.Bm
open Go.RowKit Go.Proofs.Ytnibjclemfionaa.Q Go.Proofs.YtnibjclemfionaaW.PrintWords Go.Proofs.YtnibjclemfionaaW.PrintMore
set_option linter.unusedVariables false
theorem wf_i64 {x : Int} (h : (Lit.int .i64 x).wf = true) : -9223372036854775808 ≤ x ∧ x ≤ 9223372036854775807 := by
  have h' : (decide (IntKind.i64.min ≤ x) && decide (x ≤ IntKind.i64.max)) = true := h
  have m1 : IntKind.i64.min = -9223372036854775808 := by decide +kernel
  have m2 : IntKind.i64.max = 9223372036854775807 := by decide +kernel
  rw [m1, m2] at h'
  simp at h'
  exact h'
theorem awake_ok : ∀ k, 40 ≤ k → lockgatelaw03_awake.f k = some true := fun k hk =>
  at_rounds (fun k => lockgatelaw03_awake.mono k) hk (by decide +kernel)
/-- At most 100 bytes. -/
def shorten (s : ByteArray) : ByteArray := if 100 < s.size then s.extract 0 100 else s
theorem shorten_size (s : ByteArray) : (shorten s).size ≤ 100 := by
  unfold shorten; split
  · rw [ByteArray.size_extract]; omega
  · omega
theorem short_ok (s : ByteArray) (hs : s.size ≤ 140737488351232) : lockgatelaw03_short.f s = some (shorten s) := by
  unfold lockgatelaw03_short.f shorten
  by_cases h : 100 < s.size
  · rw [if_pos (by omega), if_pos (by omega), if_pos (by omega), if_pos h]
  · rw [if_neg (by omega), if_neg h]
end Go.Proofs.Ytnibjclemfionaa.Bm
