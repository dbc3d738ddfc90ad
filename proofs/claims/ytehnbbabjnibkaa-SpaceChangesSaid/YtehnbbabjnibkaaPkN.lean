/- Numbers put and read: what Two, Four and their readers tell (for seats that put no texts). -/
import Derived.Test.YtehnbbabjnibkaaQx2
import Derived.Test.YtehnbbabjnibkaaByA
namespace Go.Proofs.Ytehnbbabjnibkaa.By
open Go.RowKit Go.Proofs.Ytehnbbabjnibkaa.Bm Go.Proofs.Ytehnbbabjnibkaa.Q Go.Proofs.YtehnbbabjnibkaaW.PrintWords Go.Proofs.YtehnbbabjnibkaaW.PrintMore
set_option linter.unusedVariables false
theorem two_ok (n : Int) (h0 : 0 ≤ n) (h1 : n < 65536) : pack_Two.f n = some (beS n 2) := by
  unfold pack_Two.f pack_number_uint16.f
  rw [if_pos ⟨h0, h1, by omega, by omega⟩]
  rfl
theorem four_ok (n : Int) (h0 : 0 ≤ n) (h1 : n < 4294967296) : pack_Four.f n = some (beS n 4) := by
  unfold pack_Four.f pack_number_uint32.f
  rw [if_pos ⟨h0, h1, by omega, by omega⟩]
  rfl
theorem pow_small : ∀ n : Fin 8, (256 : Int) ^ n.val ≤ 72057594037927936 := by decide +kernel
theorem pow2 : (256 : Int) ^ 2 = 65536 := by decide
theorem num_lt (s : ByteArray) (k : Nat) (h : k ≤ s.size) : 0 ≤ num (bytesOf (s.extract 0 k)) ∧ num (bytesOf (s.extract 0 k)) < 256 ^ k := by
  have := num_nonneg (bytesOf (s.extract 0 k)) (bytesOf_range _)
  rwa [bytesOf_length, ext_size _ _ _ h] at this
theorem num_beS (n : Int) (k : Nat) (rest : ByteArray) (h0 : 0 ≤ n) (h1 : n < 256 ^ k) : num (bytesOf ((beS n k ++ rest).extract 0 k)) = n := by
  have e : (beS n k ++ rest).extract 0 k = beS n k := by
    have := ext_fst (beS n k) rest
    rwa [beS_size] at this
  rw [e]
  unfold beS
  rw [bytesOf_nums _ (be_range _ _), num_be]
  exact Int.emod_eq_of_lt h0 h1
theorem rest_beS (n : Int) (k : Nat) (rest : ByteArray) : (beS n k ++ rest).extract k (beS n k ++ rest).size = rest := by
  have := ext_cut (beS n k) rest
  rwa [beS_size] at this
theorem pow4' : (256 : Int) ^ 4 = 4294967296 := by decide
end Go.Proofs.Ytehnbbabjnibkaa.By
