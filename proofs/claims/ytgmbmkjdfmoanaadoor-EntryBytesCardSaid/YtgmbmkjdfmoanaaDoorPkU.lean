/- The reference's bytes of a number. -/
import Derived.Test.YtgmbmkjdfmoanaaDoorQx13
import Derived.Test.YtgmbmkjdfmoanaaDoorPkN
namespace Go.Proofs.YtgmbmkjdfmoanaaDoor.By
open Go.RowKit Go.Proofs.YtgmbmkjdfmoanaaDoor.Bm Go.Proofs.YtgmbmkjdfmoanaaDoor.Q Go.Proofs.YtgmbmkjdfmoanaaDoorW.PrintWords Go.Proofs.YtgmbmkjdfmoanaaDoorW.PrintMore
set_option linter.unusedVariables false
theorem nums_app (xs ys : List Int) : strOfNums (xs ++ ys) = strOfNums xs ++ strOfNums ys := by
  have e : (strOfNums (xs ++ ys)).toList = (strOfNums xs ++ strOfNums ys).toList := by
    rw [ByteArray.toList_eq, ByteArray.toList_eq, ByteArray.data_append, Array.toList_append]
    simp [strOfNums]
  exact toList_ext.1 e
theorem be_cons (n : Int) (k : Nat) : be n (k + 1) = [n / 256 ^ k % 256] ++ be n k := by
  unfold be
  rw [List.range_succ_eq_map, List.map_cons, List.map_map]
  have e : (256 : Int) ^ k = 2 ^ (8 * k) := by rw [Int.pow_mul]; rfl
  rw [show k + 1 - 1 - 0 = k by omega, e]
  rw [List.singleton_append]
  congr 1
  apply List.map_congr_left
  intro j hj
  simp only [Function.comp]
  rw [show k + 1 - 1 - (j + 1) = k - 1 - j by omega]
theorem rnum_loop (n : Int) (h0 : 0 ≤ n) (h1 : n < 18446744073709551616) (size : Nat) (hs : size ≤ 8) (d : Nat) : ∀ (k i : Nat), i + d = size → d < k →
    lockgateref01_Num.l0 k (n / 256 ^ i) size (beS n i) i = some (beS n size) := by
  induction d with
  | zero =>
    intro k i hi hk
    obtain ⟨k, rfl⟩ : ∃ q, k = q + 1 := ⟨k - 1, by omega⟩
    simp only [lockgateref01_Num.l0]
    rw [if_neg (by omega), show i = size by omega]
  | succ d ih =>
    intro k i hi hk
    obtain ⟨k, rfl⟩ : ∃ q, k = q + 1 := ⟨k - 1, by omega⟩
    have hp : (0 : Int) < 256 ^ i := Int.pow_pos (by decide)
    have q0 : 0 ≤ n / 256 ^ i := Int.ediv_nonneg h0 (by omega)
    have q1 : n / 256 ^ i ≤ n := Int.ediv_le_self _ h0
    have next := ih k (i + 1) (by omega) (by omega)
    rw [Int.pow_succ, ← Int.ediv_ediv_of_nonneg (by omega)] at next
    have hb : beS n (i + 1) = strOfNums [n / 256 ^ i % 256] ++ beS n i := by unfold beS; rw [be_cons, nums_app]
    rw [hb] at next
    generalize n / 256 ^ i = q at q0 q1 next ⊢
    have e1 : Int.tmod q 256 = q % 256 := Int.tmod_eq_emod_of_nonneg q0
    have e2 : Int.tdiv q 256 = q / 256 := Int.tdiv_eq_ediv_of_nonneg q0
    simp only [lockgateref01_Num.l0]
    rw [if_pos (by omega), e1, e2, show q % 256 % 256 = q % 256 by omega]
    simp only [Option.bind_some]
    rw [if_pos (by rw [strOfNums_size, beS_size]; simp only [List.length_singleton]; omega), show IntKind.u64.wrap (q / 256) = q / 256 from IntWalk.u64_in _ ⟨by omega, by omega⟩, w64 (x := (i : Int) + 1) (by omega) (by omega)]
    exact next
theorem rnum_ok (n : Int) (h0 : 0 ≤ n) (h1 : n < 18446744073709551616) (size : Nat) (hs : size ≤ 8) : ∀ k, 20 ≤ k → lockgateref01_Num.f k n size = some (beS n size) := by
  intro k hk
  have := rnum_loop n h0 h1 size hs size k 0 (by omega) (by omega)
  rw [Int.pow_zero, Int.ediv_one] at this
  exact this
end Go.Proofs.YtgmbmkjdfmoanaaDoor.By
