/- Chapter 15: what all its laws need: awake, short, zones. -/
import Derived.Test.YtgmbmkjdfmoanaaDoorQx3
import Derived.Test.YtgmbmkjdfmoanaaDoorQx5
import Derived.Test.YtgmbmkjdfmoanaaDoorByA
namespace Go.Proofs.YtgmbmkjdfmoanaaDoor.By
open Go.RowKit Go.Proofs.YtgmbmkjdfmoanaaDoor.Bm Go.Proofs.YtgmbmkjdfmoanaaDoor.Q Go.Proofs.YtgmbmkjdfmoanaaDoorW.PrintWords Go.Proofs.YtgmbmkjdfmoanaaDoorW.PrintMore
set_option linter.unusedVariables false
/-- At most so many bytes. -/
def cutTo (s : ByteArray) (n : Nat) : ByteArray := if n < s.size then s.extract 0 n else s
theorem cutTo_size (s : ByteArray) (n : Nat) : (cutTo s n).size ≤ n := by
  unfold cutTo; split
  · rw [ext_size _ _ _ (by omega)]; omega
  · omega
theorem short_ok (s : ByteArray) (n : Nat) (hs : s.size ≤ 140737488351232) : lockgatelaw15_short.f s n = some (cutTo s n) := by
  unfold lockgatelaw15_short.f cutTo
  by_cases h : n < s.size
  · rw [if_pos (by omega), if_pos (by omega), if_pos (by omega), if_pos h, Int.toNat_natCast]
  · rw [if_neg (by omega), if_neg h]
theorem awake_ok : ∀ k, 30 ≤ k → lockgatelaw15_awake.f k = some true := fun k hk =>
  at_rounds (fun k => lockgatelaw15_awake.mono k) hk (by decide +kernel)
theorem bytesOf_appE (s t : ByteArray) : bytesOf (s ++ t) = bytesOf s ++ bytesOf t := by
  unfold bytesOf
  rw [ByteArray.data_append, Array.toList_append, List.map_append]
/-- The sum of a text's bytes. -/
def sumB (s : ByteArray) : Int := (bytesOf s).sum
theorem sumB_app (s t : ByteArray) : sumB (s ++ t) = sumB s + sumB t := by unfold sumB; rw [bytesOf_appE, List.sum_append]
theorem sum_bounds (xs : List Int) (h : ∀ x ∈ xs, 0 ≤ x ∧ x < 256) : 0 ≤ xs.sum ∧ xs.sum ≤ 256 * xs.length := by
  induction xs with
  | nil => simp
  | cons x xs ih =>
    have h1 := h x (by simp)
    have h2 := ih (fun y hy => h y (by simp [hy]))
    rw [List.sum_cons, List.length_cons]
    omega
theorem sumB_bounds (s : ByteArray) : 0 ≤ sumB s ∧ sumB s ≤ 256 * s.size := by
  have := sum_bounds (bytesOf s) (Bm.bytesOf_range s)
  rwa [bytesOf_length] at this
theorem take_sum (s : ByteArray) (i : Nat) (hi : i < s.size) : ((bytesOf s).take (i + 1)).sum = ((bytesOf s).take i).sum + bt s (i : Int) := by
  have hl : i < (bytesOf s).length := by rw [bytesOf_length]; exact hi
  rw [List.take_succ_eq_append_getElem hl, List.sum_append, List.sum_cons, List.sum_nil, Int.add_zero]
  congr 1
  have g := Bm.bytesOf_getD s i
  rw [List.getD_eq_getElem?_getD, List.getElem?_eq_getElem hl, Option.getD_some] at g
  rw [g, Bm.bt_at, Int.toNat_natCast]
theorem take_bounds (s : ByteArray) (i : Nat) : 0 ≤ ((bytesOf s).take i).sum ∧ ((bytesOf s).take i).sum ≤ 256 * i := by
  have := sum_bounds ((bytesOf s).take i) (fun x hx => Bm.bytesOf_range s x (List.mem_of_mem_take hx))
  have hl : ((bytesOf s).take i).length ≤ i := by rw [List.length_take]; omega
  omega
theorem zone_loop (s : ByteArray) (hs : s.size ≤ 100000) (d : Nat) : ∀ (k i : Nat), i + d = s.size → d < k →
    entry_Zone.l0 k s ((bytesOf s).take i).sum s.size i = some (sumB s % 4) := by
  induction d with
  | zero =>
    intro k i hi hk
    obtain ⟨k, rfl⟩ : ∃ q, k = q + 1 := ⟨k - 1, by omega⟩
    obtain rfl : i = s.size := by omega
    have hb := sumB_bounds s
    have e : ((bytesOf s).take s.size).sum = sumB s := by rw [List.take_of_length_le (by rw [bytesOf_length]; omega)]; rfl
    rw [entry_Zone.l0.eq_2, if_neg (by omega), e, Int.tmod_eq_emod_of_nonneg hb.1]
  | succ d ih =>
    intro k i hi hk
    obtain ⟨k, rfl⟩ : ∃ q, k = q + 1 := ⟨k - 1, by omega⟩
    have next := ih k (i + 1) (by omega) (by omega)
    rw [take_sum s i (by omega)] at next
    have hb := take_bounds s i
    have hbt : 0 ≤ bt s (i : Int) ∧ bt s (i : Int) < 256 := by rw [Bm.bt_at]; have := byteAt_lt s (i : Int).toNat; omega
    rw [entry_Zone.l0.eq_2, if_pos (by omega), if_pos (by omega), if_pos (by omega), w64 (x := bt s (i : Int)) (by omega) (by omega), w64 (x := ((bytesOf s).take i).sum + bt s (i : Int)) (by omega) (by omega), w64 (x := (i : Int) + 1) (by omega) (by omega), show (i : Int) + 1 = ((i + 1 : Nat) : Int) by omega]
    exact next
theorem zone_ok (s : ByteArray) (hs : s.size ≤ 100000) : ∀ k, s.size + 2 ≤ k → entry_Zone.f k s = some (sumB s % 4) := by
  intro k hk
  exact zone_loop s hs s.size k 0 (by omega) (by omega)
end Go.Proofs.YtgmbmkjdfmoanaaDoor.By
