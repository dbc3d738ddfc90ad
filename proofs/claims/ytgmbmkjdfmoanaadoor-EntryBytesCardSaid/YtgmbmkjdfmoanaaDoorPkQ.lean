/- The reference's reader of chapter 1 and the program's, side by side: as far as one has read the other has. -/
import Derived.Test.YtgmbmkjdfmoanaaDoorQx14
import Derived.Test.YtgmbmkjdfmoanaaDoorByA
namespace Go.Proofs.YtgmbmkjdfmoanaaDoor.By
open Go.RowKit Go.Proofs.YtgmbmkjdfmoanaaDoor.Bm Go.Proofs.YtgmbmkjdfmoanaaDoor.Q Go.Proofs.YtgmbmkjdfmoanaaDoorW.PrintWords Go.Proofs.YtgmbmkjdfmoanaaDoorW.PrintMore
set_option linter.unusedVariables false
theorem ext_ext (s : ByteArray) (a b c : Nat) (hb : b ≤ c) (hc : a + c ≤ s.size) : (s.extract a s.size).extract b c = s.extract (a + b) (a + c) := by
  have z1 := ext_size s a s.size (Nat.le_refl _)
  have z2 := ext_size s (a + b) (a + c) hc
  refine bytes_ext (by rw [ext_size _ _ _ (by omega)]; omega) fun j hj => ?_
  rw [ext_size _ _ _ (by omega)] at hj
  rw [ext_byte _ _ _ _ (by omega) hj, ext_byte _ _ _ _ (Nat.le_refl _) (by omega), ext_byte _ _ _ _ hc (by omega)]
  congr 1; omega
theorem bytesOf_app (s t : ByteArray) : bytesOf (s ++ t) = bytesOf s ++ bytesOf t := by
  unfold bytesOf
  rw [ByteArray.data_append, Array.toList_append, List.map_append]
theorem ext_snoc (s : ByteArray) (a b : Nat) (hab : a ≤ b) (hb : b < s.size) : bytesOf (s.extract a (b + 1)) = bytesOf (s.extract a b) ++ [bt s b] := by
  have e : s.extract a (b + 1) = s.extract a b ++ s.extract b (b + 1) := by
    refine bytes_ext (by rw [app_size, ext_size _ _ _ (by omega), ext_size _ _ _ (by omega), ext_size _ _ _ (by omega)]; omega) fun j hj => ?_
    rw [ext_size _ _ _ (by omega)] at hj
    rw [ext_byte _ _ _ _ (by omega) hj, app_byte, ext_size _ _ _ (by omega)]
    by_cases c : j < b - a
    · rw [if_pos c, ext_byte _ _ _ _ (by omega) c]
    · rw [if_neg c, ext_byte _ _ _ _ (by omega) (by omega)]; congr 1; omega
  rw [e, bytesOf_app]
  congr 1
  have hl : (bytesOf (s.extract b (b + 1))).length = 1 := by rw [bytesOf_length, ext_size _ _ _ (by omega)]; omega
  obtain ⟨x, hx⟩ := List.length_eq_one_iff.1 hl
  have g := bytesOf_getD (s.extract b (b + 1)) 0
  rw [ext_byte _ _ _ _ (by omega) (by omega), hx] at g
  rw [hx, Bm.bt_at, Int.toNat_natCast]
  exact congrArg (fun z => [z]) g
theorem pow_le8 : ∀ n : Fin 9, (256 : Int) ^ n.val ≤ 18446744073709551616 := by decide +kernel
theorem num_ext (s : ByteArray) (a b : Nat) (hab : a ≤ b) (hb : b ≤ s.size) : 0 ≤ num (bytesOf (s.extract a b)) ∧ num (bytesOf (s.extract a b)) < 256 ^ (b - a) := by
  have := num_nonneg (bytesOf (s.extract a b)) (bytesOf_range _)
  rwa [bytesOf_length, ext_size _ _ _ hb] at this
theorem rrnum_loop (S : ByteArray) (a n : Nat) (hn : n ≤ 8) (hs : a + n ≤ S.size) (hS : S.size ≤ 140737488355328) (bad : Bool) (d : Nat) : ∀ (k i : Nat), i + d = n → d < k →
    lockgateref01_Reader_Num.l0 k n (num (bytesOf (S.extract a (a + i)))) i S a bad = some (num (bytesOf (S.extract a (a + n))), true, S, ((a + n : Nat) : Int), bad) := by
  induction d with
  | zero =>
    intro k i hi hk
    obtain ⟨k, rfl⟩ : ∃ q, k = q + 1 := ⟨k - 1, by omega⟩
    obtain rfl : i = n := by omega
    rw [lockgateref01_Reader_Num.l0.eq_2, if_neg (by omega), w64 (by omega) (by omega)]
    rfl
  | succ d ih =>
    intro k i hi hk
    obtain ⟨k, rfl⟩ : ∃ q, k = q + 1 := ⟨k - 1, by omega⟩
    have next := ih k (i + 1) (by omega) (by omega)
    have h1 := num_ext S a (a + i) (by omega) (by omega)
    have h2 := num_ext S a (a + (i + 1)) (by omega) (by omega)
    rw [show a + i - a = i by omega] at h1
    rw [show a + (i + 1) - a = i + 1 by omega] at h2
    have p2 := pow_le8 ⟨i + 1, by omega⟩
    have e := ext_snoc S a (a + i) (by omega) (by omega)
    rw [show a + (i + 1) = a + i + 1 by omega, e, num_snoc] at h2
    rw [show a + (i + 1) = a + i + 1 by omega, e, num_snoc] at next
    have hb : 0 ≤ bt S ((a + i : Nat) : Int) ∧ bt S ((a + i : Nat) : Int) < 256 := by rw [Bm.bt_at]; have := byteAt_lt S ((a + i : Nat) : Int).toNat; omega
    rw [lockgateref01_Reader_Num.l0.eq_2, if_pos (by omega), w64 (x := (a : Int) + (i : Int)) (by omega) (by omega), if_pos (by omega), if_pos (by omega), show (a : Int) + (i : Int) = ((a + i : Nat) : Int) by omega,
      w64 (x := (i : Int) + 1) (by omega) (by omega), show (i : Int) + 1 = ((i + 1 : Nat) : Int) by omega]
    generalize num (bytesOf (S.extract a (a + i))) = v at h1 h2 next ⊢
    generalize bt S ((a + i : Nat) : Int) = b at hb h2 next ⊢
    simp only at p2
    generalize (256 : Int) ^ (i + 1) = p at p2 h2
    rw [show IntKind.u64.wrap (v * 256) = v * 256 from IntWalk.u64_in _ ⟨by omega, by omega⟩, show IntKind.u64.wrap b = b from IntWalk.u64_in _ ⟨by omega, by omega⟩, show IntKind.u64.wrap (v * 256 + b) = v * 256 + b from IntWalk.u64_in _ ⟨by omega, by omega⟩]
    exact next
/-- The reference's number. -/
theorem rrnum_ok (S : ByteArray) (a n : Nat) (hn : n ≤ 8) (hs : a + n ≤ S.size) (hS : S.size ≤ 140737488355328) (K : Nat) (hK : 20 ≤ K) :
    lockgateref01_Reader_Num.f K S a false n = some (num (bytesOf (S.extract a (a + n))), true, S, ((a + n : Nat) : Int), false) := by
  obtain ⟨k, rfl⟩ : ∃ q, K = q + 1 := ⟨K - 1, by omega⟩
  unfold lockgateref01_Reader_Num.f
  rw [if_neg (by simp), w64 (by omega) (by omega), decide_eq_false (by omega), lockgateref01_Reader_Num.j0.eq_2, if_neg (by simp)]
  have := rrnum_loop S a n hn hs hS false n k 0 (by omega) (by omega)
  rw [show num (bytesOf (S.extract a (a + 0))) = 0 by rw [show S.extract a (a + 0) = ⟨#[]⟩ from nil_of_size (by rw [ext_size _ _ _ (by omega)]; omega)]; rfl] at this
  exact this
theorem rrnum_bad (S : ByteArray) (a n : Nat) (b : Bool) (h : b = true ∨ S.size < a + n) (ha : a ≤ S.size) (hn : n ≤ 8) (hS : S.size ≤ 140737488355328) (K : Nat) (hK : 20 ≤ K) :
    lockgateref01_Reader_Num.f K S a b n = some (0, false, S, (a : Int), true) := by
  obtain ⟨k, rfl⟩ : ∃ q, K = q + 1 := ⟨K - 1, by omega⟩
  unfold lockgateref01_Reader_Num.f
  by_cases c : b = true
  · rw [if_pos c, lockgateref01_Reader_Num.j0.eq_2, if_pos rfl]
  · have h2 : S.size < a + n := h.resolve_left c
    rw [if_neg c, w64 (by omega) (by omega), decide_eq_true (by omega), lockgateref01_Reader_Num.j0.eq_2, if_pos rfl]
end Go.Proofs.YtgmbmkjdfmoanaaDoor.By
