/- What the reference's bitmap functions tell, in terms of bits. -/
import Derived.Test.YtehnbbabjnibkaaQx4
import Derived.Test.YtehnbbabjnibkaaQx5
import Derived.Test.YtehnbbabjnibkaaQx15
import Derived.Test.YtehnbbabjnibkaaBmF
namespace Go.Proofs.Ytehnbbabjnibkaa.Bm
open Go.RowKit Go.Proofs.Ytehnbbabjnibkaa.Q Go.Proofs.YtehnbbabjnibkaaW.PrintWords Go.Proofs.YtehnbbabjnibkaaW.PrintMore
set_option linter.unusedVariables false

theorem odd_bit (b m : Nat) : (Int.tmod ((b / 2 ^ m : Nat) : Int) 2 == 1) = b.testBit m := by
  rw [Nat.testBit_eq_decide_div_mod_eq]
  generalize b / 2 ^ m = q
  rw [Int.tmod_eq_emod_of_nonneg (by omega)]
  by_cases h : q % 2 = 1
  · rw [decide_eq_true h]; simp; omega
  · rw [decide_eq_false h]; simp; omega

theorem rhas_loop (x1 : Int) (b m : Nat) (hb : b < 256) (hx : Int.tmod x1 8 = m) (d : Nat) : ∀ (k j : Nat), j + d = m → d < k →
    lockgateref03_Has.l0 k x1 ((b / 2 ^ j : Nat) : Int) j = some (b.testBit m) := by
  induction d with
  | zero =>
    intro k j hj hk
    obtain ⟨k, rfl⟩ : ∃ q, k = q + 1 := ⟨k - 1, by omega⟩
    obtain rfl : j = m := by omega
    simp only [lockgateref03_Has.l0]
    rw [hx, if_neg (by omega), odd_bit]
  | succ d ih =>
    intro k j hj hk
    obtain ⟨k, rfl⟩ : ∃ q, k = q + 1 := ⟨k - 1, by omega⟩
    have hm : m < 8 := by have := Int.tmod_lt_of_pos x1 (b := 8) (by omega); omega
    simp only [lockgateref03_Has.l0]
    have hle : b / 2 ^ j ≤ b := Nat.div_le_self _ _
    have next := ih k (j + 1) (by omega) (by omega)
    rw [Nat.pow_succ, ← Nat.div_div_eq_div_mul] at next
    generalize b / 2 ^ j = q at hle next ⊢
    have e1 : Int.tdiv (q : Int) 2 = ((q / 2 : Nat) : Int) := by
      rw [Int.tdiv_eq_ediv_of_nonneg (by omega)]; rfl
    rw [hx, if_pos (by omega), e1, w64 (x := ((q / 2 : Nat) : Int)) (by omega) (by omega), w64 (x := (j : Int) + 1) (by omega) (by omega)]
    exact next

theorem rhas_ok (s : ByteArray) (hs : s.size ≤ 140737488355328) (i : Int) (hi : i ≤ 9223372036854775807) (hl : -9223372036854775808 ≤ i) : ∀ k, 10 ≤ k → lockgateref03_Has.f k s i = some (decide (0 ≤ i) && bitOf s i.toNat) := by
  intro k hk
  obtain ⟨k, rfl⟩ : ∃ q, k = q + 1 := ⟨k - 1, by omega⟩
  unfold lockgateref03_Has.f
  by_cases h0 : i < 0
  · rw [if_pos h0, decide_eq_false (by omega)]
    simp [lockgateref03_Has.j0]
  · have e1 : Int.tdiv i 8 = i / 8 := Int.tdiv_eq_ediv_of_nonneg (by omega)
    rw [if_neg h0, e1, w64 (x := i / 8) (by omega) (by omega), decide_eq_true (show 0 ≤ i by omega), Bool.true_and]
    simp only [lockgateref03_Has.j0]
    by_cases h1 : i / 8 ≥ (s.size : Int)
    · rw [decide_eq_true h1, if_pos rfl, bitOf_high (by omega)]
    · rw [decide_eq_false h1, if_neg (by simp), e1, w64 (x := i / 8) (by omega) (by omega), if_pos (by omega), if_pos (by omega), bt_at]
      have hb := byteAt_lt s (i / 8).toNat
      rw [w64 (by omega) (by omega)]
      have := rhas_loop i (byteAt s (i / 8).toNat) (i % 8).toNat hb (by rw [Int.tmod_eq_emod_of_nonneg (by omega)]; omega) (i % 8).toNat k 0 (by omega) (by omega)
      simp only [Nat.pow_zero, Nat.div_one] at this
      unfold bitOf
      rw [show i.toNat / 8 = (i / 8).toNat by omega, show i.toNat % 8 = (i % 8).toNat by omega]
      exact this

theorem rhas_nat (s : ByteArray) (hs : s.size ≤ 140737488355328) (i : Nat) (hi : i ≤ 9223372036854775807) : ∀ k, 10 ≤ k → lockgateref03_Has.f k s i = some (bitOf s i) := by
  intro k hk
  rw [rhas_ok s hs i (by omega) (by omega) k hk, decide_eq_true (by omega), Bool.true_and, Int.toNat_natCast]

theorem rsame_loop (l : List Int) (hl : l.length ≤ 9223372036854775806) (d : Nat) : ∀ (k i : Nat), i + d = l.length → d < k → lockgateref03_Same.l0 k l l i = some true := by
  induction d with
  | zero =>
    intro k i hi hk
    obtain ⟨k, rfl⟩ : ∃ m, k = m + 1 := ⟨k - 1, by omega⟩
    simp only [lockgateref03_Same.l0]
    rw [if_neg (by omega)]
  | succ d ih =>
    intro k i hi hk
    obtain ⟨k, rfl⟩ : ∃ m, k = m + 1 := ⟨k - 1, by omega⟩
    simp only [lockgateref03_Same.l0]
    rw [if_pos (by omega), if_pos (by omega), if_pos (by omega), if_pos trivial, w64 (x := (i : Int) + 1) (by omega) (by omega)]
    exact ih k (i + 1) (by omega) (by omega)
theorem rsame_refl (l : List Int) (hl : l.length ≤ 9223372036854775806) : ∀ k, l.length < k → lockgateref03_Same.f k l l = some true := by
  intro k hk
  unfold lockgateref03_Same.f
  rw [if_pos rfl]
  exact rsame_loop l hl l.length k 0 (by omega) hk

theorem rnew_loop (n : Int) (d : Nat) : ∀ (k i : Nat), i + d = need n → d < k → lockgateref03_New.l0 k n (zeros i) (8 * (i : Int)) = some (zeros (need n)) := by
  have hn := need_le n
  induction d with
  | zero =>
    intro k i hi hk
    obtain ⟨k, rfl⟩ : ∃ m, k = m + 1 := ⟨k - 1, by omega⟩
    obtain rfl : i = need n := by omega
    simp only [lockgateref03_New.l0]
    by_cases h : 8 * (need n : Int) < n
    · rw [if_pos h, if_neg (by unfold need at h ⊢; omega)]
    · rw [if_neg h]
  | succ d ih =>
    intro k i hi hk
    obtain ⟨k, rfl⟩ : ∃ m, k = m + 1 := ⟨k - 1, by omega⟩
    simp only [lockgateref03_New.l0]
    have hz := zeros_size i
    rw [if_pos (by unfold need at hi; omega), if_pos (by omega), if_pos (by rw [hz]; omega), w64 (x := 8 * (i : Int) + 8) (by omega) (by omega)]
    have e : zeros i ++ (⟨#[0]⟩ : ByteArray) = zeros (i + 1) := by
      apply bytes_ext
      · rw [ByteArray.size_append, hz, zeros_size]; rfl
      · intro j hj
        rw [zeros_byte]
        unfold byteAt zeros
        rw [ByteArray.data_append]
        simp only [List.getD_eq_getElem?_getD, Array.toList_append]
        cases e : (List.replicate i (0 : UInt8) ++ [0])[j]? with
        | none => rfl
        | some x =>
          have := List.mem_of_getElem? e
          simp [List.mem_append, List.mem_replicate] at this
          have hx : x = 0 := by rcases this with ⟨_, h⟩ | h <;> exact h
          rw [hx]; rfl
    rw [e]
    have := ih k (i + 1) (by omega) (by omega)
    push_cast at this ⊢
    rw [show 8 * ((i : Int) + 1) = 8 * (i : Int) + 8 by omega] at this
    exact this
theorem rnew_ok (n : Int) : ∀ k, 600 ≤ k → lockgateref03_New.f k n = some (zeros (need n)) := by
  intro k hk
  have := need_le n
  exact rnew_loop n (need n) k 0 (by omega) (by omega)
end Go.Proofs.Ytehnbbabjnibkaa.Bm
