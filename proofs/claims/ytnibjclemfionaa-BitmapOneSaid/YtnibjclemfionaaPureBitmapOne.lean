/- Setting a bit changes no other one, and the count by one at most; set back again all is as it was: the pure law of BitmapOne, for every text and every number. -/
import Derived.Test.YtnibjclemfionaaQx1
import Derived.Test.YtnibjclemfionaaQx2
import Derived.Test.YtnibjclemfionaaBmL
namespace Go.Proofs.Ytnibjclemfionaa.Pure
open Go.RowKit Go.Proofs.Ytnibjclemfionaa.Q Go.Proofs.Ytnibjclemfionaa.Bm Go.Proofs.YtnibjclemfionaaW.PrintWords Go.Proofs.YtnibjclemfionaaW.PrintLast Go.Proofs.YtnibjclemfionaaW.PrintMore
set_option linter.unusedVariables false

theorem others (s t : ByteArray) (hs : s.size ≤ 100) (ht : t.size = s.size) (up had : Bool) (kk : Nat) (hk : kk < 8 * s.size)
    (hb : ∀ j, j < 8 * s.size → j ≠ kk → bitOf t j = bitOf s j) (d : Nat) : ∀ (k : Nat) (i : Int), -1 ≤ i → i + d = 8 * s.size + 1 → d < k →
    lockgatelaw03_BitmapOne.l0 k s up kk had t i = lockgatelaw03_BitmapOne.l0 (k - d) s up kk had t (8 * (s.size : Int) + 1) := by
  induction d with
  | zero => intro k i h0 hi hk; rw [Nat.sub_zero, show i = 8 * (s.size : Int) + 1 by omega]
  | succ d ih =>
    intro k i h0 hi hk'
    obtain ⟨k, rfl⟩ : ∃ m, k = m + 1 := ⟨k - 1, by omega⟩
    rw [show k + 1 - (d + 1) = k - d by omega, ← ih k (i + 1) (by omega) (by omega) (by omega)]
    conv => lhs; simp only [lockgatelaw03_BitmapOne.l0]
    rw [w64 (x := 8 * (s.size : Int)) (by omega) (by omega), if_pos (by omega), w64 (x := i + 1) (by omega) (by omega)]
    by_cases e : i = kk
    · rw [if_pos e]
    · rw [if_neg e, has_ok t (by omega), has_ok s (by omega)]
      simp only [Option.bind_some]
      have : ((decide (0 ≤ i) && bitOf t i.toNat) != (decide (0 ≤ i) && bitOf s i.toNat)) = false := by
        by_cases h1 : 0 ≤ i
        · by_cases h2 : i.toNat < 8 * s.size
          · rw [hb i.toNat h2 (by omega)]; simp
          · rw [bitOf_high (s := t) (by omega), bitOf_high (s := s) (by omega)]; simp
        · rw [decide_eq_false h1]; rfl
      rw [this, if_neg (by simp)]

theorem from_k (s : ByteArray) (hs : s.size ≤ 100) (hs0 : 0 < s.size) (x : Int) (h0 : 0 ≤ x) (h1 : x ≤ 9223372036854775807) :
    ∀ k, 2000 ≤ k → lockgatelaw03_BitmapOne.j0 k s true x = some true := by
  intro k hk
  obtain ⟨k, rfl⟩ : ∃ m, k = m + 1 := ⟨k - 1, by omega⟩
  simp only [lockgatelaw03_BitmapOne.j0]
  rw [w64 (x := 8 * (s.size : Int)) (by omega) (by omega), if_neg (by omega), Int.tmod_eq_emod_of_nonneg h0]
  obtain ⟨kk, hkk⟩ : ∃ kk : Nat, x % (8 * (s.size : Int)) = kk := ⟨(x % (8 * (s.size : Int))).toNat, by have := Int.emod_nonneg x (b := 8 * (s.size : Int)) (by omega); omega⟩
  have hlt : kk < 8 * s.size := by have := Int.emod_lt_of_pos x (b := 8 * (s.size : Int)) (by omega); omega
  rw [hkk, has_nat s (by omega)]
  simp only [Option.bind_some]
  rw [set_in s (by omega) kk hlt]
  simp only [Option.bind_some]
  have htz := setBit_size s kk (!bitOf s kk)
  have hcs := cnt_set s kk (!bitOf s kk) hlt (8 * s.size)
  have hc1 := cnt_le s (8 * s.size)
  rw [others s _ (by omega) htz true (bitOf s kk) kk hlt (fun j hj hne => by rw [setBit_bit s kk _ hlt, if_neg hne]) (8 * s.size + 2) k (-1) (by omega) (by omega) (by omega)]
  obtain ⟨q, hq⟩ : ∃ q, k - (8 * s.size + 2) = q + 2 := ⟨k - (8 * s.size + 2) - 2, by omega⟩
  rw [hq]
  have fin : ∀ d : Int, d = (if bitOf s kk = true then -1 else 1) → lockgatelaw03_BitmapOne.j2 (q + 1) s true kk (bitOf s kk) (setBit s kk (!bitOf s kk)) d = some true := by
    intro d hd
    simp only [lockgatelaw03_BitmapOne.j2]
    rw [if_pos trivial, has_nat _ (by omega), setBit_bit s kk _ hlt, if_pos rfl]
    simp only [Option.bind_some]
    rw [if_pos (by simp), count_ok _ (by omega) q (by omega), count_ok s (by omega) q (by omega), htz]
    simp only [Option.bind_some]
    have : ((cnt (setBit s kk (!bitOf s kk)) (8 * s.size) : Nat) : Int) = (cnt s (8 * s.size) : Nat) + d := by
      cases hb : bitOf s kk
      · rw [hb] at hcs hd; simp [hlt] at hcs hd; subst hd; simp only [Bool.not_false]; omega
      · rw [hb] at hcs hd; simp [hlt] at hcs hd; subst hd; simp only [Bool.not_true]; omega
    rw [if_pos (by rw [this, w64] <;> (split at hd <;> omega)), set_in _ (by omega) kk (by omega)]
    simp only [Option.bind_some]
    have back : setBit (setBit s kk (!bitOf s kk)) kk (bitOf s kk) = s := by
      refine bits_ext (by rw [setBit_size, setBit_size]) fun j hj => ?_
      rw [setBit_bit _ kk _ (by omega), setBit_bit s kk _ hlt]
      split
      · rename_i e; rw [e]
      · rfl
    rw [back, if_pos rfl, set_in s (by omega) kk hlt]
    simp only [Option.bind_some]
    rw [setBit_same s kk hlt]
    simp
  simp only [lockgatelaw03_BitmapOne.l0]
  rw [w64 (x := 8 * (s.size : Int)) (by omega) (by omega), if_neg (by omega)]
  by_cases hb : bitOf s kk = true
  · rw [if_pos hb]; exact fin _ (by rw [if_pos hb])
  · rw [if_neg hb]; exact fin _ (by rw [if_neg hb])

theorem BitmapOne : lockgatelaw03_BitmapOne.Pure := by
  intro a0 a1 ha w1
  have hw := wf_i64 w1
  obtain ⟨K, hK⟩ : ∃ K : Nat, 3000 ≤ K := ⟨3000, Nat.le_refl _⟩
  refine ⟨K, ?_⟩
  unfold lockgatelaw03_BitmapOne.f
  rw [awake_ok K (by omega), short_ok a0 ha]
  simp only [Option.bind_some]
  have hle := shorten_size a0
  by_cases hz : (shorten a0).size = 0
  · rw [if_pos (by omega), if_pos trivial, set_out _ (by omega) a1 (by omega)]
    simp only [Option.bind_some]
    have : shorten a0 = ⟨#[]⟩ := by
      generalize shorten a0 = s at hz
      obtain ⟨l⟩ := s
      have : l = #[] := Array.eq_empty_of_size_eq_zero hz
      rw [this]
    rw [this, ByteArray.toList_eq]; rfl
  · rw [if_neg (by omega)]
    by_cases hn : a1 < 0
    · rw [if_pos hn, w64 (x := a1 + 1) (by omega) (by omega), w64 (by omega) (by omega)]
      exact from_k _ hle (by omega) _ (by omega) (by omega) _ (by omega)
    · rw [if_neg hn]
      exact from_k _ hle (by omega) _ (by omega) (by omega) _ (by omega)
end Go.Proofs.Ytnibjclemfionaa.Pure
