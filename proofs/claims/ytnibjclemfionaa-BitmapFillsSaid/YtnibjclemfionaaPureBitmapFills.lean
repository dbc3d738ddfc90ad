/- Taken one by one, each time the first one, all bits are taken in order, and then none is left: the pure law of BitmapFills, for every number. -/
import Derived.Test.YtnibjclemfionaaQx1
import Derived.Test.YtnibjclemfionaaQx4
import Derived.Test.YtnibjclemfionaaQx7
import Derived.Test.YtnibjclemfionaaBmL
import Derived.Test.YtnibjclemfionaaBmE
namespace Go.Proofs.Ytnibjclemfionaa.Pure
open Go.RowKit Go.Proofs.Ytnibjclemfionaa.Q Go.Proofs.Ytnibjclemfionaa.Bm Go.Proofs.YtnibjclemfionaaW.PrintWords Go.Proofs.YtnibjclemfionaaW.PrintLast Go.Proofs.YtnibjclemfionaaW.PrintMore
set_option linter.unusedVariables false

/-- The first i bits are taken, no other. -/
def Upto (s : ByteArray) (i : Nat) : Prop := ∀ j, j < 8 * s.size → bitOf s j = decide (j < i)
theorem upto_cnt (s : ByteArray) (i : Nat) (h : Upto s i) (hi : i ≤ 8 * s.size) : ∀ n, n ≤ 8 * s.size → cnt s n = min n i := by
  intro n
  induction n with
  | zero => intro _; simp [cnt]
  | succ n ih =>
    intro hn
    rw [cnt_succ, ih (by omega), h n (by omega)]
    by_cases e : n < i
    · rw [decide_eq_true e, if_pos rfl]; omega
    · rw [decide_eq_false e, if_neg (by simp)]; omega
theorem upto_first (s : ByteArray) (i : Nat) (h : Upto s i) (hi : i ≤ 8 * s.size) : firstOf s 0 = if i < 8 * s.size then (i : Int) else -1 := by
  rcases firstOf_is s 0 with ⟨h1, h2⟩ | ⟨r, h1, h2, h3, h4, h5⟩
  · rw [h1]
    by_cases e : i < 8 * s.size
    · have := h2 i (by simp) e
      rw [h i e] at this
      simp at this
    · rw [if_neg e]
  · rw [h1]
    have hr : ¬ r < i := by
      intro q
      rw [h r h3, decide_eq_true q] at h4
      cases h4
    have : r = i := by
      by_cases q : i < r
      · have := h5 i (by simp) q
        rw [h i (by omega)] at this
        simp at this
      · omega
    subst this
    rw [if_pos h3]

theorem fills (n : Nat) (hn : n ≤ 40) (m : Int) (hm : 0 ≤ m ∧ m ≤ 300) (hmn : m ≤ 8 * (n : Int) ∧ 8 * (n : Int) < m + 8) (d : Nat) : ∀ (k i : Nat) (s : ByteArray), s.size = n → Upto s i → i + d = 8 * n → 1000 + d ≤ k →
    lockgatelaw03_BitmapFills.l0 k true m s (8 * (n : Int)) i = some true := by
  induction d with
  | zero =>
    intro k i s hs hu hi hk
    obtain ⟨k, rfl⟩ : ∃ q, k = q + 1 := ⟨k - 1, by omega⟩
    have hb : 8 * s.size = i := by omega
    simp only [lockgatelaw03_BitmapFills.l0]
    rw [if_neg (by omega), if_pos trivial, first_ok s (by omega) 0 (by omega) k (by omega), upto_first s i hu (by omega), if_neg (by omega)]
    simp only [Option.bind_some, if_true]
    rw [each_ok s (by omega) k (by omega)]
    simp only [Option.bind_some]
    rw [takenTo_length, upto_cnt s i hu (by omega) _ (Nat.le_refl _), if_pos (by omega), if_pos (by omega), w64 (by omega) (by omega), decide_eq_true (by omega)]
  | succ d ih =>
    intro k i s hs hu hi hk
    obtain ⟨k, rfl⟩ : ∃ q, k = q + 1 := ⟨k - 1, by omega⟩
    simp only [lockgatelaw03_BitmapFills.l0]
    rw [if_pos (by omega), first_ok s (by omega) 0 (by omega) k (by omega), upto_first s i hu (by omega), if_pos (by omega)]
    simp only [Option.bind_some, if_true]
    rw [count_ok s (by omega) k (by omega), upto_cnt s i hu (by omega) _ (Nat.le_refl _), show min (8 * s.size) i = i by omega]
    simp only [Option.bind_some, if_true]
    rw [set_in s (by omega) i (by omega)]
    simp only [Option.bind_some]
    rw [w64 (x := (i : Int) + 1) (by omega) (by omega)]
    refine ih k (i + 1) _ (by rw [setBit_size]; exact hs) (fun j hj => ?_) (by omega) (by omega)
    rw [setBit_size] at hj
    rw [setBit_bit s i true (by omega)]
    by_cases e : j = i
    · rw [if_pos e, decide_eq_true (by omega)]
    · rw [if_neg e, hu j hj]
      congr 1
      apply propext
      omega

theorem from_m (m : Int) (h0 : 0 ≤ m) (h1 : m ≤ 300) : ∀ k, 2000 ≤ k → lockgatelaw03_BitmapFills.j0 k true m = some true := by
  intro k hk
  obtain ⟨k, rfl⟩ : ∃ q, k = q + 1 := ⟨k - 1, by omega⟩
  simp only [lockgatelaw03_BitmapFills.j0]
  have hz := zeros_size (need m)
  have hn : need m ≤ 40 ∧ m ≤ 8 * (need m : Int) ∧ 8 * (need m : Int) < m + 8 := by unfold need; omega
  rw [new_ok]
  simp only [Option.bind_some]
  rw [hz, w64 (by omega) (by omega)]
  exact fills (need m) hn.1 m ⟨h0, h1⟩ hn.2 (8 * need m) k 0 _ hz (fun j hj => by rw [zeros_bit]; simp) (by omega) (by omega)

theorem tmod_bound (a b : Int) (hb : 0 < b) : -b < Int.tmod a b ∧ Int.tmod a b < b := ⟨Int.lt_tmod_of_pos a hb, Int.tmod_lt_of_pos a hb⟩
theorem BitmapFills : lockgatelaw03_BitmapFills.Pure := by
  intro a0 w0
  obtain ⟨K, hK⟩ : ∃ K : Nat, 3000 ≤ K := ⟨3000, Nat.le_refl _⟩
  refine ⟨K, ?_⟩
  unfold lockgatelaw03_BitmapFills.f
  rw [awake_ok K (by omega)]
  simp only [Option.bind_some]
  obtain ⟨b1, b2⟩ := tmod_bound a0 301 (by omega)
  by_cases q : Int.tmod a0 301 < 0
  · rw [if_pos q, w64 (x := - Int.tmod a0 301) (by omega) (by omega)]
    exact from_m _ (by omega) (by omega) _ (by omega)
  · rw [if_neg q]
    exact from_m _ (by omega) (by omega) _ (by omega)
end Go.Proofs.Ytnibjclemfionaa.Pure
