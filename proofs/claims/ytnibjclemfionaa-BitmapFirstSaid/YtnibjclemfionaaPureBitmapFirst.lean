/- What is told as the first bit that is not taken is not, and all ahead of it are: the pure law of BitmapFirst, for every text and every number. -/
import Derived.Test.YtnibjclemfionaaQx1
import Derived.Test.YtnibjclemfionaaQx3
import Derived.Test.YtnibjclemfionaaBmL
namespace Go.Proofs.Ytnibjclemfionaa.Pure
open Go.RowKit Go.Proofs.Ytnibjclemfionaa.Q Go.Proofs.Ytnibjclemfionaa.Bm Go.Proofs.YtnibjclemfionaaW.PrintWords Go.Proofs.YtnibjclemfionaaW.PrintLast Go.Proofs.YtnibjclemfionaaW.PrintMore
set_option linter.unusedVariables false

theorem walk_on (s : ByteArray) (hs : s.size ≤ 100) (n x7 : Int) (e : Nat) (he : e ≤ 8 * s.size) (d : Nat) : ∀ (k i : Nat), i + d = e → d < k → (∀ j, i ≤ j → j < e → bitOf s j = true) →
    lockgatelaw03_BitmapFirst.l0 k s true n x7 e i = lockgatelaw03_BitmapFirst.l0 (k - d) s true n x7 e e := by
  induction d with
  | zero => intro k i hi hk hb; rw [Nat.sub_zero, show i = e by omega]
  | succ d ih =>
    intro k i hi hk hb
    obtain ⟨k, rfl⟩ : ∃ m, k = m + 1 := ⟨k - 1, by omega⟩
    rw [show k + 1 - (d + 1) = k - d by omega, ← ih k (i + 1) (by omega) (by omega) (fun j h1 h2 => hb j (by omega) h2)]
    conv => lhs; simp only [lockgatelaw03_BitmapFirst.l0]
    rw [if_pos (by omega), has_nat s (by omega), hb i (by omega) (by omega)]
    simp only [Option.bind_some, if_true]
    rw [w64 (x := (i : Int) + 1) (by omega) (by omega)]
    rfl

theorem at_end (s : ByteArray) (hs : s.size ≤ 100) (n x7 e i : Int) (hi : e ≤ i) (h : n = -1 ∨ (x7 ≤ n ∧ 0 ≤ n ∧ n < 8 * (s.size : Int) ∧ bitOf s n.toNat = false)) (k : Nat) :
    lockgatelaw03_BitmapFirst.l0 (k + 1) s true n x7 e i = some true := by
  simp only [lockgatelaw03_BitmapFirst.l0]
  rw [if_neg (by omega), if_pos trivial]
  rcases h with h | ⟨h1, h0, h2, h3⟩
  · rw [if_pos h]
  · rw [if_neg (by omega), if_pos (by omega), w64 (by omega) (by omega), if_pos h2, has_ok s (by omega), h3]
    simp

theorem loop_ok (s : ByteArray) (hs : s.size ≤ 100) (n x7 : Int) (e i : Nat) (he : e ≤ 8 * s.size) (hb : ∀ j, i ≤ j → j < e → bitOf s j = true)
    (h : n = -1 ∨ (x7 ≤ n ∧ 0 ≤ n ∧ n < 8 * (s.size : Int) ∧ bitOf s n.toNat = false)) (k : Nat) (hk : 900 ≤ k) : lockgatelaw03_BitmapFirst.l0 k s true n x7 e i = some true := by
  by_cases hie : i ≤ e
  · rw [walk_on s hs n x7 e he (e - i) k i (by omega) (by omega) hb]
    obtain ⟨q, hq⟩ : ∃ q, k - (e - i) = q + 1 := ⟨k - (e - i) - 1, by omega⟩
    rw [hq]
    exact at_end s hs _ _ _ _ (Int.le_refl _) h q
  · obtain ⟨q, rfl⟩ : ∃ q, k = q + 1 := ⟨k - 1, by omega⟩
    exact at_end s hs _ _ _ _ (by omega) h q

theorem BitmapFirst : lockgatelaw03_BitmapFirst.Pure := by
  intro a0 a1 ha w1
  have hw := wf_i64 w1
  obtain ⟨K, hK⟩ : ∃ K : Nat, 3000 ≤ K := ⟨3000, Nat.le_refl _⟩
  refine ⟨K, ?_⟩
  unfold lockgatelaw03_BitmapFirst.f
  have hle := shorten_size a0
  rw [awake_ok K (by omega), short_ok a0 ha]
  simp only [Option.bind_some]
  rw [first_ok _ (by omega) a1 (by omega) K (by omega)]
  simp only [Option.bind_some]
  have key : ∀ (x : Int), x = (a1.toNat : Int) → ∀ k, 2000 ≤ k → lockgatelaw03_BitmapFirst.j0 k (shorten a0) true (firstOf (shorten a0) a1) x = some true := by
    intro x hx k hk
    obtain ⟨k, rfl⟩ : ∃ q, k = q + 2 := ⟨k - 2, by omega⟩
    simp only [lockgatelaw03_BitmapFirst.j0, lockgatelaw03_BitmapFirst.j1]
    rcases firstOf_is (shorten a0) a1 with ⟨h1, h2⟩ | ⟨r, h1, h2, h3, h4, h5⟩
    · rw [h1, if_pos (by omega), w64 (by omega) (by omega), hx]
      have := loop_ok (shorten a0) hle (-1) (a1.toNat : Int) (8 * (shorten a0).size) a1.toNat (Nat.le_refl _) h2 (.inl rfl) k (by omega)
      push_cast at this
      exact this
    · rw [h1, if_neg (by omega), hx]
      exact loop_ok (shorten a0) hle r (a1.toNat : Int) r a1.toNat (by omega) h5 (.inr ⟨by omega, by omega, by omega, by rw [Int.toNat_natCast]; exact h4⟩) k (by omega)
  by_cases hn : a1 < 0
  · rw [if_pos hn]; exact key 0 (by omega) _ (by omega)
  · rw [if_neg hn]; exact key a1 (by omega) _ (by omega)
end Go.Proofs.Ytnibjclemfionaa.Pure
