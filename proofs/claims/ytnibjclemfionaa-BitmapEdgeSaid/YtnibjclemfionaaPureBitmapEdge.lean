/- Of a bitmap of so many bits the last one may be taken, and it is right still; one behind them may not: the pure law of BitmapEdge, for every number. -/
import Derived.Test.YtnibjclemfionaaQx1
import Derived.Test.YtnibjclemfionaaQx11
import Derived.Test.YtnibjclemfionaaBmL
import Derived.Test.YtnibjclemfionaaBmG
namespace Go.Proofs.Ytnibjclemfionaa.Pure
open Go.RowKit Go.Proofs.Ytnibjclemfionaa.Q Go.Proofs.Ytnibjclemfionaa.Bm Go.Proofs.YtnibjclemfionaaW.PrintWords Go.Proofs.YtnibjclemfionaaW.PrintLast Go.Proofs.YtnibjclemfionaaW.PrintMore
set_option linter.unusedVariables false
theorem right_set (m : Nat) (hm : m ≤ 1000) (i : Int) (h : i < m) : rightB (setI (zeros (need m)) i true) m = true := by
  unfold rightB
  have hz := zeros_size (need m)
  rw [setI_size, hz, decide_eq_true rfl, decide_eq_true (by omega), decide_eq_true (by omega)]
  rw [Bool.and_true, Bool.and_true, Bool.true_and, noneFrom_iff]
  intro j hj hb
  rw [setI_bit _ _ _ j (by omega), zeros_bit] at hb
  split at hb
  · omega
  · cases hb
theorem right_at (m : Nat) (hm : m ≤ 1000) : rightB (setI (zeros (need m)) m true) m = decide (m % 8 = 0) := by
  unfold rightB
  have hz := zeros_size (need m)
  have hn : need m = (m + 7) / 8 := by unfold need; omega
  rw [setI_size, hz, decide_eq_true rfl, decide_eq_true (by omega), decide_eq_true (by omega)]
  rw [Bool.and_true, Bool.and_true, Bool.true_and, Bool.eq_iff_iff, noneFrom_iff, decide_eq_true_iff]
  constructor
  · intro h
    by_cases c : m % 8 = 0
    · exact c
    · have := h m (by omega) (by rw [setI_bit _ _ _ m (by omega), if_pos rfl])
      omega
  · intro c j hj hb
    rw [setI_bit _ _ _ j (by omega), zeros_bit] at hb
    split at hb
    · omega
    · cases hb
theorem same_at (m : Nat) (hm : m ≤ 1000) : setI (zeros (need m)) m true = zeros (need m) ↔ m % 8 = 0 := by
  have hz := zeros_size (need m)
  have hn : need m = (m + 7) / 8 := by unfold need; omega
  constructor
  · intro h
    by_cases c : m % 8 = 0
    · exact c
    · have h1 : bitOf (setI (zeros (need m)) m true) m = true := by rw [setI_bit _ _ _ m (by omega), if_pos rfl]
      rw [h, zeros_bit] at h1; cases h1
  · intro c
    unfold setI
    rw [if_neg (by omega)]
theorem same_last (m : Nat) (hm : m ≤ 1000) : setI (zeros (need m)) ((m : Int) - 1) true = zeros (need m) ↔ m = 0 := by
  have hz := zeros_size (need m)
  have hn : need m = (m + 7) / 8 := by unfold need; omega
  constructor
  · intro h
    by_cases c : m = 0
    · exact c
    · have h1 : bitOf (setI (zeros (need m)) ((m : Int) - 1) true) (m - 1) = true := by rw [setI_bit _ _ _ (m - 1) (by omega), if_pos (by omega)]
      rw [h, zeros_bit] at h1; cases h1
  · intro c
    unfold setI
    rw [if_neg (by omega)]
theorem list_beq (s t : ByteArray) (p : Bool) (h : s = t ↔ p = true) : ((s.toList == t.toList) == p) = true := by
  cases p
  · have : s.toList ≠ t.toList := fun e => by have := h.1 (toList_ext.1 e); cases this
    simp [this]
  · have := h.2 rfl
    subst this
    simp
theorem from_m (m : Nat) (hm : m ≤ 1000) : ∀ k, 9000 ≤ k → lockgatelaw03_BitmapEdge.j0 k true m = some true := by
  intro k hk
  obtain ⟨k, rfl⟩ : ∃ q, k = q + 1 := ⟨k - 1, by omega⟩
  have hz := zeros_size (need m)
  have hn : need m = (m + 7) / 8 := by unfold need; omega
  simp only [lockgatelaw03_BitmapEdge.j0]
  rw [new_ok]
  simp only [Option.bind_some]
  rw [set_ok _ (by omega), set_ok _ (by omega)]
  simp only [Option.bind_some, if_true]
  rw [w64 (x := (m : Int) - 1) (by omega) (by omega)]
  have s1 := setI_size (zeros (need m)) ((m : Int) - 1) true
  have s2 := setI_size (zeros (need m)) (m : Int) true
  have r0 : rightB (zeros (need m)) m = true := by
    unfold rightB
    rw [hz, decide_eq_true rfl, (noneFrom_iff (zeros (need m)) m _).2 (fun i _ h => by rw [zeros_bit] at h; cases h), decide_eq_true (by omega), decide_eq_true (by omega)]; rfl
  rw [right_ok _ (by omega) m k (by omega), r0]
  simp only [Option.bind_some, if_true]
  rw [right_ok _ (by omega) m k (by omega), right_set m hm _ (by omega)]
  simp only [Option.bind_some, if_true]
  rw [right_ok _ (by omega) m k (by omega), right_at m hm]
  simp only [Option.bind_some]
  have e8 : Int.tmod (m : Int) 8 = (m % 8 : Nat) := by rw [Int.tmod_eq_emod_of_nonneg (by omega)]; omega
  have p8 : (Int.tmod (m : Int) 8 == 0) = decide (m % 8 = 0) := by
    rw [e8]
    by_cases c : m % 8 = 0
    · rw [decide_eq_true c, c]; rfl
    · rw [decide_eq_false c]; simp; omega
  rw [p8, if_pos (by simp)]
  rw [if_pos (list_beq _ _ _ (by rw [decide_eq_true_iff]; exact same_at m hm))]
  rw [if_pos (list_beq _ _ _ (by rw [beq_iff_eq]; exact (same_last m hm).trans (by omega)))]
  rw [if_pos (by omega), right_ok _ (by rw [ByteArray.size_append, hz]; show _ + 1 ≤ _; omega) m k (by rw [ByteArray.size_append, hz]; show 8 * (_ + 1) < _; omega)]
  simp only [Option.bind_some]
  have : rightB (zeros (need m) ++ (⟨#[0]⟩ : ByteArray)) m = false := by
    unfold rightB
    rw [ByteArray.size_append, hz]
    rw [decide_eq_false (show ¬ need m + ByteArray.size ⟨#[0]⟩ = need m from by show ¬ need m + 1 = need m; omega)]
    simp
  rw [this]; rfl
theorem tmod_bound (a b : Int) (hb : 0 < b) : -b < Int.tmod a b ∧ Int.tmod a b < b := ⟨Int.lt_tmod_of_pos a hb, Int.tmod_lt_of_pos a hb⟩
theorem BitmapEdge : lockgatelaw03_BitmapEdge.Pure := by
  intro a0 w0
  obtain ⟨K, hK⟩ : ∃ K : Nat, 9000 ≤ K := ⟨9000, Nat.le_refl _⟩
  refine ⟨K, ?_⟩
  unfold lockgatelaw03_BitmapEdge.f
  rw [awake_ok K (by omega)]
  simp only [Option.bind_some]
  obtain ⟨b1, b2⟩ := tmod_bound a0 1001 (by omega)
  by_cases q : Int.tmod a0 1001 < 0
  · rw [if_pos q, w64 (x := - Int.tmod a0 1001) (by omega) (by omega)]
    have := from_m (- Int.tmod a0 1001).toNat (by omega) K hK
    rwa [Int.toNat_of_nonneg (by omega)] at this
  · rw [if_neg q]
    have := from_m (Int.tmod a0 1001).toNat (by omega) K hK
    rwa [Int.toNat_of_nonneg (by omega)] at this
end Go.Proofs.Ytnibjclemfionaa.Pure
