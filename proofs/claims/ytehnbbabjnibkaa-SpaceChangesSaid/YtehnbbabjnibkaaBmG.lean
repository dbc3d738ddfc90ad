/- When a bitmap is right: its size, and no bit from n on. -/
import Derived.Test.YtehnbbabjnibkaaQx2
import Derived.Test.YtehnbbabjnibkaaQx4
import Derived.Test.YtehnbbabjnibkaaBmE
import Derived.Test.YtehnbbabjnibkaaBmR
namespace Go.Proofs.Ytehnbbabjnibkaa.Bm
open Go.RowKit Go.Proofs.Ytehnbbabjnibkaa.Q Go.Proofs.YtehnbbabjnibkaaW.PrintWords Go.Proofs.YtehnbbabjnibkaaW.PrintMore
set_option linter.unusedVariables false

/-- No bit below m but those below n. -/
def noneFrom (s : ByteArray) (n : Int) (m : Nat) : Bool := (List.range m).all fun i => !bitOf s i || decide ((i : Int) < n)
theorem noneFrom_iff (s : ByteArray) (n : Int) (m : Nat) : noneFrom s n m = true ↔ ∀ i, i < m → bitOf s i = true → (i : Int) < n := by
  unfold noneFrom
  rw [List.all_eq_true]
  constructor
  · intro h i hi hb
    have := h i (List.mem_range.2 hi)
    rw [hb] at this
    simpa using this
  · intro h i hi
    rw [List.mem_range] at hi
    cases hb : bitOf s i
    · rfl
    · have := h i hi hb
      simp [this]
def rightB (s : ByteArray) (n : Int) : Bool := decide (0 ≤ n) && decide (n ≤ 4000) && decide (s.size = need n) && noneFrom s n (8 * s.size)

theorem last_of (s : ByteArray) (n : Int) (m : Nat) : (takenTo s m).length = 0 ∧ noneFrom s n m = true ∨
    0 < (takenTo s m).length ∧ decide (rd (takenTo s m) ((takenTo s m).length - 1 : Nat) < n) = noneFrom s n m := by
  induction m with
  | zero => exact .inl ⟨rfl, rfl⟩
  | succ m ih =>
    rw [takenTo_succ]
    by_cases hb : bitOf s m = true
    · rw [if_pos hb]
      refine .inr ⟨by simp, ?_⟩
      have e : rd (takenTo s m ++ [(m : Int)]) ((takenTo s m ++ [(m : Int)]).length - 1 : Nat) = m := by
        unfold rd
        rw [Int.toNat_natCast, List.length_append, List.length_singleton, Nat.add_sub_cancel, List.getD_eq_getElem?_getD, List.getElem?_append_right (Nat.le_refl _), Nat.sub_self]
        rfl
      rw [e, Bool.eq_iff_iff, decide_eq_true_iff, noneFrom_iff]
      constructor
      · intro h i hi _; omega
      · intro h; exact h m (by omega) hb
    · rw [if_neg hb]
      have e : noneFrom s n (m + 1) = noneFrom s n m := by
        rw [Bool.eq_iff_iff, noneFrom_iff, noneFrom_iff]
        constructor
        · intro h i hi; exact h i (by omega)
        · intro h i hi hbi
          by_cases c : i = m
          · subst c; exact absurd hbi hb
          · exact h i (by omega) hbi
      rw [e]; exact ih

theorem right_ok (s : ByteArray) (hs : s.size ≤ 100000) (n : Int) : ∀ k, 8 * s.size < k → bitmap_Right.f k s n = some (rightB s n) := by
  intro k hk
  have hc := cnt_le s (8 * s.size)
  have hl := takenTo_length s (8 * s.size)
  unfold bitmap_Right.f rightB
  by_cases h0 : n < 0
  · rw [if_pos h0, decide_eq_false (by omega)]; rfl
  · rw [if_neg h0, decide_eq_true (show 0 ≤ n by omega)]
    by_cases h1 : n > 4000
    · rw [if_pos h1, decide_eq_false (by omega)]; rfl
    · rw [if_neg h1, decide_eq_true (show n ≤ 4000 by omega), size_ok]
      simp only [Option.bind_some]
      by_cases h2 : s.size = need n
      · rw [if_pos (by omega), decide_eq_true h2, each_ok s hs k hk]
        simp only [Option.bind_some, Bool.true_and]
        rcases last_of s n (8 * s.size) with ⟨h3, h4⟩ | ⟨h3, h4⟩
        · rw [if_pos (by omega), h4]
        · rw [if_neg (by omega), w64 (by omega) (by omega), if_pos (by omega), if_pos (by omega)]
          rw [← h4, show (((takenTo s (8 * s.size)).length : Int) - 1) = (((takenTo s (8 * s.size)).length - 1 : Nat) : Int) by omega]
      · rw [if_neg (by omega), decide_eq_false h2]; simp

theorem rright_loop (s : ByteArray) (hs : s.size ≤ 100000) (n : Nat) (d : Nat) : ∀ (k i : Nat), i + d = 8 * s.size → d + 10 < k → n ≤ i →
    (∀ j, n ≤ j → j < i → bitOf s j = false) → lockgateref03_Right.l0 k s i = some (noneFrom s n (8 * s.size)) := by
  induction d with
  | zero =>
    intro k i hi hk hn hb
    obtain ⟨k, rfl⟩ : ∃ m, k = m + 1 := ⟨k - 1, by omega⟩
    simp only [lockgateref03_Right.l0]
    rw [w64 (x := 8 * (s.size : Int)) (by omega) (by omega), if_neg (by omega)]
    have : noneFrom s n (8 * s.size) = true := by
      rw [noneFrom_iff]
      intro j hj hbj
      by_cases c : n ≤ j
      · rw [hb j c (by omega)] at hbj; cases hbj
      · omega
    rw [this]
  | succ d ih =>
    intro k i hi hk hn hb
    obtain ⟨k, rfl⟩ : ∃ m, k = m + 1 := ⟨k - 1, by omega⟩
    simp only [lockgateref03_Right.l0]
    rw [w64 (x := 8 * (s.size : Int)) (by omega) (by omega), if_pos (by omega), rhas_nat s (by omega) i (by omega) k (by omega)]
    simp only [Option.bind_some]
    by_cases c : bitOf s i = true
    · rw [if_pos c]
      have : noneFrom s n (8 * s.size) = false := by
        rw [Bool.eq_false_iff, ne_eq, noneFrom_iff]
        intro h
        have := h i (by omega) c
        omega
      rw [this]
    · rw [if_neg c, w64 (x := (i : Int) + 1) (by omega) (by omega)]
      refine ih k (i + 1) (by omega) (by omega) (by omega) (fun j h1 h2 => ?_)
      by_cases e : j = i
      · subst e; simpa using c
      · exact hb j h1 (by omega)
theorem rright_ok (s : ByteArray) (hs : s.size ≤ 100000) (n : Int) : ∀ k, 8 * s.size + 700 ≤ k → lockgateref03_Right.f k s n = some (rightB s n) := by
  intro k hk
  obtain ⟨k, rfl⟩ : ∃ m, k = m + 1 := ⟨k - 1, by omega⟩
  unfold lockgateref03_Right.f rightB
  by_cases h0 : n < 0
  · rw [if_pos h0, decide_eq_false (by omega)]; simp [lockgateref03_Right.j0]
  · rw [if_neg h0, decide_eq_true (show 0 ≤ n by omega)]
    by_cases h1 : n > 4000
    · rw [if_pos h1, decide_eq_false (by omega)]; simp [lockgateref03_Right.j0]
    · rw [if_neg h1, decide_eq_true (show n ≤ 4000 by omega), rnew_ok n (k + 1) (by omega)]
      simp only [Option.bind_some, zeros_size, lockgateref03_Right.j0]
      by_cases h2 : s.size = need n
      · rw [decide_eq_true h2]
        have e : ((s.size : Int) != (need n : Int)) = false := by rw [h2]; simp
        rw [e, if_neg (by simp)]
        simp only [Bool.true_and]
        obtain ⟨m, rfl⟩ : ∃ m : Nat, n = m := ⟨n.toNat, by omega⟩
        have hm : m ≤ 8 * s.size := by rw [h2]; unfold need; omega
        exact rright_loop s hs m (8 * s.size - m) k m (by omega) (by omega) (Nat.le_refl _) (fun j _ _ => by omega)
      · have e : ((s.size : Int) != (need n : Int)) = true := by simp; omega
        rw [e, if_pos rfl, decide_eq_false h2]; simp
end Go.Proofs.Ytehnbbabjnibkaa.Bm
