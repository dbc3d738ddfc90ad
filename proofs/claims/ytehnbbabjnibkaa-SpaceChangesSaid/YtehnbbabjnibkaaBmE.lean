/- What bitmap.Each tells: those that are taken, rising. -/
import Derived.Test.YtehnbbabjnibkaaQx2
import Derived.Test.YtehnbbabjnibkaaBmF
namespace Go.Proofs.Ytehnbbabjnibkaa.Bm
open Go.RowKit Go.Proofs.Ytehnbbabjnibkaa.Q Go.Proofs.YtehnbbabjnibkaaW.PrintWords Go.Proofs.YtehnbbabjnibkaaW.PrintMore
set_option linter.unusedVariables false
theorem each_loop (s : ByteArray) (hs : s.size ≤ 100000) (d : Nat) : ∀ (k i : Nat), i + d = 8 * s.size → d < k →
    bitmap_Each.l0 k s (takenTo s i) (8 * (s.size : Int)) i = some (takenTo s (8 * s.size)) := by
  induction d with
  | zero =>
    intro k i hi hk
    obtain ⟨k, rfl⟩ : ∃ m, k = m + 1 := ⟨k - 1, by omega⟩
    simp only [bitmap_Each.l0]
    rw [if_neg (by omega), show i = 8 * s.size by omega]
  | succ d ih =>
    intro k i hi hk
    obtain ⟨k, rfl⟩ : ∃ m, k = m + 1 := ⟨k - 1, by omega⟩
    have hc := cnt_le s i
    have hl := takenTo_length s i
    simp only [bitmap_Each.l0]
    rw [if_pos (by omega), has_nat s (by omega)]
    simp only [Option.bind_some]
    have := ih k (i + 1) (by omega) (by omega)
    rw [takenTo_succ] at this
    by_cases hb : bitOf s i = true
    · rw [if_pos hb] at this ⊢
      rw [if_pos (by omega), w64 (x := (i : Int) + 1) (by omega) (by omega)]
      exact this
    · rw [if_neg hb] at this ⊢
      rw [w64 (x := (i : Int) + 1) (by omega) (by omega)]
      exact this
theorem each_ok (s : ByteArray) (hs : s.size ≤ 100000) : ∀ k, 8 * s.size < k → bitmap_Each.f k s = some (takenTo s (8 * s.size)) := by
  intro k hk
  unfold bitmap_Each.f
  rw [len_ok s (by omega)]
  simp only [Option.bind_some]
  exact each_loop s hs (8 * s.size) k 0 (by omega) hk
end Go.Proofs.Ytehnbbabjnibkaa.Bm
