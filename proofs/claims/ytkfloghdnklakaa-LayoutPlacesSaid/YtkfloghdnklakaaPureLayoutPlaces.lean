/- Where things lie is as the document says: the pure law of LayoutPlaces, for every layout and every three numbers. -/
import Derived.Test.YtkfloghdnklakaaQx3
import Derived.Test.YtkfloghdnklakaaLyZ
import Derived.Test.YtkfloghdnklakaaSayLayoutPlaces
namespace Go.Proofs.Ytkfloghdnklakaa.Pure
open Go.RowKit Go.Proofs.Ytkfloghdnklakaa.Q Go.Proofs.Ytkfloghdnklakaa.Ly Go.Proofs.YtkfloghdnklakaaW.PrintWords Go.Proofs.YtkfloghdnklakaaW.PrintLast Go.Proofs.YtkfloghdnklakaaW.PrintMore
set_option linter.unusedVariables false
theorem awakeP : ∀ k, 12 ≤ k → lockgatelaw13_awake.f k = some true := fun k hk =>
  at_rounds (fun k => lockgatelaw13_awake.mono k) hk (by decide +kernel)
theorem root_is (s n f z i : Int) : (if (if IsL s n f z ∧ 0 ≤ i ∧ i < 4 then f + i * z else -1) ≥ 0 then wrap64 ((if IsL s n f z ∧ 0 ≤ i ∧ i < 4 then f + i * z else -1) + 1) else (if IsL s n f z ∧ 0 ≤ i ∧ i < 4 then f + i * z else -1)) =
    if IsL s n f z ∧ 0 ≤ i ∧ i < 4 then f + i * z + 1 else -1 := by
  by_cases c : IsL s n f z ∧ 0 ≤ i ∧ i < 4
  · have e := small_mul c.1 i c.2.1 c.2.2
    have := c.1.n8; have := c.1.hf; have := c.1.n1
    rw [if_pos c, if_pos c, if_pos (by omega), w64 (by omega) (by omega)]
  · rw [if_neg c, if_neg c, if_neg (by omega)]
theorem LayoutPlaces : lockgatelaw13_LayoutPlaces.Pure := by
  intro s n f z i j x w0 w1 w2 w3 w4 w5 w6
  have hs : -9223372036854775808 ≤ s := by
    have := wf_i64 (x := s) (by first | exact w0 | exact w0.1)
    exact this.1
  obtain ⟨k, hk⟩ : ∃ k, 800 ≤ k := ⟨800, Nat.le_refl _⟩
  refine ⟨k + 3, ?_⟩
  unfold lockgatelaw13_LayoutPlaces.f
  rw [awakeP _ (by omega), journal_val s n f z hs i _ (by omega), rjournal_val s n f z hs i _ (by omega), begin_val s n f z hs j _ (by omega), rbegin_val s n f z hs j _ (by omega)]
  simp only [Option.bind_some, if_true]
  rw [show ((if IsL s n f z ∧ 0 ≤ j ∧ j < 4 then f + j * z else -1) == (if IsL s n f z ∧ 0 ≤ j ∧ j < 4 then f + j * z else -1)) = true from beq_self_eq_true _]
  rw [lockgatelaw13_LayoutPlaces.j0.eq_2, rbegin_val s n f z hs j _ (by omega)]
  simp only [Option.bind_some]
  have e : ∀ t, (t = if IsL s n f z ∧ 0 ≤ j ∧ j < 4 then f + j * z + 1 else -1) → lockgatelaw13_LayoutPlaces.j1 (k + 2) true true t s n f z i j x = some true := by
    intro t ht
    rw [lockgatelaw13_LayoutPlaces.j1.eq_2, root_val s n f z hs j _ (by omega), ← ht, zone_val s n f z hs x _ (by omega), rzone_val s n f z hs x _ (by omega), place_val s n f z hs x _ (by omega), rplace_val s n f z hs x _ (by omega)]
    simp only [Option.bind_some, if_true]
    rw [show ((if IsL s n f z then placeOf f z x else -1) == (if IsL s n f z then placeOf f z x else -1)) = true from beq_self_eq_true _]
    rw [lockgatelaw13_LayoutPlaces.j2.eq_2, map_val s n f z hs _ (by omega), rmap_val s n f z hs _ (by omega), room_val s n f z hs _ (by omega), rroom_val s n f z hs _ (by omega)]
    simp only [Option.bind_some, if_true]
    rw [beq_self_eq_true]
  have r := root_is s n f z j
  by_cases c : (if IsL s n f z ∧ 0 ≤ j ∧ j < 4 then f + j * z else -1) ≥ 0
  · rw [if_pos c] at r ⊢
    exact e _ r
  · rw [if_neg c] at r ⊢
    exact e _ r
end Go.Proofs.Ytkfloghdnklakaa.Pure
