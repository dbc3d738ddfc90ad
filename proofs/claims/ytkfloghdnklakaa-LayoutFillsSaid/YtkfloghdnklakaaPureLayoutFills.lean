/- The journals and the zones lie one behind the other, nothing between: the pure law of LayoutFills, for every two numbers. -/
import Derived.Test.YtkfloghdnklakaaQx3
import Derived.Test.YtkfloghdnklakaaQx5
import Derived.Test.YtkfloghdnklakaaQx6
import Derived.Test.YtkfloghdnklakaaLyF
namespace Go.Proofs.Ytkfloghdnklakaa.Pure
open Go.RowKit Go.Proofs.Ytkfloghdnklakaa.Q Go.Proofs.Ytkfloghdnklakaa.Ly Go.Proofs.YtkfloghdnklakaaW.PrintWords Go.Proofs.YtkfloghdnklakaaW.PrintLast Go.Proofs.YtkfloghdnklakaaW.PrintMore
set_option linter.unusedVariables false
theorem awakeF : ∀ k, 12 ≤ k → lockgatelaw13_awake.f k = some true := fun k hk =>
  at_rounds (fun k => lockgatelaw13_awake.mono k) hk (by decide +kernel)
theorem room_ok {s n f z : Int} (h : IsL s n f z) : ∀ k, 1 ≤ k → layout_Room.f k s n f z = some (4 * z - 8) := by
  intro k hk
  obtain ⟨a, b, c, d⟩ := h.z3
  unfold layout_Room.f
  rw [is_ok h k hk]
  simp only [Option.bind_some, if_true]
  rw [w64 (x := z - 2) (by omega) (by omega), w64 (by omega) (by omega)]
  congr 1; omega
theorem fills_end {s n f z : Int} (h : IsL s n f z) (hs : s ≤ 20000) (k : Nat) (hk : 2 ≤ k) : lockgatelaw13_LayoutFills.l1 k true s (f + 4 * z) 4 s n f z = some true := by
  obtain ⟨a, b, c, d⟩ := h.z3
  have := h.n8; have := h.hf; have := h.n1
  have hz := h.hz
  obtain ⟨k, rfl⟩ : ∃ q, k = q + 1 := ⟨k - 1, by omega⟩
  have hlow : -9223372036854775808 ≤ s := by have := h.hs; omega
  have e1 : wrap64 (4 * z) = 4 * z := w64 (by omega) (by omega)
  have e2 : wrap64 (4 * z - 8) = 4 * z - 8 := w64 (by omega) (by omega)
  have e3 : wrap64 (s - (f + 4 * z)) = s - (f + 4 * z) := w64 (by omega) (by omega)
  rw [lockgatelaw13_LayoutFills.l1.eq_2, if_neg (by omega), if_pos rfl, if_pos (by omega), e1, e2, e3, room_ok h k (by omega), journal_val s n f z hlow n k (by omega), begin_val s n f z hlow 4 k (by omega), if_neg (show ¬ (IsL s n f z ∧ 0 ≤ n ∧ n < n) from fun g => by omega), if_neg (show ¬ (IsL s n f z ∧ (0 : Int) ≤ 4 ∧ (4 : Int) < 4) from fun g => by omega)]
  simp only [Option.bind_some, if_true]
  by_cases q : s - (f + 4 * z) < 4
  · rw [if_pos q]; rfl
  · rw [if_neg q, if_pos (by unfold mn at hz; split at hz <;> omega)]; rfl
theorem fills_zone {s n f z : Int} (h : IsL s n f z) (i : Int) (h0 : 0 ≤ i) (h3 : i < 4) (k : Nat) (hk : 1 ≤ k) :
    lockgatelaw13_LayoutFills.l1 (k + 1) true s (f + i * z) i s n f z = lockgatelaw13_LayoutFills.l1 k true s (f + i * z + z) (i + 1) s n f z := by
  obtain ⟨a, b, c, d⟩ := h.z3
  have := h.n8; have := h.hf; have := h.n1; have := h.smax
  have e := small_mul h i h0 h3
  rw [lockgatelaw13_LayoutFills.l1.eq_2, if_pos h3, begin_ok h i h0 h3 k hk, root_ok h i h0 h3 k hk]
  simp only [Option.bind_some, if_true]
  rw [w64 (x := f + i * z + 1) (by omega) (by omega), if_pos rfl, w64 (x := f + i * z + z) (by omega) (by omega), w64 (x := i + 1) (by omega) (by omega)]
theorem fills_zones {s n f z : Int} (h : IsL s n f z) (hs : s ≤ 20000) (k : Nat) (hk : 8 ≤ k) : lockgatelaw13_LayoutFills.l1 k true s f 0 s n f z = some true := by
  obtain ⟨k, rfl⟩ : ∃ q, k = q + 4 := ⟨k - 4, by omega⟩
  have s0 := fills_zone h 0 (by omega) (by omega) (k + 3) (by omega)
  have s1 := fills_zone h 1 (by omega) (by omega) (k + 2) (by omega)
  have s2 := fills_zone h 2 (by omega) (by omega) (k + 1) (by omega)
  have s3 := fills_zone h 3 (by omega) (by omega) k (by omega)
  have s4 := fills_end h hs k (by omega)
  rw [show f + 0 * z = f by omega, show f + z = f + 1 * z by omega, show (0 : Int) + 1 = 1 from rfl] at s0
  rw [show f + 1 * z + z = f + 2 * z by omega, show (1 : Int) + 1 = 2 from rfl] at s1
  rw [show f + 2 * z + z = f + 3 * z by omega, show (2 : Int) + 1 = 3 from rfl] at s2
  rw [show f + 3 * z + z = f + 4 * z by omega, show (3 : Int) + 1 = 4 from rfl] at s3
  exact s0.trans (s1.trans (s2.trans (s3.trans s4)))
theorem fills_journals {s n f z : Int} (h : IsL s n f z) (hs : s ≤ 20000) (d : Nat) : ∀ (k : Nat) (i : Int), 0 ≤ i → i + d = n → d + 10 ≤ k → lockgatelaw13_LayoutFills.l0 k true s (2 + 40 * i) i s n f z = some true := by
  have := h.n8; have hf := h.hf
  induction d with
  | zero =>
    intro k i h0 hi hk
    obtain ⟨k, rfl⟩ : ∃ q, k = q + 1 := ⟨k - 1, by omega⟩
    rw [lockgatelaw13_LayoutFills.l0.eq_2, if_neg (by omega), show 2 + 40 * i = f by omega]
    exact fills_zones h hs k (by omega)
  | succ d ih =>
    intro k i h0 hi hk
    obtain ⟨k, rfl⟩ : ∃ q, k = q + 1 := ⟨k - 1, by omega⟩
    have next := ih k (i + 1) (by omega) (by omega) (by omega)
    rw [show 2 + 40 * (i + 1) = 2 + 40 * i + 40 by omega] at next
    rw [lockgatelaw13_LayoutFills.l0.eq_2, if_pos (by omega), journal_ok h i h0 (by omega) k (by omega)]
    simp only [Option.bind_some, if_true]
    rw [w64 (x := 2 + 40 * i + 40) (by omega) (by omega), w64 (x := i + 1) (by omega) (by omega)]
    exact next
theorem fills_from (s m : Int) (h0 : 0 ≤ s) (h1 : s ≤ 20000) (k : Nat) (hk : 30 ≤ k) : lockgatelaw13_LayoutFills.j0 k m true s = some true := by
  obtain ⟨k, rfl⟩ : ∃ q, k = q + 1 := ⟨k - 1, by omega⟩
  rw [lockgatelaw13_LayoutFills.j0.eq_2, new_val s m (by omega) k (by omega)]
  simp only [Option.bind_some]
  unfold newL
  by_cases c1 : 1 ≤ m ∧ m ≤ 8 ∧ s ≤ 65536
  · rw [if_pos c1]
    by_cases c2 : 2 + 40 * m + 12 ≤ s
    · rw [if_pos c2]
      simp only [if_true]
      have L : IsL s m (2 + 40 * m) (mn ((s - (2 + 40 * m)) / 4) 4000) := ⟨c1.1, c1.2.1, c1.2.2, rfl, c2, rfl⟩
      have := fills_journals L h1 m.toNat k 0 (by omega) (by omega) (by omega)
      exact this
    · rw [if_neg c2]; simp
  · rw [if_neg c1]; simp
theorem LayoutFills : lockgatelaw13_LayoutFills.Pure := by
  intro a0 a1 w0 w1
  refine ⟨42, ?_⟩
  unfold lockgatelaw13_LayoutFills.f
  rw [awakeF 42 (by omega)]
  simp only [Option.bind_some]
  obtain ⟨b1, b2⟩ := tmod_bound a0 20001 (by omega)
  by_cases q : Int.tmod a0 20001 < 0
  · rw [if_pos q, w64 (x := - Int.tmod a0 20001) (by omega) (by omega)]
    exact fills_from _ _ (by omega) (by omega) 42 (by omega)
  · rw [if_neg q]
    exact fills_from _ _ (by omega) (by omega) 42 (by omega)
end Go.Proofs.Ytkfloghdnklakaa.Pure
