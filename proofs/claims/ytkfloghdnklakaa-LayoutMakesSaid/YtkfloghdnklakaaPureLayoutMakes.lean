/- Layouts are made, written and read as the reference says; what was written is read again: the pure law of LayoutMakes. -/
import Derived.Test.YtkfloghdnklakaaQx3
import Derived.Test.YtkfloghdnklakaaLyR
import Derived.Test.YtkfloghdnklakaaSayLayoutMakes
namespace Go.Proofs.Ytkfloghdnklakaa.Pure
open Go.RowKit Go.Proofs.Ytkfloghdnklakaa.Q Go.Proofs.Ytkfloghdnklakaa.Ly Go.Proofs.Ytkfloghdnklakaa.By Go.Proofs.YtkfloghdnklakaaW.PrintWords Go.Proofs.YtkfloghdnklakaaW.PrintLast Go.Proofs.YtkfloghdnklakaaW.PrintMore
set_option linter.unusedVariables false
theorem awakeO : ∀ k, 12 ≤ k → lockgatelaw13_awake.f k = some true := fun k hk =>
  at_rounds (fun k => lockgatelaw13_awake.mono k) hk (by decide +kernel)
theorem bytesV_size (s n f z : Int) : (bytesV s n f z).1.size ≤ 10 := by
  unfold bytesV
  split
  · rw [bytesL_size]; omega
  · show 0 ≤ 10; omega
theorem makes_gen (k : Nat) (S B C : ByteArray) (q0 q1 s n f z a0 a1 a2 a3 e x0 x1 x2 x3 i g m z0 z1 z2 z3 p : Int) (h1 : layout_New.f k q0 q1 = some (a0, a1, a2, a3, e)) (h2 : lockgateref13_New.f k q0 q1 = some (a0, a1, a2, a3, e))
    (h3 : layout_Bytes.f k s n f z = some (B, g)) (h4 : lockgateref13_Bytes.f k s n f z = some (B, g)) (h5 : layout_Read.f k S = some (x0, x1, x2, x3, i)) (h6 : lockgateref13_Read.f k S = some (x0, x1, x2, x3, i))
    (h7 : layout_Bytes.f k a0 a1 a2 a3 = some (C, m)) (h8 : layout_Read.f k C = some (z0, z1, z2, z3, p)) (hf : e = 0 → m = 0 ∧ z0 = a0 ∧ z1 = a1 ∧ z2 = a2 ∧ z3 = a3 ∧ p = 0) :
    lockgatelaw13_LayoutMakes.j0 (k + 1) S true q0 q1 s n f z = some true := by
  rw [lockgatelaw13_LayoutMakes.j0.eq_2, h1, h2]
  simp only [Option.bind_some]
  rw [h3, h4]
  simp only [Option.bind_some]
  rw [h5, h6]
  simp only [Option.bind_some]
  rw [h7]
  simp only [Option.bind_some]
  rw [h8]
  simp only [Option.bind_some, beq_self_eq_true, Bool.and_self, if_true]
  by_cases c : e = 0
  · obtain ⟨rfl, rfl, rfl, rfl, rfl, rfl⟩ := hf c
    rw [if_pos c]
    simp
  · rw [if_neg c]
theorem LayoutMakes : lockgatelaw13_LayoutMakes.Pure := by
  intro q0 q1 s n f z S w0 w1 w2 w3 w4 w5 w6
  have hq := wf_i64 w0
  have hs := wf_i64 w2
  obtain ⟨k, hk⟩ : ∃ k, 30 ≤ k := ⟨30, Nat.le_refl _⟩
  refine ⟨k + 1, ?_⟩
  unfold lockgatelaw13_LayoutMakes.f
  rw [awakeO _ (by omega)]
  simp only [Option.bind_some]
  have fin : ∀ T : ByteArray, T.size ≤ 30 → lockgatelaw13_LayoutMakes.j0 (k + 1) T true q0 q1 s n f z = some true := by
    intro T hT
    obtain ⟨a2, a3, hL, e⟩ | ⟨e, he, hn⟩ := newL_cases q0 q1
    · have e1 := new_val q0 q1 hq.1 k (by omega)
      have e2 := rnew_val q0 q1 hq.1 k (by omega)
      rw [e] at e1 e2
      exact makes_gen k T _ _ q0 q1 s n f z q0 q1 a2 a3 0 _ _ _ _ _ _ _ _ _ _ _ _ e1 e2 (bytes_val s n f z hs.1 k (by omega)) (rbytes_val s n f z hs.1 k (by omega)) (read_val T (by omega) k (by omega)) (rread_val T (by omega) k (by omega))
        (bytes_ok hL k (by omega)) (read_bytes hL k (by omega)) (fun _ => ⟨rfl, rfl, rfl, rfl, rfl, rfl⟩)
    · have e1 := new_val q0 q1 hq.1 k (by omega)
      have e2 := rnew_val q0 q1 hq.1 k (by omega)
      rw [hn] at e1 e2
      exact makes_gen k T _ _ q0 q1 s n f z 0 0 0 0 e _ _ _ _ _ _ _ _ _ _ _ _ e1 e2 (bytes_val s n f z hs.1 k (by omega)) (rbytes_val s n f z hs.1 k (by omega)) (read_val T (by omega) k (by omega)) (rread_val T (by omega) k (by omega))
        (bytes_val 0 0 0 0 (by omega) k (by omega)) (read_val (bytesV 0 0 0 0).1 (by have := bytesV_size 0 0 0 0; omega) k (by omega)) (fun h => absurd h he)
  by_cases c : S.size > 30
  · rw [if_pos (by omega), if_pos (by omega), if_pos (by omega)]
    exact fin _ (by rw [ext_size _ _ _ (by omega)]; omega)
  · rw [if_neg (by omega)]
    exact fin _ (by omega)
end Go.Proofs.Ytkfloghdnklakaa.Pure
