/- No two layouts have the same bytes, and what is read is what was written: the pure law of LayoutOne, for every two pairs of numbers. -/
import Derived.Test.YtkfloghdnklakaaQx3
import Derived.Test.YtkfloghdnklakaaLyB
import Derived.Test.YtkfloghdnklakaaSayLayoutOne
namespace Go.Proofs.Ytkfloghdnklakaa.Pure
open Go.RowKit Go.Proofs.Ytkfloghdnklakaa.Q Go.Proofs.Ytkfloghdnklakaa.Ly Go.Proofs.Ytkfloghdnklakaa.By Go.Proofs.YtkfloghdnklakaaW.PrintWords Go.Proofs.YtkfloghdnklakaaW.PrintLast Go.Proofs.YtkfloghdnklakaaW.PrintMore
set_option linter.unusedVariables false
theorem awakeO : ∀ k, 12 ≤ k → lockgatelaw13_awake.f k = some true := fun k hk =>
  at_rounds (fun k => lockgatelaw13_awake.mono k) hk (by decide +kernel)
theorem newL_case (s n : Int) : (∃ f z, IsL s n f z ∧ newL s n = (s, n, f, z, 0)) ∨ (newL s n).2.2.2.2 ≠ 0 := by
  unfold newL
  by_cases c1 : 1 ≤ n ∧ n ≤ 8 ∧ s ≤ 65536
  · rw [if_pos c1]
    by_cases c2 : 2 + 40 * n + 12 ≤ s
    · rw [if_pos c2]
      exact .inl ⟨_, _, ⟨c1.1, c1.2.1, c1.2.2, rfl, c2, rfl⟩, rfl⟩
    · rw [if_neg c2]; exact .inr (by simp)
  · rw [if_neg c1]; exact .inr (by simp)
theorem one_gen (B C : ByteArray) (s n f z t m g y : Int) (k : Nat) (hB : layout_Bytes.f k s n f z = some (B, 0)) (hC : layout_Bytes.f k t m g y = some (C, 0)) (hR : layout_Read.f k B = some (s, n, f, z, 0))
    (inj : B = C → s = t ∧ n = m) (fz : s = t → n = m → f = g ∧ z = y) : lockgatelaw13_LayoutOne.j0 (k + 1) true false s n t m s n f z t m g y = some true := by
  rw [lockgatelaw13_LayoutOne.j0.eq_2, if_neg (by simp), hB, hC]
  simp only [Option.bind_some]
  rw [hR]
  simp only [Option.bind_some, if_true]
  by_cases c : s = t ∧ n = m
  · obtain ⟨rfl, rfl⟩ := c
    obtain ⟨rfl, rfl⟩ := fz rfl rfl
    rw [hB] at hC
    injection hC with hC
    injection hC with hC _
    subst hC
    simp
  · have e1 : (B.toList == C.toList) = false := by
      rw [beq_eq_false_iff_ne]
      intro e
      exact c (inj (Bm.toList_ext.1 e))
    have e2 : (s == t && (n == m)) = false := by
      rw [Bool.eq_false_iff]
      intro e
      rw [Bool.and_eq_true, beq_iff_eq, beq_iff_eq] at e
      exact c e
    have e3 : (s == t && (n == m && (f == g && (z == y)))) = false := by
      rw [← Bool.and_assoc, e2, Bool.false_and]
    rw [e1, e3, e2]
    simp
theorem one_body {s n f z t m g y : Int} (h : IsL s n f z) (h' : IsL t m g y) (k : Nat) (hk : 1 ≤ k) : lockgatelaw13_LayoutOne.j0 (k + 1) true false s n t m s n f z t m g y = some true := by
  have := h.n8; have := h.hf; have := h.n1; have := h.smax; have := h.hs
  have := h'.n8; have := h'.hf; have := h'.n1; have := h'.smax; have := h'.hs
  refine one_gen _ _ s n f z t m g y k (bytes_ok h k hk) (bytes_ok h' k hk) (read_bytes h k hk) (fun e => bytesL_inj (by omega) (by omega) (by omega) (by omega) e) ?_
  rintro rfl rfl
  have e : f = g := by omega
  subst e
  exact ⟨rfl, h.hz.trans h'.hz.symm⟩
theorem LayoutOne : lockgatelaw13_LayoutOne.Pure := by
  intro s n t m w0 w1 w2 w3
  have hs := wf_i64 w0
  have ht := wf_i64 w2
  obtain ⟨k, hk⟩ : ∃ k, 20 ≤ k := ⟨20, Nat.le_refl _⟩
  refine ⟨k + 1, ?_⟩
  unfold lockgatelaw13_LayoutOne.f
  rw [awakeO _ (by omega), new_val s n hs.1 _ (by omega), new_val t m ht.1 _ (by omega)]
  simp only [Option.bind_some]
  obtain ⟨f, z, h, e⟩ | e := newL_case s n
  · rw [e]
    simp only [if_true]
    obtain ⟨g, y, h', e'⟩ | e' := newL_case t m
    · rw [e']
      exact one_body h h' k (by omega)
    · rw [show ((newL t m).2.2.2.2 != 0) = true from by simpa using e', lockgatelaw13_LayoutOne.j0.eq_2, if_pos rfl]
  · rw [if_neg e, lockgatelaw13_LayoutOne.j0.eq_2, if_pos rfl]
end Go.Proofs.Ytkfloghdnklakaa.Pure
