/- What the functions of package layout tell, for every layout, right or not. -/
import Derived.Test.YtehnbbabjnibkaaQx2
import Derived.Test.YtehnbbabjnibkaaQx6
import Derived.Test.YtehnbbabjnibkaaWMore
namespace Go.Proofs.Ytehnbbabjnibkaa.Ly
open Go.RowKit Go.Proofs.Ytehnbbabjnibkaa.Q Go.Proofs.YtehnbbabjnibkaaW.PrintWords Go.Proofs.YtehnbbabjnibkaaW.PrintLast Go.Proofs.YtehnbbabjnibkaaW.PrintMore
set_option linter.unusedVariables false
theorem w64 {x : Int} (h : -9223372036854775808 ≤ x) (h' : x ≤ 9223372036854775807) : wrap64 x = x := by
  unfold wrap64; omega
/-- A layout that New tells. -/
structure IsL (s n f z : Int) : Prop where
  n1 : 1 ≤ n
  n8 : n ≤ 8
  smax : s ≤ 65536
  hf : f = 2 + 40 * n
  hs : f + 12 ≤ s
  hz : z = mn ((s - f) / 4) 4000
theorem IsL.z3 {s n f z : Int} (h : IsL s n f z) : 3 ≤ z ∧ z ≤ 4000 ∧ f + 4 * z ≤ s ∧ z ≤ 16384 := by
  obtain ⟨h1, h2, h3, h4, h5, h6⟩ := h
  unfold mn at h6
  split at h6 <;> omega
instance (s n f z : Int) : Decidable (IsL s n f z) := decidable_of_iff (1 ≤ n ∧ n ≤ 8 ∧ s ≤ 65536 ∧ f = 2 + 40 * n ∧ f + 12 ≤ s ∧ z = mn ((s - f) / 4) 4000)
  ⟨fun ⟨a, b, c, d, e, g⟩ => ⟨a, b, c, d, e, g⟩, fun ⟨a, b, c, d, e, g⟩ => ⟨a, b, c, d, e, g⟩⟩
/-- What New tells. -/
def newL (s n : Int) : Int × Int × Int × Int × Int :=
  if 1 ≤ n ∧ n ≤ 8 ∧ s ≤ 65536 then (if 2 + 40 * n + 12 ≤ s then (s, n, 2 + 40 * n, mn ((s - (2 + 40 * n)) / 4) 4000, 0) else (0, 0, 0, 0, 11)) else (0, 0, 0, 0, 1)
theorem newL_is {s n f z e : Int} (h : newL s n = (s, n, f, z, e)) (he : e = 0) : IsL s n f z ∨ (s = 0 ∧ n = 0) := by
  subst he
  unfold newL at h
  split at h
  · split at h
    · rename_i h1 h2
      injection h with _ h; injection h with _ h; injection h with h3 h; injection h with h4 _
      exact .inl ⟨h1.1, h1.2.1, h1.2.2, h3.symm, by omega, by rw [← h4, ← h3]⟩
    · injection h with _ h; injection h with _ h; injection h with _ h; injection h with _ h; cases h
  · injection h with _ h; injection h with _ h; injection h with _ h; injection h with _ h; cases h
theorem new_val (s n : Int) (hs : -9223372036854775808 ≤ s) : ∀ k, 1 ≤ k → layout_New.f k s n = some (newL s n) := by
  intro k hk
  obtain ⟨k, rfl⟩ : ∃ m, k = m + 1 := ⟨k - 1, by omega⟩
  unfold layout_New.f newL
  by_cases h1 : n < 1
  · rw [if_pos h1, if_neg (by omega), layout_New.j0.eq_2, if_pos rfl]
  by_cases h2 : n > 8
  · rw [if_neg h1, if_pos h2, if_neg (by omega), layout_New.j0.eq_2, if_pos rfl]
  rw [if_neg h1, if_neg h2, layout_New.j0.eq_2]
  by_cases h3 : s > 65536
  · rw [decide_eq_true h3, if_pos rfl, if_neg (by omega)]
  rw [decide_eq_false h3, if_neg (by simp), if_pos (show 1 ≤ n ∧ n ≤ 8 ∧ s ≤ 65536 by omega)]
  have e1 : wrap64 (n * 40) = 40 * n := by rw [w64] <;> omega
  have e2 : wrap64 (2 + 40 * n) = 2 + 40 * n := w64 (by omega) (by omega)
  have e3 : wrap64 (2 + 40 * n + 12) = 2 + 40 * n + 12 := w64 (by omega) (by omega)
  rw [e1, e2, e3]
  by_cases h4 : s < 2 + 40 * n + 12
  · rw [if_pos h4, if_neg (by omega)]
  · rw [if_neg h4, if_pos (by omega)]
    have e4 : wrap64 (s - (2 + 40 * n)) = s - (2 + 40 * n) := w64 (by omega) (by omega)
    have e5 : Int.tdiv (s - (2 + 40 * n)) 4 = (s - (2 + 40 * n)) / 4 := Int.tdiv_eq_ediv_of_nonneg (by omega)
    have e6 : wrap64 ((s - (2 + 40 * n)) / 4) = (s - (2 + 40 * n)) / 4 := w64 (by omega) (by omega)
    rw [e4, e5, e6]
theorem newL_ok {s n f z : Int} (h : IsL s n f z) : newL s n = (s, n, f, z, 0) := by
  obtain ⟨h1, h2, h3, rfl, h5, rfl⟩ := h
  unfold newL
  rw [if_pos ⟨h1, h2, h3⟩, if_pos h5]
theorem is_val (s n f z : Int) (hs : -9223372036854775808 ≤ s) : ∀ k, 1 ≤ k → layout_is.f k s n f z = some (decide (IsL s n f z)) := by
  intro k hk
  unfold layout_is.f
  rw [new_val s n hs k hk]
  simp only [Option.bind_some]
  by_cases h : IsL s n f z
  · rw [newL_ok h, decide_eq_true h]; simp
  · rw [decide_eq_false h]
    unfold newL
    by_cases c1 : 1 ≤ n ∧ n ≤ 8 ∧ s ≤ 65536
    · rw [if_pos c1]
      by_cases c2 : 2 + 40 * n + 12 ≤ s
      · rw [if_pos c2]
        simp only [if_true]
        congr 1
        by_cases c3 : f = 2 + 40 * n
        · by_cases c4 : z = mn ((s - (2 + 40 * n)) / 4) 4000
          · exact absurd ⟨c1.1, c1.2.1, c1.2.2, c3, by omega, by rw [c3]; exact c4⟩ h
          · simp; intro _ h4; exact c4 h4.symm
        · simp; intro h3; exact absurd h3.symm c3
      · rw [if_neg c2]; simp
    · rw [if_neg c1]; simp
theorem is_ok {s n f z : Int} (h : IsL s n f z) : ∀ k, 1 ≤ k → layout_is.f k s n f z = some true := by
  intro k hk
  rw [is_val s n f z (by have := h.hs; have := h.hf; have := h.n1; omega) k hk, decide_eq_true h]
theorem small_mul {s n f z : Int} (h : IsL s n f z) (i : Int) (h0 : 0 ≤ i) (hi : i < 4) : 0 ≤ i * z ∧ i * z + z ≤ 4 * z ∧ i * z ≤ 16000 := by
  obtain ⟨a, b, c, d⟩ := h.z3
  obtain rfl | rfl | rfl | rfl : i = 0 ∨ i = 1 ∨ i = 2 ∨ i = 3 := by omega
  all_goals omega
theorem begin_val (s n f z : Int) (hs : -9223372036854775808 ≤ s) (i : Int) : ∀ k, 1 ≤ k → layout_Begin.f k s n f z i = some (if IsL s n f z ∧ 0 ≤ i ∧ i < 4 then f + i * z else -1) := by
  intro k hk
  unfold layout_Begin.f
  rw [is_val s n f z hs k hk]
  obtain ⟨k, rfl⟩ : ∃ m, k = m + 1 := ⟨k - 1, by omega⟩
  simp only [Option.bind_some]
  by_cases h : IsL s n f z
  · rw [decide_eq_true h, if_pos rfl]
    by_cases c : i < 0
    · rw [if_pos c, if_neg (by omega)]
    · rw [if_neg c]
      by_cases c2 : i ≥ 4
      · rw [if_pos c2, if_neg (by omega)]
      · have e := small_mul h i (by omega) (by omega)
        have := h.n8; have := h.hf; have := h.n1
        rw [if_neg c2, if_pos ⟨h, by omega, by omega⟩, w64 (x := i * z) (by omega) (by omega), w64 (by omega) (by omega)]
  · rw [decide_eq_false h, if_neg (by simp), if_neg (fun g => h g.1)]
theorem begin_ok {s n f z : Int} (h : IsL s n f z) (i : Int) (h0 : 0 ≤ i) (hi : i < 4) : ∀ k, 1 ≤ k → layout_Begin.f k s n f z i = some (f + i * z) := by
  intro k hk
  rw [begin_val s n f z (by have := h.hs; have := h.hf; have := h.n1; omega) i k hk, if_pos ⟨h, h0, hi⟩]
theorem tmod_bound (a b : Int) (hb : 0 < b) : -b < Int.tmod a b ∧ Int.tmod a b < b := ⟨Int.lt_tmod_of_pos a hb, Int.tmod_lt_of_pos a hb⟩
theorem wf_i64 {x : Int} (h : (Lit.int .i64 x).wf = true) : -9223372036854775808 ≤ x ∧ x ≤ 9223372036854775807 := by
  have h' : (decide (IntKind.i64.min ≤ x) && decide (x ≤ IntKind.i64.max)) = true := h
  have m1 : IntKind.i64.min = -9223372036854775808 := by decide +kernel
  have m2 : IntKind.i64.max = 9223372036854775807 := by decide +kernel
  rw [m1, m2] at h'
  simp at h'
  omega
end Go.Proofs.Ytehnbbabjnibkaa.Ly
