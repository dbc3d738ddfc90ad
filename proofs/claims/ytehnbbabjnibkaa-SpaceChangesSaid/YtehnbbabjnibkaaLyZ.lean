/- Zones, places, maps and room; the reference's functions of chapter 13: the same answers for every layout. -/
import Derived.Test.YtehnbbabjnibkaaQx3
import Derived.Test.YtehnbbabjnibkaaQx4
import Derived.Test.YtehnbbabjnibkaaQx8
import Derived.Test.YtehnbbabjnibkaaQx10
import Derived.Test.YtehnbbabjnibkaaQx11
import Derived.Test.YtehnbbabjnibkaaLyF
import Derived.Test.YtehnbbabjnibkaaBmS
namespace Go.Proofs.Ytehnbbabjnibkaa.Ly
open Go.RowKit Go.Proofs.Ytehnbbabjnibkaa.Q Go.Proofs.YtehnbbabjnibkaaW.PrintWords Go.Proofs.YtehnbbabjnibkaaW.PrintLast Go.Proofs.YtehnbbabjnibkaaW.PrintMore
set_option linter.unusedVariables false
/-- In which zone a sector lies. -/
def zoneOf (f z x : Int) : Int := if x < f then -1 else if x < f + z then 0 else if x < f + 2 * z then 1 else if x < f + 3 * z then 2 else if x < f + 4 * z then 3 else -1
theorem zone_is {f z x : Int} (hz : 3 ≤ z) : (zoneOf f z x = -1 ∧ (x < f ∨ f + 4 * z ≤ x)) ∨ (0 ≤ zoneOf f z x ∧ zoneOf f z x < 4 ∧ f + zoneOf f z x * z ≤ x ∧ x < f + zoneOf f z x * z + z) := by
  unfold zoneOf
  repeat' split
  all_goals omega
/-- A step of a search through the zones tells the zone, or goes on. -/
theorem zone_four {f z x : Int} (hz : 3 ≤ z) (F : Nat → Int → Option Int) (k : Nat) (h : ∀ (j : Nat) (i : Int), 0 ≤ i → i < 4 → F (k + j + 1) i = if f + i * z ≤ x ∧ x < f + i * z + z then some i else F (k + j) (i + 1)) (h4 : F k 4 = some (-1)) :
    F (k + 4) 0 = some (zoneOf f z x) := by
  have s0 := h 3 0 (by omega) (by omega)
  have s1 := h 2 1 (by omega) (by omega)
  have s2 := h 1 2 (by omega) (by omega)
  have s3 := h 0 3 (by omega) (by omega)
  rw [show (0 : Int) + 1 = 1 from rfl] at s0
  rw [show (1 : Int) + 1 = 2 from rfl] at s1
  rw [show (2 : Int) + 1 = 3 from rfl] at s2
  rw [show (3 : Int) + 1 = 4 from rfl, show k + 0 = k from rfl, h4] at s3
  have q0 : F (k + 4) 0 = if f + 0 * z ≤ x ∧ x < f + 0 * z + z then some 0 else F (k + 3) 1 := s0
  have q1 : F (k + 3) 1 = if f + 1 * z ≤ x ∧ x < f + 1 * z + z then some 1 else F (k + 2) 2 := s1
  have q2 : F (k + 2) 2 = if f + 2 * z ≤ x ∧ x < f + 2 * z + z then some 2 else F (k + 1) 3 := s2
  have q3 : F (k + 1) 3 = if f + 3 * z ≤ x ∧ x < f + 3 * z + z then some 3 else some (-1) := s3
  rw [q0, q1, q2, q3]
  unfold zoneOf
  by_cases c0 : x < f
  · rw [if_neg (by omega), if_neg (by omega), if_neg (by omega), if_neg (by omega), if_pos c0]
  by_cases c1 : x < f + z
  · rw [if_pos (by omega), if_neg c0, if_pos c1]
  by_cases c2 : x < f + 2 * z
  · rw [if_neg (by omega), if_pos (by omega), if_neg c0, if_neg c1, if_pos c2]
  by_cases c3 : x < f + 3 * z
  · rw [if_neg (by omega), if_neg (by omega), if_pos (by omega), if_neg c0, if_neg c1, if_neg c2, if_pos c3]
  by_cases c4 : x < f + 4 * z
  · rw [if_neg (by omega), if_neg (by omega), if_neg (by omega), if_pos (by omega), if_neg c0, if_neg c1, if_neg c2, if_neg c3, if_pos c4]
  · rw [if_neg (by omega), if_neg (by omega), if_neg (by omega), if_neg (by omega), if_neg c0, if_neg c1, if_neg c2, if_neg c3, if_neg c4]
theorem zone_ok {s n f z : Int} (h : IsL s n f z) (x : Int) : ∀ k, 8 ≤ k → layout_Zone.f k s n f z x = some (zoneOf f z x) := by
  intro k hk
  obtain ⟨a, b, c, d⟩ := h.z3
  have := h.n8; have := h.hf; have := h.n1; have := h.smax
  unfold layout_Zone.f
  rw [is_ok h _ (by omega)]
  simp only [Option.bind_some, if_true]
  obtain ⟨k, rfl⟩ : ∃ m, k = m + 4 := ⟨k - 4, by omega⟩
  refine zone_four a (fun k i => layout_Zone.l0 k x i s n f z) k (fun j i h0 h3 => ?_) ?_
  · have e := small_mul h i h0 h3
    show layout_Zone.l0 (k + j + 1) x i s n f z = _
    rw [layout_Zone.l0.eq_2, if_pos h3, begin_ok h i h0 h3 _ (by omega)]
    simp only [Option.bind_some]
    rw [w64 (x := f + i * z + z) (by omega) (by omega), w64 (x := i + 1) (by omega) (by omega)]
    by_cases c1 : x ≥ f + i * z
    · rw [if_pos c1]
      by_cases c2 : x < f + i * z + z
      · rw [if_pos c2, if_pos ⟨c1, c2⟩]
      · rw [if_neg c2, if_neg (by omega)]
    · rw [if_neg c1, if_neg (by omega)]
  · obtain ⟨k, rfl⟩ : ∃ m, k = m + 1 := ⟨k - 1, by omega⟩
    show layout_Zone.l0 (k + 1) x 4 s n f z = _
    rw [layout_Zone.l0.eq_2, if_neg (by omega)]
theorem zone_val (s n f z : Int) (hs : -9223372036854775808 ≤ s) (x : Int) : ∀ k, 8 ≤ k → layout_Zone.f k s n f z x = some (if IsL s n f z then zoneOf f z x else -1) := by
  intro k hk
  by_cases h : IsL s n f z
  · rw [if_pos h, zone_ok h x k hk]
  · rw [if_neg h]
    unfold layout_Zone.f
    rw [is_val s n f z hs k (by omega), decide_eq_false h]
    simp
/-- The place of a sector in its zone. -/
def placeOf (f z x : Int) : Int := if zoneOf f z x < 0 then -1 else x - (f + zoneOf f z x * z)
theorem place_fin {s n f z : Int} (h : IsL s n f z) (x : Int) (hn : ¬ zoneOf f z x < 0) : wrap64 (x - (f + zoneOf f z x * z)) = placeOf f z x := by
  obtain ⟨a, b, c, d⟩ := h.z3
  unfold placeOf
  rw [if_neg hn]
  obtain ⟨h1, h2⟩ | ⟨h1, h2, h3, h4⟩ := zone_is (f := f) (x := x) a
  · omega
  · exact w64 (by omega) (by omega)
theorem place_val (s n f z : Int) (hs : -9223372036854775808 ≤ s) (x : Int) : ∀ k, 8 ≤ k → layout_Place.f k s n f z x = some (if IsL s n f z then placeOf f z x else -1) := by
  intro k hk
  unfold layout_Place.f
  rw [zone_val s n f z hs x k hk]
  simp only [Option.bind_some]
  by_cases h : IsL s n f z
  · rw [if_pos h, if_pos h]
    obtain ⟨a, b, c, d⟩ := h.z3
    by_cases q : zoneOf f z x < 0
    · rw [if_pos q]; unfold placeOf; rw [if_pos q]
    · obtain ⟨h1, h2⟩ | ⟨h1, h2, h3, h4⟩ := zone_is (f := f) (x := x) a
      · omega
      · rw [if_neg q, begin_ok h _ h1 h2 k (by omega)]
        simp only [Option.bind_some]
        rw [place_fin h x q]
  · rw [if_neg h, if_neg h, if_pos (by omega)]
/-- The map of a new zone. -/
def mapOf (z : Int) : ByteArray := Bm.setI (Bm.setI (Bm.zeros (Bm.need z)) 0 true) 1 true
theorem map_size (z : Int) : (Bm.setI (Bm.zeros (Bm.need z)) 0 true).size ≤ 500 := by
  rw [Bm.setI_size, Bm.zeros_size]; exact Bm.need_le z
theorem room_val (s n f z : Int) (hs : -9223372036854775808 ≤ s) : ∀ k, 1 ≤ k → layout_Room.f k s n f z = some (if IsL s n f z then 4 * (z - 2) else 0) := by
  intro k hk
  unfold layout_Room.f
  rw [is_val s n f z hs k hk]
  simp only [Option.bind_some]
  by_cases h : IsL s n f z
  · obtain ⟨a, b, c, d⟩ := h.z3
    rw [decide_eq_true h, if_pos rfl, if_pos h, w64 (x := z - 2) (by omega) (by omega), w64 (by omega) (by omega)]
  · rw [decide_eq_false h, if_neg (by simp), if_neg h]

/-! ### the reference -/
theorem rnew_val (s n : Int) (hs : -9223372036854775808 ≤ s) : ∀ k, 1 ≤ k → lockgateref13_New.f k s n = some (newL s n) := by
  intro k hk
  obtain ⟨k, rfl⟩ : ∃ m, k = m + 1 := ⟨k - 1, by omega⟩
  unfold lockgateref13_New.f newL
  by_cases h1 : n < 1
  · rw [if_pos h1, if_neg (by omega), lockgateref13_New.j0.eq_2, if_pos rfl]
  by_cases h2 : n > 8
  · rw [if_neg h1, if_pos h2, if_neg (by omega), lockgateref13_New.j0.eq_2, if_pos rfl]
  rw [if_neg h1, if_neg h2, lockgateref13_New.j0.eq_2]
  by_cases h3 : s > 65536
  · rw [decide_eq_true h3, if_pos rfl, if_neg (by omega)]
  rw [decide_eq_false h3, if_neg (by simp), if_pos (show 1 ≤ n ∧ n ≤ 8 ∧ s ≤ 65536 by omega)]
  have e1 : wrap64 (40 * n) = 40 * n := by rw [w64] <;> omega
  have e2 : wrap64 (2 + 40 * n) = 2 + 40 * n := w64 (by omega) (by omega)
  have e3 : wrap64 (2 + 40 * n + 12) = 2 + 40 * n + 12 := w64 (by omega) (by omega)
  rw [e1, e2, e3]
  by_cases h4 : s < 2 + 40 * n + 12
  · rw [if_pos h4, if_neg (by omega)]
  · rw [if_neg h4, if_pos (show 2 + 40 * n + 12 ≤ s by omega)]
    have e4 : wrap64 (s - (2 + 40 * n)) = s - (2 + 40 * n) := w64 (by omega) (by omega)
    have e5 : Int.tdiv (s - (2 + 40 * n)) 4 = (s - (2 + 40 * n)) / 4 := Int.tdiv_eq_ediv_of_nonneg (by omega)
    have e6 : wrap64 ((s - (2 + 40 * n)) / 4) = (s - (2 + 40 * n)) / 4 := w64 (by omega) (by omega)
    rw [e4, e5, e6]
    by_cases h5 : (s - (2 + 40 * n)) / 4 > 4000
    · rw [if_pos h5]; unfold mn; rw [if_pos (by omega)]
    · rw [if_neg h5]; unfold mn; rw [if_neg (by omega)]
theorem rIs_val (s n f z : Int) (hs : -9223372036854775808 ≤ s) : ∀ k, 1 ≤ k → lockgateref13_Is.f k s n f z = some (decide (IsL s n f z)) := by
  intro k hk
  have h1 := is_val s n f z hs k hk
  unfold layout_is.f at h1
  rw [new_val s n hs k hk] at h1
  simp only [Option.bind_some] at h1
  unfold lockgateref13_Is.f
  rw [rnew_val s n hs k hk]
  simp only [Option.bind_some]
  rw [← h1]
  generalize newL s n = t
  obtain ⟨a, b, c, d, e⟩ := t
  simp only []
  rw [show (a == s) = (s == a) from Bool.beq_comm, show (b == n) = (n == b) from Bool.beq_comm, show (c == f) = (f == c) from Bool.beq_comm, show (d == z) = (z == d) from Bool.beq_comm]
theorem rbegin_val (s n f z : Int) (hs : -9223372036854775808 ≤ s) (i : Int) : ∀ k, 1 ≤ k → lockgateref13_Begin.f k s n f z i = some (if IsL s n f z ∧ 0 ≤ i ∧ i < 4 then f + i * z else -1) := by
  intro k hk
  unfold lockgateref13_Begin.f
  rw [rIs_val s n f z hs k hk]
  simp only [Option.bind_some]
  by_cases h : IsL s n f z
  · rw [decide_eq_true h, if_pos rfl]
    by_cases c : i < 0
    · rw [if_pos c, if_neg (by omega)]
    · rw [if_neg c]
      by_cases c2 : i > 3
      · rw [if_pos c2, if_neg (by omega)]
      · have e := small_mul h i (by omega) (by omega)
        have := h.n8; have := h.hf; have := h.n1
        rw [if_neg c2, if_pos ⟨h, by omega, by omega⟩, w64 (x := i * z) (by omega) (by omega), w64 (by omega) (by omega)]
  · rw [decide_eq_false h, if_neg (by simp), if_neg (fun g => h g.1)]
theorem rzone_val (s n f z : Int) (hs : -9223372036854775808 ≤ s) (x : Int) : ∀ k, 8 ≤ k → lockgateref13_Zone.f k s n f z x = some (if IsL s n f z then zoneOf f z x else -1) := by
  intro k hk
  unfold lockgateref13_Zone.f
  obtain ⟨k, rfl⟩ : ∃ m, k = m + 4 := ⟨k - 4, by omega⟩
  by_cases h : IsL s n f z
  · rw [if_pos h]
    obtain ⟨a, b, c, d⟩ := h.z3
    have := h.n8; have := h.hf; have := h.n1; have := h.smax
    refine zone_four a (fun k i => lockgateref13_Zone.l0 k x i s n f z) k (fun j i h0 h3 => ?_) ?_
    · have e := small_mul h i h0 h3
      show lockgateref13_Zone.l0 (k + j + 1) x i s n f z = _
      rw [lockgateref13_Zone.l0.eq_2, if_pos h3, rbegin_val s n f z hs i _ (by omega), if_pos ⟨h, h0, h3⟩]
      simp only [Option.bind_some]
      rw [if_pos (by omega), w64 (x := f + i * z + z) (by omega) (by omega), w64 (x := i + 1) (by omega) (by omega)]
      by_cases c1 : x ≥ f + i * z
      · rw [if_pos c1]
        by_cases c2 : x < f + i * z + z
        · rw [if_pos c2, if_pos ⟨c1, c2⟩]
        · rw [if_neg c2, if_neg (by omega)]
      · rw [if_neg c1, if_neg (by omega)]
    · obtain ⟨k, rfl⟩ : ∃ m, k = m + 1 := ⟨k - 1, by omega⟩
      show lockgateref13_Zone.l0 (k + 1) x 4 s n f z = _
      rw [lockgateref13_Zone.l0.eq_2, if_neg (by omega)]
  · rw [if_neg h]
    have st : ∀ (j : Nat) (i : Int), 0 ≤ i → i < 4 → lockgateref13_Zone.l0 (k + j + 1) x i s n f z = lockgateref13_Zone.l0 (k + j) x (i + 1) s n f z := by
      intro j i h0 h3
      rw [lockgateref13_Zone.l0.eq_2, if_pos h3, rbegin_val s n f z hs i _ (by omega), if_neg (fun g => h g.1)]
      simp only [Option.bind_some]
      rw [if_neg (by omega), w64 (x := i + 1) (by omega) (by omega)]
    have s0 := st 3 0 (by omega) (by omega)
    have s1 := st 2 1 (by omega) (by omega)
    have s2 := st 1 2 (by omega) (by omega)
    have s3 := st 0 3 (by omega) (by omega)
    have s4 : lockgateref13_Zone.l0 (k + 0) x (3 + 1) s n f z = some (-1) := by
      obtain ⟨k, rfl⟩ : ∃ m, k = m + 1 := ⟨k - 1, by omega⟩
      show lockgateref13_Zone.l0 (k + 1) x (3 + 1) s n f z = _
      rw [lockgateref13_Zone.l0.eq_2, if_neg (by omega)]
    exact s0.trans (s1.trans (s2.trans (s3.trans s4)))
theorem rplace_val (s n f z : Int) (hs : -9223372036854775808 ≤ s) (x : Int) : ∀ k, 8 ≤ k → lockgateref13_Place.f k s n f z x = some (if IsL s n f z then placeOf f z x else -1) := by
  intro k hk
  unfold lockgateref13_Place.f
  rw [rzone_val s n f z hs x k hk]
  simp only [Option.bind_some]
  by_cases h : IsL s n f z
  · rw [if_pos h, if_pos h]
    obtain ⟨a, b, c, d⟩ := h.z3
    by_cases q : zoneOf f z x < 0
    · rw [if_pos q]; unfold placeOf; rw [if_pos q]
    · obtain ⟨h1, h2⟩ | ⟨h1, h2, h3, h4⟩ := zone_is (f := f) (x := x) a
      · omega
      · rw [if_neg q, rbegin_val s n f z hs _ k (by omega), if_pos ⟨h, h1, h2⟩]
        simp only [Option.bind_some]
        rw [place_fin h x q]
  · rw [if_neg h, if_neg h, if_pos (by omega)]
theorem rmap_val (s n f z : Int) (hs : -9223372036854775808 ≤ s) : ∀ k, 700 ≤ k → lockgateref13_Map.f k s n f z = some (if IsL s n f z then mapOf z else ⟨#[]⟩) := by
  intro k hk
  unfold lockgateref13_Map.f
  rw [rIs_val s n f z hs k (by omega)]
  simp only [Option.bind_some]
  by_cases h : IsL s n f z
  · have h1 := Bm.need_le z
    have h2 := map_size z
    rw [decide_eq_true h, if_pos rfl, if_pos h, Bm.rnew_ok z k (by omega)]
    simp only [Option.bind_some]
    rw [Bm.rset_ok _ (by rw [Bm.zeros_size]; omega) 0 (by omega) (by omega) true k (by omega)]
    simp only [Option.bind_some]
    rw [Bm.rset_ok _ (by omega) 1 (by omega) (by omega) true k (by omega)]
    rfl
  · rw [decide_eq_false h, if_neg (by simp), if_neg h]
end Go.Proofs.Ytehnbbabjnibkaa.Ly
