/- Each sector of a layout of at most 1000 sectors belongs to at most one thing, and the places in a zone are its own: the pure law of LayoutApart, for every three numbers. -/
import Derived.Test.YtkfloghdnklakaaPLayoutApartx3
namespace Go.Proofs.Ytkfloghdnklakaa.Pure
set_option linter.unusedVariables false
open Go.RowKit Go.Proofs.Ytkfloghdnklakaa.PLayoutApart Go.Proofs.YtkfloghdnklakaaW.PrintWords Go.Proofs.YtkfloghdnklakaaW.PrintLast

theorem w64 {x : Int} (h : -9223372036854775808 ≤ x) (h' : x ≤ 9223372036854775807) : wrap64 x = x := by
  unfold wrap64; omega

/-- A layout that New tells. -/
structure IsL (s n f z : Int) : Prop where
  n1 : 1 ≤ n
  n8 : n ≤ 8
  smax : s ≤ 65536
  hf : f = 2 + 40 * n
  hs : f + 12 ≤ s
  hz : z = mn ((s - f) / 4) 4000

theorem IsL.z3 {s n f z : Int} (h : IsL s n f z) : 3 ≤ z ∧ z ≤ 4000 ∧ f + 4 * z ≤ s ∧ z ≤ 16384 := by
  obtain ⟨h1, h2, h3, h4, h5, h6⟩ := h
  unfold mn at h6
  split at h6 <;> omega

theorem new_ok (s n : Int) (h1 : 1 ≤ n) (h8 : n ≤ 8) (hm : s ≤ 65536) (h : 2 + 40 * n + 12 ≤ s) :
    ∀ k, 1 ≤ k → layout_New.f k s n = some (s, n, 2 + 40 * n, mn ((s - (2 + 40 * n)) / 4) 4000, 0) := by
  intro k hk
  obtain ⟨k, rfl⟩ : ∃ m, k = m + 1 := ⟨k - 1, by omega⟩
  unfold layout_New.f
  rw [if_neg (by omega), if_neg (by omega), decide_eq_false (by omega)]
  simp only [layout_New.j0]
  have e1 : wrap64 (n * 40) = 40 * n := by rw [w64] <;> omega
  have e2 : wrap64 (2 + 40 * n) = 2 + 40 * n := w64 (by omega) (by omega)
  have e3 : wrap64 (2 + 40 * n + 12) = 2 + 40 * n + 12 := w64 (by omega) (by omega)
  have e4 : wrap64 (s - (2 + 40 * n)) = s - (2 + 40 * n) := w64 (by omega) (by omega)
  have e5 : Int.tdiv (s - (2 + 40 * n)) 4 = (s - (2 + 40 * n)) / 4 := Int.tdiv_eq_ediv_of_nonneg (by omega)
  have e6 : wrap64 ((s - (2 + 40 * n)) / 4) = (s - (2 + 40 * n)) / 4 := w64 (by omega) (by omega)
  rw [e1, e2, e3, e4, e5, e6]
  rw [if_neg (by simp), if_neg (by omega)]

theorem new_bad (s n : Int) (hs : -9223372036854775808 ≤ s) (h : ¬ (1 ≤ n ∧ n ≤ 8 ∧ s ≤ 65536 ∧ 2 + 40 * n + 12 ≤ s)) :
    ∃ e, e ≠ 0 ∧ ∀ k, 1 ≤ k → layout_New.f k s n = some (0, 0, 0, 0, e) := by
  by_cases h1 : n < 1
  · refine ⟨1, by decide, fun k hk => ?_⟩
    obtain ⟨k, rfl⟩ : ∃ m, k = m + 1 := ⟨k - 1, by omega⟩
    unfold layout_New.f
    rw [if_pos h1]; simp [layout_New.j0]
  by_cases h2 : n > 8
  · refine ⟨1, by decide, fun k hk => ?_⟩
    obtain ⟨k, rfl⟩ : ∃ m, k = m + 1 := ⟨k - 1, by omega⟩
    unfold layout_New.f
    rw [if_neg h1, if_pos h2]; simp [layout_New.j0]
  by_cases h3 : s > 65536
  · refine ⟨1, by decide, fun k hk => ?_⟩
    obtain ⟨k, rfl⟩ : ∃ m, k = m + 1 := ⟨k - 1, by omega⟩
    unfold layout_New.f
    rw [if_neg h1, if_neg h2, decide_eq_true h3]; simp [layout_New.j0]
  · refine ⟨11, by decide, fun k hk => ?_⟩
    obtain ⟨k, rfl⟩ : ∃ m, k = m + 1 := ⟨k - 1, by omega⟩
    unfold layout_New.f
    rw [if_neg h1, if_neg h2, decide_eq_false h3]
    simp only [layout_New.j0]
    have e1 : wrap64 (n * 40) = 40 * n := by rw [w64] <;> omega
    have e2 : wrap64 (2 + 40 * n) = 2 + 40 * n := w64 (by omega) (by omega)
    have e3 : wrap64 (2 + 40 * n + 12) = 2 + 40 * n + 12 := w64 (by omega) (by omega)
    rw [e1, e2, e3, if_neg (by simp), if_pos (by omega)]

theorem is_ok {s n f z : Int} (h : IsL s n f z) : ∀ k, 1 ≤ k → layout_is.f k s n f z = some true := by
  intro k hk
  obtain ⟨h1, h2, h3, rfl, h5, rfl⟩ := h
  unfold layout_is.f
  rw [new_ok s n h1 h2 h3 h5 k hk]
  simp

theorem journal_ok {s n f z : Int} (h : IsL s n f z) (i : Int) (h0 : 0 ≤ i) (hi : i < n) : ∀ k, 1 ≤ k → layout_Journal.f k s n f z i = some (2 + 40 * i) := by
  intro k hk
  have := h.n8
  unfold layout_Journal.f
  rw [is_ok h k hk]
  simp only [Option.bind_some, if_true]
  rw [if_neg (by omega), if_neg (by omega), w64 (x := i * 40) (by omega) (by omega), w64 (by omega) (by omega)]
  rw [Int.mul_comm]

theorem begin_ok {s n f z : Int} (h : IsL s n f z) (i : Int) (h0 : 0 ≤ i) (hi : i < 4) : ∀ k, 1 ≤ k → layout_Begin.f k s n f z i = some (f + i * z) := by
  intro k hk
  obtain ⟨a, b, c, d⟩ := h.z3
  have := h.n8; have := h.hf; have := h.n1; have := h.smax
  have e : 0 ≤ i * z ∧ i * z ≤ 4 * 4000 := by
    obtain rfl | rfl | rfl | rfl : i = 0 ∨ i = 1 ∨ i = 2 ∨ i = 3 := by omega
    all_goals omega
  unfold layout_Begin.f
  rw [is_ok h k hk]
  simp only [Option.bind_some, if_true]
  rw [if_neg (by omega), if_neg (by omega), w64 (x := i * z) (by omega) (by omega), w64 (by omega) (by omega)]

/-- In which zone a sector lies. -/
def zoneOf (f z x : Int) : Int := if x < f then -1 else if x < f + z then 0 else if x < f + 2 * z then 1 else if x < f + 3 * z then 2 else if x < f + 4 * z then 3 else -1

theorem zone_step {s n f z : Int} (h : IsL s n f z) (x : Int) (i : Int) (h0 : 0 ≤ i) (h3 : i < 4) (k : Nat) (hk : 1 ≤ k) :
    layout_Zone.l0 (k + 1) x i s n f z = if f + i * z ≤ x ∧ x < f + i * z + z then some i else layout_Zone.l0 k x (i + 1) s n f z := by
  obtain ⟨a, b, c, d⟩ := h.z3
  have := h.n8; have := h.hf; have := h.n1; have := h.smax
  have e : 0 ≤ i * z ∧ i * z ≤ 4 * 4000 := by
    obtain rfl | rfl | rfl | rfl : i = 0 ∨ i = 1 ∨ i = 2 ∨ i = 3 := by omega
    all_goals omega
  simp only [layout_Zone.l0]
  rw [if_pos h3, begin_ok h i h0 h3 k hk]
  simp only [Option.bind_some]
  rw [w64 (x := f + i * z + z) (by omega) (by omega), w64 (x := i + 1) (by omega) (by omega)]
  by_cases c1 : x ≥ f + i * z
  · rw [if_pos c1]
    by_cases c2 : x < f + i * z + z
    · rw [if_pos c2, if_pos ⟨c1, c2⟩]
    · rw [if_neg c2, if_neg (by omega)]
  · rw [if_neg c1, if_neg (by omega)]

theorem zone_ok {s n f z : Int} (h : IsL s n f z) (x : Int) : ∀ k, 8 ≤ k → layout_Zone.f k s n f z x = some (zoneOf f z x) := by
  intro k hk
  obtain ⟨a, b, c, d⟩ := h.z3
  have := h.n8; have := h.hf; have := h.n1; have := h.smax
  obtain ⟨k, rfl⟩ : ∃ m, k = m + 6 := ⟨k - 6, by omega⟩
  unfold layout_Zone.f
  rw [is_ok h _ (by omega)]
  simp only [Option.bind_some, if_true]
  have s0 := zone_step h x 0 (by omega) (by omega) (k + 5) (by omega)
  have s1 := zone_step h x 1 (by omega) (by omega) (k + 4) (by omega)
  have s2 := zone_step h x 2 (by omega) (by omega) (k + 3) (by omega)
  have s3 := zone_step h x 3 (by omega) (by omega) (k + 2) (by omega)
  have s4 : layout_Zone.l0 (k + 1 + 1) x 4 s n f z = some (-1) := by simp only [layout_Zone.l0]; rw [if_neg (by omega)]
  rw [s0]
  unfold zoneOf
  by_cases c0 : x < f
  · rw [if_neg (by omega)]; simp only [Int.zero_add]; rw [s1, if_neg (by omega)]; simp only [Int.reduceAdd]; rw [s2, if_neg (by omega)]; simp only [Int.reduceAdd]; rw [s3, if_neg (by omega)]; simp only [Int.reduceAdd]; rw [s4, if_pos c0]
  rw [if_neg (c := x < f) c0]
  by_cases c1 : x < f + z
  · rw [if_pos (by omega), if_pos c1]
  rw [if_neg (by omega), if_neg (c := x < f + z) c1]; simp only [Int.zero_add]; rw [s1]
  by_cases c2 : x < f + 2 * z
  · rw [if_pos (by omega), if_pos c2]
  rw [if_neg (by omega), if_neg (c := x < f + 2 * z) c2]; simp only [Int.reduceAdd]; rw [s2]
  by_cases c3 : x < f + 3 * z
  · rw [if_pos (by omega), if_pos c3]
  rw [if_neg (by omega), if_neg (c := x < f + 3 * z) c3]; simp only [Int.reduceAdd]; rw [s3]
  by_cases c4 : x < f + 4 * z
  · rw [if_pos (by omega), if_pos c4]
  rw [if_neg (by omega), if_neg (c := x < f + 4 * z) c4]; simp only [Int.reduceAdd]; rw [s4]

theorem zone_is {f z x : Int} (hz : 3 ≤ z) : (zoneOf f z x = -1 ∧ (x < f ∨ f + 4 * z ≤ x)) ∨ (0 ≤ zoneOf f z x ∧ zoneOf f z x < 4 ∧ f + zoneOf f z x * z ≤ x ∧ x < f + zoneOf f z x * z + z) := by
  unfold zoneOf
  repeat' split
  all_goals omega

theorem place_ok {s n f z : Int} (h : IsL s n f z) (x : Int) (hx0 : 0 ≤ x) (hx : x ≤ 65536) : ∀ k, 8 ≤ k →
    layout_Place.f k s n f z x = some (if zoneOf f z x < 0 then -1 else x - (f + zoneOf f z x * z)) := by
  intro k hk
  obtain ⟨a, b, c, d⟩ := h.z3
  unfold layout_Place.f
  rw [zone_ok h x k hk]
  simp only [Option.bind_some]
  obtain ⟨h1, h2⟩ | ⟨h1, h2, h3, h4⟩ := zone_is (f := f) (x := x) a
  · rw [if_pos (by omega), if_pos (by omega)]
  · rw [if_neg (by omega), if_neg (by omega), begin_ok h _ h1 h2 k (by omega)]
    simp only [Option.bind_some]
    rw [w64 (by omega) (by omega)]

theorem root_ok {s n f z : Int} (h : IsL s n f z) (i : Int) (h0 : 0 ≤ i) (hi : i < 4) : ∀ k, 1 ≤ k → layout_Root.f k s n f z i = some (f + i * z + 1) := by
  intro k hk
  obtain ⟨a, b, c, d⟩ := h.z3
  have := h.n8; have := h.hf; have := h.n1; have := h.smax
  have e : 0 ≤ i * z ∧ i * z ≤ 4 * 4000 := by
    obtain rfl | rfl | rfl | rfl : i = 0 ∨ i = 1 ∨ i = 2 ∨ i = 3 := by omega
    all_goals omega
  unfold layout_Root.f
  rw [begin_ok h i h0 hi k hk]
  simp only [Option.bind_some]
  rw [if_neg (by omega), w64 (by omega) (by omega)]

theorem awake_ok : ∀ k, 12 ≤ k → lockgatelaw13_awake.f k = some true := fun k hk =>
  at_rounds (fun k => lockgatelaw13_awake.mono k) hk (by decide +kernel)

/-- The loop over the journals counts the one in which the sector lies. -/
theorem journals {s n f z : Int} (h : IsL s n f z) (x : Int) (hx0 : 0 ≤ x) (hx : x ≤ 65536) (d : Nat) : ∀ (k : Nat) (c i : Int), 0 ≤ i → i ≤ n → n - i = d → d + 3 ≤ k → 0 ≤ c → c + d ≤ 100 →
    lockgatelaw13_LayoutApart.l0 k true x c i s n f z = lockgatelaw13_LayoutApart.l0 (k - d) true x (c + (if 2 + 40 * i ≤ x ∧ x < 2 + 40 * n then 1 else 0)) n s n f z := by
  have := h.n8
  induction d with
  | zero =>
    intro k c i h0 h1 hd hk hc hc'
    obtain rfl : i = n := by omega
    rw [if_neg (by omega)]
    simp
  | succ d ih =>
    intro k c i h0 h1 hd hk hc hc'
    obtain ⟨k, rfl⟩ : ∃ m, k = m + 1 := ⟨k - 1, by omega⟩
    conv => lhs; simp only [lockgatelaw13_LayoutApart.l0]
    rw [if_pos (by omega), journal_ok h i h0 (by omega) k (by omega)]
    simp only [Option.bind_some]
    rw [w64 (x := 2 + 40 * i + 40) (by omega) (by omega), w64 (x := i + 1) (by omega) (by omega), w64 (x := c + 1) (by omega) (by omega)]
    have hk' : k + 1 - (d + 1) = k - d := by omega
    rw [hk']
    by_cases c1 : x ≥ 2 + 40 * i
    · rw [if_pos c1]
      by_cases c2 : x < 2 + 40 * i + 40
      · rw [if_pos c2, ih k (c + 1) (i + 1) (by omega) (by omega) (by omega) (by omega) (by omega) (by omega)]
        have q1 : ¬ (2 + 40 * (i + 1) ≤ x ∧ x < 2 + 40 * n) := by omega
        have q2 : 2 + 40 * i ≤ x ∧ x < 2 + 40 * n := by omega
        rw [if_neg q1, if_pos q2]
        simp
      · rw [if_neg c2, ih k c (i + 1) (by omega) (by omega) (by omega) (by omega) (by omega) (by omega)]
        by_cases c3 : x < 2 + 40 * n
        · rw [if_pos (by omega), if_pos (by omega)]
        · rw [if_neg (by omega), if_neg (by omega)]
    · rw [if_neg c1, ih k c (i + 1) (by omega) (by omega) (by omega) (by omega) (by omega) (by omega), if_neg (by omega), if_neg (by omega)]

/-- The law's body for a layout and a sector. -/
theorem body {s n f z : Int} (h : IsL s n f z) (x : Int) (hx0 : 0 ≤ x) (hx : x ≤ 65536) : lockgatelaw13_LayoutApart.j2 40 true x s n f z = some true := by
  obtain ⟨a, b, c, d⟩ := h.z3
  have h8 := h.n8; have hf := h.hf; have h1 := h.n1; have hs := h.smax
  obtain ⟨nn, hnn⟩ : ∃ nn : Nat, n = nn := ⟨n.toNat, by omega⟩
  have key : lockgatelaw13_LayoutApart.l0 38 true x (if x < 2 then 1 else 0) 0 s n f z = some true := by
    rw [journals h x hx0 hx nn 38 _ 0 (by omega) (by omega) (by omega) (by omega) (by split <;> omega) (by split <;> omega)]
    obtain ⟨k, hk⟩ : ∃ k, 38 - nn = k + 20 := ⟨18 - nn, by omega⟩
    rw [hk]
    simp only [lockgatelaw13_LayoutApart.l0]
    rw [if_neg (by omega), zone_ok h x _ (by omega), place_ok h x hx0 hx _ (by omega)]
    simp only [Option.bind_some]
    have e1 : wrap64 (4 * z) = 4 * z := w64 (by omega) (by omega)
    have e2 : wrap64 (f + 4 * z) = f + 4 * z := w64 (by omega) (by omega)
    have z0 : (if x < 2 then (1 : Int) else 0) + (if 2 + 40 * 0 ≤ x ∧ x < 2 + 40 * n then 1 else 0) = if x < f then 1 else 0 := by
      by_cases q1 : x < 2
      · rw [if_pos q1, if_neg (by omega), if_pos (by omega)]; rfl
      · rw [if_neg q1]
        by_cases q2 : x < f
        · rw [if_pos (by omega), if_pos q2]; rfl
        · rw [if_neg (by omega), if_neg q2]; rfl
    rw [z0]
    obtain ⟨h1, h2⟩ | ⟨h1, h2, h3, h4⟩ := zone_is (f := f) (x := x) a
    · rw [h1]
      simp only [e1, e2]
      rw [if_neg (by omega), if_pos (by simp)]
      obtain h2 | h2 := h2
      · rw [if_neg (c := x ≥ f + 4 * z) (by omega), if_pos h2]; simp
      · rw [if_pos (c := x ≥ f + 4 * z) h2, if_neg (c := x < f) (by omega)]; simp
    · have e : 0 ≤ zoneOf f z x * z := by
        have := Int.mul_nonneg h1 (by omega : 0 ≤ z); exact this
      rw [if_pos (by omega), if_neg (by omega), if_neg (by omega), if_neg (by omega), begin_ok h _ h1 h2 _ (by omega)]
      simp only [Option.bind_some]
      rw [show f + zoneOf f z x * z + (x - (f + zoneOf f z x * z)) = x from by omega, w64 (x := x) (by omega) (by omega), if_pos rfl, root_ok h _ h1 h2 _ (by omega)]
      simp only [Option.bind_some]
      rw [if_neg (c := x < f) (by omega)]
      have e5 : ((x - (f + zoneOf f z x * z) == 1) != (f + zoneOf f z x * z + 1 == x)) = false := by
        by_cases q : x = f + zoneOf f z x * z + 1
        · have q1 : (x - (f + zoneOf f z x * z) == 1) = true := by simp; omega
          have q2 : (f + zoneOf f z x * z + 1 == x) = true := by simp; omega
          rw [q1, q2]; rfl
        · have q1 : (x - (f + zoneOf f z x * z) == 1) = false := by simp; omega
          have q2 : (f + zoneOf f z x * z + 1 == x) = false := by simp; omega
          rw [q1, q2]; rfl
      rw [e5, show wrap64 (0 + 1) = 1 from w64 (by omega) (by omega)]
      simp only [lockgatelaw13_LayoutApart.j5, e1, e2]
      rw [if_neg (by simp), if_neg]
      · simp
      · have : x < f + 4 * z := by
          have h5 : zoneOf f z x * z + z ≤ 4 * z := by
            have h6 : (zoneOf f z x + 1) * z ≤ 4 * z := Int.mul_le_mul_of_nonneg_right (by omega) (by omega)
            rw [Int.add_mul] at h6; omega
          omega
        omega
  simp only [lockgatelaw13_LayoutApart.j2, lockgatelaw13_LayoutApart.j3]
  by_cases q : x < 2
  · rw [if_pos q] at key ⊢; exact key
  · rw [if_neg q] at key ⊢; exact key

theorem tmod_bound (a b : Int) (hb : 0 < b) : -b < Int.tmod a b ∧ Int.tmod a b < b := by
  have h1 := Int.tmod_lt_of_pos a hb
  have h2 := Int.lt_tmod_of_pos a hb
  exact ⟨h2, h1⟩

theorem from_n (n x m : Int) (h0 : 0 ≤ n) (h1 : n ≤ 1000) : lockgatelaw13_LayoutApart.j0 42 m x true n = some true := by
  simp only [lockgatelaw13_LayoutApart.j0]
  by_cases ok : 1 ≤ m ∧ m ≤ 8 ∧ n ≤ 65536 ∧ 2 + 40 * m + 12 ≤ n
  · obtain ⟨o1, o2, o3, o4⟩ := ok
    rw [new_ok n m o1 o2 o3 o4 41 (by omega)]
    simp only [Option.bind_some, if_true]
    rw [show (n == 0) = false from by simp; omega]
    simp only [lockgatelaw13_LayoutApart.j1]
    rw [if_neg (by simp), if_neg (by omega)]
    obtain ⟨b1, b2⟩ := tmod_bound x n (by omega)
    have L : IsL n m (2 + 40 * m) (mn ((n - (2 + 40 * m)) / 4) 4000) := ⟨o1, o2, o3, rfl, o4, rfl⟩
    by_cases q : Int.tmod x n < 0
    · rw [if_pos q, w64 (x := - Int.tmod x n) (by omega) (by omega)]
      exact body L _ (by omega) (by omega)
    · rw [if_neg q]
      exact body L _ (by omega) (by omega)
  · obtain ⟨e, he, hk⟩ := new_bad n m (by omega) ok
    rw [hk 41 (by omega)]
    simp only [Option.bind_some]
    rw [if_neg he]
    simp [lockgatelaw13_LayoutApart.j1]

theorem LayoutApart : lockgatelaw13_LayoutApart.Pure := by
  intro a0 a1 a2 w0 w1 w2
  refine ⟨42, ?_⟩
  unfold lockgatelaw13_LayoutApart.f
  rw [awake_ok 42 (by omega)]
  simp only [Option.bind_some]
  obtain ⟨b1, b2⟩ := tmod_bound a0 1001 (by omega)
  by_cases q : Int.tmod a0 1001 < 0
  · rw [if_pos q, w64 (x := - Int.tmod a0 1001) (by omega) (by omega)]
    exact from_n _ _ _ (by omega) (by omega)
  · rw [if_neg q]
    exact from_n _ _ _ (by omega) (by omega)
end Go.Proofs.Ytkfloghdnklakaa.Pure
