/- Chapter 15: what entry.Split tells of any path; names and paths of the reference; rows of names that are the same. -/
import Derived.Test.YtgmbmkjdfmoanaaDoorQx2
import Derived.Test.YtgmbmkjdfmoanaaDoorQx3
import Derived.Test.YtgmbmkjdfmoanaaDoorQx6
import Derived.Test.YtgmbmkjdfmoanaaDoorQx7
import Derived.Test.YtgmbmkjdfmoanaaDoorEnS
namespace Go.Proofs.YtgmbmkjdfmoanaaDoor.By
open Go.RowKit Go.Proofs.YtgmbmkjdfmoanaaDoor.Bm Go.Proofs.YtgmbmkjdfmoanaaDoor.Q Go.Proofs.YtgmbmkjdfmoanaaDoorW.PrintWords Go.Proofs.YtgmbmkjdfmoanaaDoorW.PrintMore
set_option linter.unusedVariables false
theorem is_size {s : ByteArray} (h : entry_Name.is s = true) : 1 ≤ s.size ∧ s.size ≤ 30 := by
  unfold entry_Name.is at h
  rw [decide_eq_true_eq] at h
  have h1 : ¬ s.size = 0 := fun g => h.1 (.inl g)
  have h2 : ¬ 30 < s.size := fun g => h.1 (.inr (.inl g))
  omega
/-- May a path's rest be one: its parts are names, eight at most. -/
def goodP (r : ByteArray) : Bool := decide ((parts r).length ≤ 8) && (parts r).all entry_Name.is
theorem sum_le (l : List ByteArray) (h : ∀ x ∈ l, x.size ≤ 30) : (l.map ByteArray.size).sum ≤ 30 * l.length := by
  induction l with
  | nil => simp
  | cons x l ih =>
    have h1 := h x (by simp)
    have h2 := ih (fun y hy => h y (by simp [hy]))
    rw [List.map_cons, List.sum_cons, List.length_cons]
    omega
theorem good_size {r : ByteArray} (h : goodP r = true) : r.size ≤ 248 := by
  unfold goodP at h
  rw [Bool.and_eq_true, decide_eq_true_eq, List.all_eq_true] at h
  obtain ⟨h1, h2⟩ := h
  obtain ⟨a, b, _⟩ := splitL_facts r.data.toList.length r.data.toList (Nat.le_refl _)
  have s1 := sum_le (parts r) (fun x hx => (is_size (h2 x hx)).2)
  have e1 : (parts r).map ByteArray.size = (splitL r.data.toList).map List.length := by unfold parts; rw [List.map_map]; rfl
  have e2 : (parts r).length = (splitL r.data.toList).length := by unfold parts; rw [List.length_map]
  rw [e1] at s1
  rw [size_data] at b
  omega
/-- What Split tells of a path. -/
def splitV (s : ByteArray) : List ByteArray × Bool :=
  if s = slash then ([], true) else if 1 ≤ s.size ∧ s.extract 0 1 = slash ∧ goodP (s.extract 1 s.size) = true then (parts (s.extract 1 s.size), true) else ([], false)
theorem cut_val (s B : ByteArray) (hB : B.size = 1) (hs : s.size ≤ 100000) : strings_CutPrefix.f s B = some (if 1 ≤ s.size ∧ s.extract 0 1 = B then (s.extract 1 s.size, true) else (s, false)) := by
  unfold strings_CutPrefix.f stringslite_CutPrefix.f stringslite_HasPrefix.f
  rw [hB]
  by_cases h : 1 ≤ s.size
  · rw [if_pos (by omega), if_pos (by omega), if_pos (by omega), show (((1 : Nat) : Int)).toNat = 1 from rfl, Option.bind_some]
    by_cases e : s.extract 0 1 = B
    · rw [if_pos (show ((s.extract 0 1).toList == B.toList) = true by rw [e, beq_self_eq_true]), if_pos (by omega), if_pos (by omega), if_pos (⟨h, e⟩ : 1 ≤ s.size ∧ s.extract 0 1 = B)]; rfl
    · rw [if_neg (show ¬ ((s.extract 0 1).toList == B.toList) = true from fun g => e (Bm.toList_ext.1 (beq_iff_eq.1 g))), if_neg (show ¬ (1 ≤ s.size ∧ s.extract 0 1 = B) from fun g => e g.2)]; rfl
  · rw [if_neg (by omega), Option.bind_some, if_neg (show ¬ (false = true) by simp), if_neg (show ¬ (1 ≤ s.size ∧ s.extract 0 1 = B) from fun g => h g.1)]; rfl
theorem esplit_gen (B : ByteArray) (hBs : B = ⟨#[47]⟩) (hB : B.size = 1) (hS : ∀ x : ByteArray, x.size ≤ 100000 → ∀ k, x.size + 5 ≤ k → strings_Split.f k x B = some (parts x)) (s : ByteArray) (hs : s.size ≤ 100000) (k : Nat) (hk : 400 ≤ k) :
    entry_Split.f k s = some (if s = B then ([], true) else if 1 ≤ s.size ∧ s.extract 0 1 = B ∧ goodP (s.extract 1 s.size) = true then (parts (s.extract 1 s.size), true) else ([], false)) := by
  unfold entry_Split.f
  rw [← hBs]
  by_cases c0 : s = B
  · rw [if_pos c0, if_pos c0]
  rw [if_neg c0, if_neg c0, cut_val s B hB hs, Option.bind_some]
  by_cases c1 : 1 ≤ s.size ∧ s.extract 0 1 = B
  · rw [if_pos c1]
    have hz := ext_size s 1 s.size (Nat.le_refl _)
    generalize s.extract 1 s.size = r at hz ⊢
    rw [if_pos rfl]
    by_cases c2 : 248 < r.size
    · rw [if_pos c2, if_neg]
      rintro ⟨_, _, g⟩
      have := good_size g
      omega
    · rw [if_neg c2, hS r (by omega) k (by omega), Option.bind_some]
      unfold goodP
      by_cases c3 : 8 < (parts r).length
      · rw [if_pos c3, if_neg]
        rintro ⟨_, _, g⟩
        rw [Bool.and_eq_true, decide_eq_true_eq] at g
        omega
      · rw [if_neg c3]
        by_cases c4 : (parts r).all entry_Name.is = true
        · rw [if_pos c4, if_pos ⟨c1.1, c1.2, by rw [c4, decide_eq_true (by omega)]; rfl⟩]
        · rw [if_neg c4, if_neg]
          rintro ⟨_, _, g⟩
          rw [Bool.and_eq_true] at g
          exact c4 g.2
  · rw [if_neg c1, if_neg (by simp), if_neg (fun g => c1 ⟨g.1, g.2.1⟩)]
theorem esplit_ok (s : ByteArray) (hs : s.size ≤ 100000) (k : Nat) (hk : 400 ≤ k) : entry_Split.f k s = some (splitV s) :=
  esplit_gen slash rfl slash_size split_ok s hs k hk
/-! ### the reference -/
/-- So many letters from a place on. -/
def letL (s : ByteArray) : Nat → Nat → Bool
  | 0, _ => true
  | d + 1, i => entry_Name.let (bt s (i : Int)) && letL s d (i + 1)
theorem letL_iff (s : ByteArray) (d : Nat) : ∀ i, letL s d i = true ↔ ∀ j : Nat, i ≤ j → j < i + d → entry_Name.let (bt s (j : Int)) = true := by
  induction d with
  | zero => intro i; exact ⟨fun _ j h1 h2 => by omega, fun _ => rfl⟩
  | succ d ih =>
    intro i
    rw [letL, Bool.and_eq_true, ih (i + 1)]
    constructor
    · rintro ⟨h1, h2⟩ j h3 h4
      by_cases e : j = i
      · rw [e]; exact h1
      · exact h2 j (by omega) (by omega)
    · intro h; exact ⟨h i (Nat.le_refl _) (by omega), fun j h1 h2 => h j (by omega) (by omega)⟩
theorem rname_loop (s : ByteArray) (hs : s.size ≤ 30) (d : Nat) : ∀ (k i : Nat), i + d = s.size → d < k →
    lockgateref15_Name.l0 k s i = some (letL s d i) := by
  induction d with
  | zero =>
    intro k i hi hk
    obtain ⟨k, rfl⟩ : ∃ q, k = q + 1 := ⟨k - 1, by omega⟩
    rw [lockgateref15_Name.l0.eq_2, if_neg (by omega)]
    rfl
  | succ d ih =>
    intro k i hi hk
    obtain ⟨k, rfl⟩ : ∃ q, k = q + 1 := ⟨k - 1, by omega⟩
    have next := ih k (i + 1) (by omega) (by omega)
    rw [lockgateref15_Name.l0.eq_2, if_pos (by omega), if_pos (by omega), w64 (x := (i : Int) + 1) (by omega) (by omega), show (i : Int) + 1 = ((i + 1 : Nat) : Int) by omega, next, letL]
    generalize letL s d (i + 1) = R
    generalize bt s (i : Int) = c
    unfold entry_Name.let
    by_cases h : 97 ≤ c ∧ c ≤ 122 ∨ 65 ≤ c ∧ c ≤ 90 ∨ 48 ≤ c ∧ c ≤ 57 ∨ c = 46 ∨ c = 45 ∨ c = 95
    · rw [decide_eq_true h, Bool.true_and]
      repeat' split
      all_goals first | rfl | omega
    · rw [decide_eq_false h, Bool.false_and]
      repeat' split
      all_goals first | rfl | omega
theorem rname_gen (A B s : ByteArray) (hA : A = ⟨#[46]⟩) (hB : B = ⟨#[46, 46]⟩) (eA : A.toList = ([46] : List UInt8)) (eB : B.toList = ([46, 46] : List UInt8)) (k : Nat) (hk : 40 ≤ k) : lockgateref15_Name.f k s = some (entry_Name.is s) := by
  obtain ⟨k, rfl⟩ : ∃ q, k = q + 1 := ⟨k - 1, by omega⟩
  unfold lockgateref15_Name.f entry_Name.is
  rw [← hB, ← hA, ← eB, ← eA]
  have j1 : lockgateref15_Name.j0 (k + 1) s true = some false := by rw [lockgateref15_Name.j0.eq_2, if_pos rfl]
  by_cases c0 : s.size = 0
  · rw [if_pos (by omega), j1, decide_eq_false (fun g => g.1 (.inl c0))]
  rw [if_neg (by omega)]
  by_cases c1 : 30 < s.size
  · rw [if_pos (by omega), j1, decide_eq_false (fun g => g.1 (.inr (.inl c1)))]
  rw [if_neg (by omega)]
  by_cases c2 : s = A
  · rw [if_pos (by rw [c2]), j1, decide_eq_false (fun g => g.1 (.inr (.inr (.inl c2))))]
  rw [if_neg (fun g => c2 (Bm.toList_ext.1 g))]
  by_cases c3 : s = B
  · rw [show (s.toList == B.toList) = true by rw [c3, beq_self_eq_true], j1, decide_eq_false (fun g => g.1 (.inr (.inr (.inr c3))))]
  · rw [show (s.toList == B.toList) = false by rw [beq_eq_false_iff_ne]; exact fun g => c3 (Bm.toList_ext.1 g), lockgateref15_Name.j0.eq_2, if_neg (by simp)]
    have := rname_loop s (by omega) s.size k 0 (by omega) (by omega)
    rw [show ((0 : Nat) : Int) = 0 from rfl] at this
    rw [this]
    congr 1
    rw [Bool.eq_iff_iff, letL_iff, decide_eq_true_eq]
    constructor
    · intro h; exact ⟨fun g => g.elim c0 (fun g => g.elim c1 (fun g => g.elim c2 c3)), fun j hj => h j (Nat.zero_le _) (by omega)⟩
    · rintro ⟨_, h⟩ j _ hj; exact h j (by omega)
theorem rname_ok (s : ByteArray) (k : Nat) (hk : 40 ≤ k) : lockgateref15_Name.f k s = some (entry_Name.is s) := rname_gen ⟨#[46]⟩ ⟨#[46, 46]⟩ s rfl rfl (by decide +kernel) (by decide +kernel) k hk
theorem same_loop (l : List ByteArray) (hl : l.length ≤ 1000) (d : Nat) : ∀ (k i : Nat), i + d = l.length → d < k → lockgateref15_SameNames.l0 k l l i = some true := by
  induction d with
  | zero =>
    intro k i hi hk
    obtain ⟨k, rfl⟩ : ∃ q, k = q + 1 := ⟨k - 1, by omega⟩
    rw [lockgateref15_SameNames.l0.eq_2, if_neg (by omega)]
  | succ d ih =>
    intro k i hi hk
    obtain ⟨k, rfl⟩ : ∃ q, k = q + 1 := ⟨k - 1, by omega⟩
    rw [lockgateref15_SameNames.l0.eq_2, if_pos (by omega), if_pos (by omega), if_pos (by omega), if_pos rfl, w64 (x := (i : Int) + 1) (by omega) (by omega), show (i : Int) + 1 = ((i + 1 : Nat) : Int) by omega]
    exact ih k (i + 1) (by omega) (by omega)
theorem same_ok (l : List ByteArray) (hl : l.length ≤ 1000) (k : Nat) (hk : l.length + 1 ≤ k) : lockgateref15_SameNames.f k l l = some true := by
  unfold lockgateref15_SameNames.f
  rw [if_pos rfl]
  exact same_loop l hl l.length k 0 (by omega) (by omega)
end Go.Proofs.YtgmbmkjdfmoanaaDoor.By
