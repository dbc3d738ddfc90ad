/- Plain facts on texts of bytes: sizes, places, joins, cuts; numbers as bytes. -/
import Derived.Test.YtehnbbabjnibkaaBmA
namespace Go.Proofs.Ytehnbbabjnibkaa.By
open Go.RowKit Go.Proofs.Ytehnbbabjnibkaa.Bm Go.Proofs.YtehnbbabjnibkaaW.PrintWords Go.Proofs.YtehnbbabjnibkaaW.PrintMore
set_option linter.unusedVariables false

theorem ext_byte (s : ByteArray) (a b k : Nat) (hb : b ≤ s.size) (hk : k < b - a) : byteAt (s.extract a b) k = byteAt s (a + k) := by
  unfold byteAt
  rw [ByteArray.data_extract, List.getD_eq_getElem?_getD, List.getD_eq_getElem?_getD]
  congr 2
  rw [Array.getElem?_toList, Array.getElem?_toList, Array.getElem?_extract]
  rw [if_pos (by have : s.data.size = s.size := rfl; omega)]
theorem app_byte (s t : ByteArray) (k : Nat) : byteAt (s ++ t) k = if k < s.size then byteAt s k else byteAt t (k - s.size) := by
  unfold byteAt
  rw [ByteArray.data_append, Array.toList_append, List.getD_eq_getElem?_getD]
  by_cases h : k < s.size
  · rw [if_pos h, List.getElem?_append_left (by rw [dlen]; exact h), List.getD_eq_getElem?_getD]
  · rw [if_neg h, List.getElem?_append_right (by rw [dlen]; omega), dlen, List.getD_eq_getElem?_getD]
theorem ext_size (s : ByteArray) (a b : Nat) (h : b ≤ s.size) : (s.extract a b).size = b - a := by rw [ByteArray.size_extract]; omega
theorem app_size (s t : ByteArray) : (s ++ t).size = s.size + t.size := ByteArray.size_append
theorem ext_all (s : ByteArray) : s.extract 0 s.size = s := by
  refine bytes_ext (by rw [ext_size _ _ _ (Nat.le_refl _)]; omega) fun k hk => ?_
  rw [ext_size _ _ _ (Nat.le_refl _)] at hk
  rw [ext_byte _ _ _ _ (Nat.le_refl _) hk, Nat.zero_add]
theorem ext_none (s : ByteArray) (a : Nat) (h : s.size ≤ a) : s.extract a s.size = ⟨#[]⟩ := by
  refine bytes_ext (by rw [ext_size _ _ _ (Nat.le_refl _)]; show _ = 0; omega) fun k hk => ?_
  rw [ext_size _ _ _ (Nat.le_refl _)] at hk
  omega
theorem ext_left (s t : ByteArray) (b : Nat) (h : b ≤ s.size) : (s ++ t).extract 0 b = s.extract 0 b := by
  have hs := app_size s t
  refine bytes_ext (by rw [ext_size _ _ _ (by omega), ext_size _ _ _ h]) fun k hk => ?_
  rw [ext_size _ _ _ (by omega)] at hk
  rw [ext_byte _ _ _ _ (by omega) hk, ext_byte _ _ _ _ h hk, app_byte, if_pos (by omega)]
theorem ext_cut (s t : ByteArray) : (s ++ t).extract s.size (s ++ t).size = t := by
  have hs := app_size s t
  refine bytes_ext (by rw [ext_size _ _ _ (Nat.le_refl _)]; omega) fun k hk => ?_
  rw [ext_size _ _ _ (Nat.le_refl _)] at hk
  rw [ext_byte _ _ _ _ (Nat.le_refl _) hk, app_byte, if_neg (by omega), Nat.add_sub_cancel_left]
theorem ext_fst (s t : ByteArray) : (s ++ t).extract 0 s.size = s := by rw [ext_left s t _ (Nat.le_refl _), ext_all]
theorem app_assoc (s t u : ByteArray) : s ++ t ++ u = s ++ (t ++ u) := by
  refine bytes_ext (by simp only [app_size]; omega) fun k hk => ?_
  rw [app_byte, app_byte, app_byte s, app_byte t, app_size]
  by_cases h1 : k < s.size
  · rw [if_pos (by omega), if_pos h1, if_pos h1]
  · rw [if_neg h1, if_neg h1]
    by_cases h2 : k < s.size + t.size
    · rw [if_pos h2, if_pos (by omega)]
    · rw [if_neg h2, if_neg (by omega)]; congr 1; omega
theorem app_nil (s : ByteArray) : s ++ (⟨#[]⟩ : ByteArray) = s := by
  refine bytes_ext (by rw [app_size]; rfl) fun k hk => ?_
  rw [app_size] at hk
  rw [app_byte, if_pos (by have : (⟨#[]⟩ : ByteArray).size = 0 := rfl; omega)]
theorem nil_app (s : ByteArray) : (⟨#[]⟩ : ByteArray) ++ s = s := by
  have h0 : (⟨#[]⟩ : ByteArray).size = 0 := rfl
  refine bytes_ext (by rw [app_size]; omega) fun k hk => ?_
  rw [app_byte, if_neg (by omega), h0, Nat.sub_zero]
theorem app_inj {s t u v : ByteArray} (hs : s.size = t.size) (h : s ++ u = t ++ v) : s = t ∧ u = v := by
  have h1 := ext_fst s u
  have h2 := ext_fst t v
  have h3 := ext_cut s u
  have h4 := ext_cut t v
  rw [h, hs] at h1 h3
  exact ⟨h1.symm.trans h2, h3.symm.trans h4⟩
theorem nil_of_size {s : ByteArray} (h : s.size = 0) : s = ⟨#[]⟩ := by
  obtain ⟨l⟩ := s
  have : l = #[] := Array.eq_empty_of_size_eq_zero h
  rw [this]
theorem toList_nil {s : ByteArray} : s.toList = [] ↔ s = ⟨#[]⟩ := by
  have e : (⟨#[]⟩ : ByteArray).toList = [] := by rw [ByteArray.toList_eq]
  constructor
  · intro h; exact toList_ext.1 (h.trans e.symm)
  · rintro rfl; exact e

/-! ### numbers as bytes, the greatest first -/
def be (n : Int) (k : Nat) : List Int := (List.range k).map fun j => n / 2 ^ (8 * (k - 1 - j)) % 256
def beS (n : Int) (k : Nat) : ByteArray := strOfNums (be n k)
theorem be_length (n : Int) (k : Nat) : (be n k).length = k := by simp [be]
theorem beS_size (n : Int) (k : Nat) : (beS n k).size = k := by unfold beS; rw [strOfNums_size, be_length]
theorem be_range (n : Int) (k : Nat) : ∀ x ∈ be n k, 0 ≤ x ∧ x < 256 := by
  intro x hx
  simp only [be, List.mem_map] at hx
  obtain ⟨j, _, rfl⟩ := hx
  omega
theorem bytesOf_nums (xs : List Int) (h : ∀ x ∈ xs, 0 ≤ x ∧ x < 256) : bytesOf (strOfNums xs) = xs := by
  unfold bytesOf strOfNums
  simp only [List.map_map]
  conv => rhs; rw [← List.map_id xs]
  apply List.map_congr_left
  intro x hx
  have := h x hx
  simp only [Function.comp, UInt8.toNat_ofNat', id]
  omega
theorem be_succ (n : Int) (k : Nat) : be n (k + 1) = be (n / 256) k ++ [n % 256] := by
  unfold be
  rw [List.range_succ, List.map_append]
  congr 1
  · apply List.map_congr_left
    intro j hj
    rw [List.mem_range] at hj
    rw [show 8 * (k + 1 - 1 - j) = 8 + 8 * (k - 1 - j) by omega, Int.pow_add, ← Int.ediv_ediv_of_nonneg (by decide)]
    rfl
  · simp
/-- The number that bytes are. -/
def num (xs : List Int) : Int := xs.foldl (fun n b => n * 256 + b) 0
theorem num_snoc (xs : List Int) (b : Int) : num (xs ++ [b]) = num xs * 256 + b := by unfold num; rw [List.foldl_append]; rfl
theorem snoc_of {α : Type} {l : List α} {n : Nat} (h : l.length = n + 1) : ∃ m b, l = m ++ [b] ∧ m.length = n := by
  refine ⟨l.take n, l[n]'(by omega), ?_, by rw [List.length_take]; omega⟩
  rw [← List.take_succ_eq_append_getElem, List.take_of_length_le (by omega)]
theorem num_nonneg_ (n : Nat) : ∀ xs : List Int, xs.length = n → (∀ x ∈ xs, 0 ≤ x ∧ x < 256) → 0 ≤ num xs ∧ num xs < 256 ^ xs.length := by
  induction n with
  | zero =>
    intro xs hl h
    obtain rfl : xs = [] := List.eq_nil_of_length_eq_zero hl
    exact ⟨by decide, by decide⟩
  | succ n ih =>
    intro xs hl h
    obtain ⟨l, b, rfl, hm⟩ := snoc_of hl
    have ih := ih l hm (fun x hx => h x (by simp [hx]))
    have hb := h b (by simp)
    rw [num_snoc, List.length_append, List.length_singleton, Int.pow_succ]
    generalize (256 : Int) ^ l.length = p at ih ⊢
    omega
theorem num_nonneg (xs : List Int) (h : ∀ x ∈ xs, 0 ≤ x ∧ x < 256) : 0 ≤ num xs ∧ num xs < 256 ^ xs.length := num_nonneg_ _ xs rfl h
theorem num_be (n : Int) (k : Nat) : num (be n k) = n % 256 ^ k := by
  induction k generalizing n with
  | zero => simp [be, num]
  | succ k ih =>
    rw [be_succ, num_snoc, ih, Int.pow_succ, Int.mul_comm (256 ^ k) 256]
    have hp : (0 : Int) < 256 ^ k := Int.pow_pos (by decide)
    generalize (256 : Int) ^ k = p at hp
    have e1 : n / (256 * p) = n / 256 / p := by rw [Int.ediv_ediv_of_nonneg (by decide)]
    rw [Int.emod_def n (256 * p), e1, Int.emod_def (n / 256) p, Int.mul_assoc]
    generalize p * (n / 256 / p) = z
    omega
theorem num_inj_ (n : Nat) : ∀ xs ys : List Int, xs.length = n → ys.length = n → (∀ x ∈ xs, 0 ≤ x ∧ x < 256) → (∀ x ∈ ys, 0 ≤ x ∧ x < 256) → num xs = num ys → xs = ys := by
  induction n with
  | zero =>
    intro xs ys hx hy _ _ _
    rw [List.eq_nil_of_length_eq_zero hx, List.eq_nil_of_length_eq_zero hy]
  | succ n ih =>
    intro xs ys hlx hly hx hy h
    obtain ⟨l, b, rfl, hl⟩ := snoc_of hlx
    obtain ⟨m, c, rfl, hm⟩ := snoc_of hly
    rw [num_snoc, num_snoc] at h
    have hb := hx b (by simp)
    have hc := hy c (by simp)
    have := ih l m hl hm (fun x h' => hx x (by simp [h'])) (fun x h' => hy x (by simp [h'])) (by omega)
    have e : b = c := by omega
    rw [this, e]
theorem num_inj {xs ys : List Int} (hl : xs.length = ys.length) (hx : ∀ x ∈ xs, 0 ≤ x ∧ x < 256) (hy : ∀ x ∈ ys, 0 ≤ x ∧ x < 256) (h : num xs = num ys) : xs = ys :=
  num_inj_ _ xs ys rfl hl.symm hx hy h
/-- Bytes of a number that fits are that number. -/
theorem be_num (xs : List Int) (h : ∀ x ∈ xs, 0 ≤ x ∧ x < 256) : be (num xs) xs.length = xs := by
  refine num_inj (be_length _ _) (be_range _ _) h ?_
  rw [num_be]
  have := num_nonneg xs h
  exact Int.emod_eq_of_lt this.1 this.2
end Go.Proofs.Ytehnbbabjnibkaa.By
