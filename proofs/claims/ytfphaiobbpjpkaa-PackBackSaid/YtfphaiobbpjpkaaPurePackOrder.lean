/- Of two numbers the bytes are in the order of the numbers: the pure law of PackOrder, for every two numbers. -/
import Derived.Test.YtfphaiobbpjpkaaQx5
import Derived.Test.YtfphaiobbpjpkaaQx7
import Derived.Test.YtfphaiobbpjpkaaPkL
namespace Go.Proofs.Ytfphaiobbpjpkaa.Pure
open Go.RowKit Go.Proofs.Ytfphaiobbpjpkaa.Q Go.Proofs.Ytfphaiobbpjpkaa.By Go.Proofs.Ytfphaiobbpjpkaa.Bm Go.Proofs.YtfphaiobbpjpkaaW.PrintWords Go.Proofs.YtfphaiobbpjpkaaW.PrintLast Go.Proofs.YtfphaiobbpjpkaaW.PrintMore
set_option linter.unusedVariables false
theorem eight_ok (n : Int) (h0 : 0 ≤ n) (h1 : n < 18446744073709551616) : pack_Eight.f n = some (beS n 8) := by
  unfold pack_Eight.f pack_number_uint64.f
  rw [if_pos ⟨h0, h1, by omega, by omega⟩]
  rfl
theorem fold_acc (xs : List Int) : ∀ a : Int, xs.foldl (fun n b => n * 256 + b) a = a * 256 ^ xs.length + num xs := by
  induction xs with
  | nil => intro a; simp [num]
  | cons x xs ih =>
    intro a
    have h0 := ih (a * 256 + x)
    have h1 := ih (0 * 256 + x)
    unfold num at h1 ⊢
    simp only [List.foldl_cons, List.length_cons] at h0 h1 ⊢
    unfold num at h0
    rw [h0, h1, Int.pow_succ]
    generalize (256 : Int) ^ xs.length = p
    generalize List.foldl (fun n b => n * 256 + b) 0 xs = q
    rw [Int.add_mul, Int.zero_mul, Int.zero_add, Int.mul_assoc, Int.mul_comm 256 p]
    omega
theorem num_cons (x : Int) (xs : List Int) : num (x :: xs) = x * 256 ^ xs.length + num xs := by
  have := fold_acc xs (0 * 256 + x)
  rw [Int.zero_mul, Int.zero_add] at this
  unfold num
  simp only [List.foldl_cons, Int.zero_mul, Int.zero_add]
  exact this
theorem less_num (xs : List Int) : ∀ ys : List Int, xs.length = ys.length → (∀ x ∈ xs, 0 ≤ x ∧ x < 256) → (∀ x ∈ ys, 0 ≤ x ∧ x < 256) →
    Op.bytesLess (xs.map fun n => UInt8.ofNat n.toNat) (ys.map fun n => UInt8.ofNat n.toNat) = decide (num xs < num ys) := by
  induction xs with
  | nil =>
    intro ys hl _ _
    cases ys with
    | nil => rfl
    | cons y ys => simp at hl
  | cons x xs ih =>
    intro ys hl hx hy
    cases ys with
    | nil => simp at hl
    | cons y ys =>
      have hl' : xs.length = ys.length := by simpa using hl
      have h1 := hx x (by simp)
      have h2 := hy y (by simp)
      have ih := ih ys hl' (fun z hz => hx z (by simp [hz])) (fun z hz => hy z (by simp [hz]))
      have n1 := num_nonneg xs (fun z hz => hx z (by simp [hz]))
      have n2 := num_nonneg ys (fun z hz => hy z (by simp [hz]))
      simp only [List.map_cons, Op.bytesLess]
      rw [ih, num_cons, num_cons, hl']
      rw [hl'] at n1
      have hp : (0 : Int) < 256 ^ ys.length := Int.pow_pos (by decide)
      generalize (256 : Int) ^ ys.length = p at n1 n2 hp ⊢
      have e1 : decide (UInt8.ofNat x.toNat < UInt8.ofNat y.toNat) = decide (x < y) := by
        rw [decide_eq_decide, UInt8.lt_iff_toNat_lt, UInt8.toNat_ofNat', UInt8.toNat_ofNat']
        omega
      have e2 : (UInt8.ofNat x.toNat == UInt8.ofNat y.toNat) = decide (x = y) := by
        rw [Bool.eq_iff_iff, beq_iff_eq, decide_eq_true_iff, ← UInt8.toNat_inj, UInt8.toNat_ofNat', UInt8.toNat_ofNat']
        omega
      rw [e1, e2]
      rcases Int.lt_trichotomy x y with h | h | h
      · have : (x + 1) * p ≤ y * p := Int.mul_le_mul_of_nonneg_right (by omega) (by omega)
        rw [Int.add_mul, Int.one_mul] at this
        rw [decide_eq_true h, Bool.true_or, decide_eq_true (by omega)]
      · subst h
        rw [decide_eq_false (by omega), decide_eq_true rfl, Bool.false_or, Bool.true_and, decide_eq_decide]
        omega
      · have : (y + 1) * p ≤ x * p := Int.mul_le_mul_of_nonneg_right (by omega) (by omega)
        rw [Int.add_mul, Int.one_mul] at this
        rw [decide_eq_false (show ¬ x < y by omega), decide_eq_false (show ¬ x = y by omega), Bool.false_or, Bool.false_and, decide_eq_false (by omega)]
theorem beS_less (a b : Int) (k : Nat) (ha : 0 ≤ a ∧ a < 256 ^ k) (hb : 0 ≤ b ∧ b < 256 ^ k) : Op.bytesLess (beS a k).toList (beS b k).toList = decide (a < b) := by
  rw [ByteArray.toList_eq, ByteArray.toList_eq]
  unfold beS strOfNums
  simp only []
  rw [less_num _ _ (by rw [be_length, be_length]) (be_range _ _) (be_range _ _), num_be, num_be, Int.emod_eq_of_lt ha.1 ha.2, Int.emod_eq_of_lt hb.1 hb.2]
theorem beS_inj (a b : Int) (k : Nat) (ha : 0 ≤ a ∧ a < 256 ^ k) (hb : 0 ≤ b ∧ b < 256 ^ k) : ((beS a k).toList == (beS b k).toList) = (a == b) := by
  by_cases e : a = b
  · subst e; simp
  · have n : (a == b) = false := by simpa using e
    rw [n, beq_eq_false_iff_ne]
    intro h
    have h := toList_ext.1 h
    have h1 := bytesOf_nums _ (be_range a k)
    have h2 := bytesOf_nums _ (be_range b k)
    have h3 := num_be a k
    have h4 := num_be b k
    rw [Int.emod_eq_of_lt ha.1 ha.2] at h3
    rw [Int.emod_eq_of_lt hb.1 hb.2] at h4
    unfold beS at h
    rw [h, h2] at h1
    rw [← h1] at h3
    omega
theorem wf_u64 {x : Int} (h : (Lit.int .u64 x).wf = true) : 0 ≤ x ∧ x < 18446744073709551616 := by
  have h' : (decide (IntKind.u64.min ≤ x) && decide (x ≤ IntKind.u64.max)) = true := h
  have m1 : IntKind.u64.min = 0 := by decide +kernel
  have m2 : IntKind.u64.max = 18446744073709551615 := by decide +kernel
  rw [m1, m2] at h'
  simp at h'
  omega
theorem p8 : (256 : Int) ^ 8 = 18446744073709551616 := by decide
theorem p4 : (256 : Int) ^ 4 = 4294967296 := by decide
theorem wrap16 (n : Int) : IntKind.u16.wrap n = n % 65536 := by
  unfold IntKind.wrap
  simp only [IntKind.signed, IntKind.bits, Bool.false_and, Bool.false_eq_true, if_false]
  rfl
theorem PackOrder : lockgatelaw01_PackOrder.Pure := by
  intro a0 a1 w0 w1
  have h0 := wf_u64 w0
  have h1 := wf_u64 w1
  unfold lockgatelaw01_PackOrder.f
  rw [awake_ok, wrap16, wrap16]
  simp only [Option.bind_some, if_true]
  rw [eight_ok a0 h0.1 h0.2, eight_ok a1 h1.1 h1.2]
  simp only [Option.bind_some]
  rw [beS_less a0 a1 8 (by rw [p8]; exact h0) (by rw [p8]; exact h1), if_pos (by simp)]
  rw [four_ok (a0 % 4294967296) (by omega) (by omega), four_ok (a1 % 4294967296) (by omega) (by omega)]
  simp only [Option.bind_some]
  rw [beS_less _ _ 4 (by rw [p4]; omega) (by rw [p4]; omega), if_pos (by simp)]
  rw [two_ok (a0 % 65536) (by omega) (by omega), two_ok (a1 % 65536) (by omega) (by omega)]
  simp only [Option.bind_some]
  rw [beS_inj _ _ 2 (by rw [pow2]; omega) (by rw [pow2]; omega), if_pos (by simp), beS_size]
  rfl
end Go.Proofs.Ytfphaiobbpjpkaa.Pure
