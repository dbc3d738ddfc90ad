/- Numbers and texts are put as P1.1 says: the pure law of PackPuts, for every number, text and length. -/
import Derived.Test.YtfphaiobbpjpkaaQx5
import Derived.Test.YtfphaiobbpjpkaaQx6
import Derived.Test.YtfphaiobbpjpkaaPkL
import Derived.Test.YtfphaiobbpjpkaaPurePackOrder
namespace Go.Proofs.Ytfphaiobbpjpkaa.Pure
open Go.RowKit Go.Proofs.Ytfphaiobbpjpkaa.Q Go.Proofs.Ytfphaiobbpjpkaa.By Go.Proofs.Ytfphaiobbpjpkaa.Bm Go.Proofs.YtfphaiobbpjpkaaW.PrintWords Go.Proofs.YtfphaiobbpjpkaaW.PrintLast Go.Proofs.YtfphaiobbpjpkaaW.PrintMore
set_option linter.unusedVariables false
theorem puts_j0 (n : Int) (h0 : 0 ≤ n) (h1 : n < 18446744073709551616) (s : ByteArray) (hs : s.size ≤ 65535) (x : Int) (hx0 : 0 ≤ x) (hx1 : x ≤ 100) (k : Nat) (hk : 20 ≤ k) (a : ByteArray) (e : Int) :
    lockgatelaw01_PackPuts.j0 (k + 1) n true a e a e x = some true := by
  have r2 := rnum_ok (n % 65536) (by omega) (by omega) 2 (by omega) k hk
  have r4 := rnum_ok (n % 4294967296) (by omega) (by omega) 4 (by omega) k hk
  have r8 := rnum_ok n h0 h1 8 (by omega) k hk
  rw [show ((2 : Nat) : Int) = 2 from rfl] at r2
  rw [show ((4 : Nat) : Int) = 4 from rfl] at r4
  rw [show ((8 : Nat) : Int) = 8 from rfl] at r8
  have t1 : Int.tmod n 65536 = n % 65536 := Int.tmod_eq_emod_of_nonneg h0
  have t2 : Int.tmod n 4294967296 = n % 4294967296 := Int.tmod_eq_emod_of_nonneg h0
  obtain ⟨m, hm⟩ : ∃ m : Nat, x = m := ⟨x.toNat, by omega⟩
  have e1 : wrap64 (65500 + x) = ((65500 + m : Nat) : Int) := by rw [w64 (by omega) (by omega)]; omega
  have e2 : wrap64 (65502 + x) = 65502 + (m : Int) := by rw [w64 (by omega) (by omega)]; omega
  rw [lockgatelaw01_PackPuts.j0.eq_2]
  rw [e1, e2, t1, t2, wrap16, Int.toNat_natCast, zeros_nums, if_pos (by omega), if_pos (by omega)]
  have hz := zeros_size (65500 + m)
  generalize zeros (65500 + m) = Z at hz ⊢
  by_cases c : 65500 + m ≤ 65535
  · rw [text_ok Z (by omega)]
    simp only [Option.bind_some, if_true]
    rw [two_ok _ (by omega) (by omega), r2]
    simp only [Option.bind_some, if_true]
    rw [four_ok _ (by omega) (by omega), r4]
    simp only [Option.bind_some, if_true]
    rw [eight_ok n h0 h1, r8]
    simp only [Option.bind_some, if_true]
    rw [decide_eq_true (show x ≤ 35 by omega), if_pos (by rfl), app_size, beS_size, hz, if_pos (by omega)]
  · rw [text_bad Z (by omega)]
    simp only [Option.bind_some, if_true]
    rw [two_ok _ (by omega) (by omega), r2]
    simp only [Option.bind_some, if_true]
    rw [four_ok _ (by omega) (by omega), r4]
    simp only [Option.bind_some, if_true]
    rw [eight_ok n h0 h1, r8]
    simp only [Option.bind_some, if_true]
    rw [decide_eq_false (show ¬ x ≤ 35 by omega), if_pos (by rfl), if_neg (by omega), toList_nil.2 rfl]
    rfl
theorem wf_i64 {x : Int} (h : (Lit.int .i64 x).wf = true) : -9223372036854775808 ≤ x ∧ x ≤ 9223372036854775807 := by
  have h' : (decide (IntKind.i64.min ≤ x) && decide (x ≤ IntKind.i64.max)) = true := h
  have m1 : IntKind.i64.min = -9223372036854775808 := by decide +kernel
  have m2 : IntKind.i64.max = 9223372036854775807 := by decide +kernel
  rw [m1, m2] at h'
  simp at h'
  omega
theorem PackPuts : lockgatelaw01_PackPuts.Pure := by
  intro a0 a1 a2 w0 w1 w2
  have h0 := wf_u64 w0
  obtain ⟨s, hs, ls⟩ := short_some a1 300 w1
  refine ⟨30, ?_⟩
  have hr1 := Int.tmod_lt_of_pos a2 (show (0 : Int) < 101 by decide)
  have hr2 : -101 < Int.tmod a2 101 := by
    have := Int.lt_tmod_of_pos a2 (show (0 : Int) < 101 by decide); omega
  unfold lockgatelaw01_PackPuts.f
  rw [awake_ok]
  simp only [Option.bind_some]
  rw [show (300 : Int) = ((300 : Nat) : Int) from rfl, hs]
  simp only [Option.bind_some]
  rw [text_ok s (by omega), rtextr_ok s (by omega) 30 (by omega)]
  simp only [Option.bind_some]
  by_cases c : Int.tmod a2 101 < 0
  · rw [if_pos c, w64 (by omega) (by omega)]
    exact puts_j0 a0 h0.1 h0.2 s (by omega) _ (by omega) (by omega) 29 (by omega) _ _
  · rw [if_neg c]
    exact puts_j0 a0 h0.1 h0.2 s (by omega) _ (by omega) (by omega) 29 (by omega) _ _
end Go.Proofs.Ytfphaiobbpjpkaa.Pure
