/- What the reference's functions of chapter 1 tell, in terms of bytes. -/
import Derived.Test.YtfphaiobbpjpkaaQx2
import Derived.Test.YtfphaiobbpjpkaaPkF
namespace Go.Proofs.Ytfphaiobbpjpkaa.By
open Go.RowKit Go.Proofs.Ytfphaiobbpjpkaa.Bm Go.Proofs.Ytfphaiobbpjpkaa.Q Go.Proofs.YtfphaiobbpjpkaaW.PrintWords Go.Proofs.YtfphaiobbpjpkaaW.PrintMore
set_option linter.unusedVariables false
theorem nums_app (xs ys : List Int) : strOfNums (xs ++ ys) = strOfNums xs ++ strOfNums ys := by
  have e : (strOfNums (xs ++ ys)).toList = (strOfNums xs ++ strOfNums ys).toList := by
    rw [ByteArray.toList_eq, ByteArray.toList_eq, ByteArray.data_append, Array.toList_append]
    simp [strOfNums]
  exact toList_ext.1 e
theorem be_cons (n : Int) (k : Nat) : be n (k + 1) = [n / 256 ^ k % 256] ++ be n k := by
  unfold be
  rw [List.range_succ_eq_map, List.map_cons, List.map_map]
  have e : (256 : Int) ^ k = 2 ^ (8 * k) := by rw [Int.pow_mul]; rfl
  rw [show k + 1 - 1 - 0 = k by omega, e]
  rw [List.singleton_append]
  congr 1
  apply List.map_congr_left
  intro j hj
  simp only [Function.comp]
  rw [show k + 1 - 1 - (j + 1) = k - 1 - j by omega]
theorem rnum_loop (n : Int) (h0 : 0 ≤ n) (h1 : n < 18446744073709551616) (size : Nat) (hs : size ≤ 8) (d : Nat) : ∀ (k i : Nat), i + d = size → d < k →
    lockgateref01_Num.l0 k (n / 256 ^ i) size (beS n i) i = some (beS n size) := by
  induction d with
  | zero =>
    intro k i hi hk
    obtain ⟨k, rfl⟩ : ∃ q, k = q + 1 := ⟨k - 1, by omega⟩
    simp only [lockgateref01_Num.l0]
    rw [if_neg (by omega), show i = size by omega]
  | succ d ih =>
    intro k i hi hk
    obtain ⟨k, rfl⟩ : ∃ q, k = q + 1 := ⟨k - 1, by omega⟩
    have hp : (0 : Int) < 256 ^ i := Int.pow_pos (by decide)
    have q0 : 0 ≤ n / 256 ^ i := Int.ediv_nonneg h0 (by omega)
    have q1 : n / 256 ^ i ≤ n := Int.ediv_le_self _ h0
    have next := ih k (i + 1) (by omega) (by omega)
    rw [Int.pow_succ, ← Int.ediv_ediv_of_nonneg (by omega)] at next
    have hb : beS n (i + 1) = strOfNums [n / 256 ^ i % 256] ++ beS n i := by unfold beS; rw [be_cons, nums_app]
    rw [hb] at next
    generalize n / 256 ^ i = q at q0 q1 next ⊢
    have e1 : Int.tmod q 256 = q % 256 := Int.tmod_eq_emod_of_nonneg q0
    have e2 : Int.tdiv q 256 = q / 256 := Int.tdiv_eq_ediv_of_nonneg q0
    simp only [lockgateref01_Num.l0]
    rw [if_pos (by omega), e1, e2, show q % 256 % 256 = q % 256 by omega]
    simp only [Option.bind_some]
    rw [if_pos (by rw [strOfNums_size, beS_size]; simp only [List.length_singleton]; omega), show IntKind.u64.wrap (q / 256) = q / 256 from IntWalk.u64_in _ ⟨by omega, by omega⟩, w64 (x := (i : Int) + 1) (by omega) (by omega)]
    exact next
theorem rnum_ok (n : Int) (h0 : 0 ≤ n) (h1 : n < 18446744073709551616) (size : Nat) (hs : size ≤ 8) : ∀ k, 20 ≤ k → lockgateref01_Num.f k n size = some (beS n size) := by
  intro k hk
  have := rnum_loop n h0 h1 size hs size k 0 (by omega) (by omega)
  rw [Int.pow_zero, Int.ediv_one] at this
  exact this
theorem rtextr_ok (s : ByteArray) (h : s.size ≤ 65535) : ∀ k, 20 ≤ k → lockgateref01_Text.f k s = some (beS s.size 2 ++ s, 0) := by
  intro k hk
  unfold lockgateref01_Text.f
  have e := rnum_ok (s.size : Int) (by omega) (by omega) 2 (by omega) k hk
  rw [show ((2 : Nat) : Int) = 2 from rfl] at e
  rw [if_neg (by omega), show IntKind.u64.wrap (s.size : Int) = s.size from IntWalk.u64_in _ ⟨by omega, by omega⟩, e]
  simp only [Option.bind_some]
  rw [if_pos (by rw [beS_size]; omega)]
theorem zeros_nums (n : Nat) : strOfNums (List.replicate n 0) = zeros n := by
  unfold strOfNums zeros
  rw [List.map_replicate]; rfl
theorem rfill_ok (s : ByteArray) (h : s.size ≤ 510) : ∀ k, 20 ≤ k → lockgateref01_Fill.f k s = some (fillS s, 0) := by
  intro k hk
  unfold lockgateref01_Fill.f
  rw [if_neg (by omega), rtextr_ok s (by omega) k hk]
  simp only [Option.bind_some]
  have hz : (beS (s.size : Int) 2 ++ s).size = 2 + s.size := by rw [app_size, beS_size]
  rw [hz, w64 (by omega) (by omega), show (512 - ((2 + s.size : Nat) : Int)).toNat = 510 - s.size by omega, if_pos (by omega), if_pos (by omega), zeros_nums, if_pos (by rw [zeros_size]; omega)]
  rfl
theorem rfill_bad (s : ByteArray) (h : 510 < s.size) (k : Nat) : lockgateref01_Fill.f k s = some (⟨#[]⟩, 11) := by
  unfold lockgateref01_Fill.f
  rw [if_pos (by omega)]

/-! ### opening -/
/-- The text of a sector, as its first two bytes tell. -/
def first2 (s : ByteArray) : Int := bt s 0 * 256 + bt s 1
theorem first2_num (s : ByteArray) (h : 2 ≤ s.size) : num (bytesOf (s.extract 0 2)) = first2 s := by
  have hz := ext_size s 0 2 h
  have e : bytesOf (s.extract 0 2) = [bt s 0, bt s 1] := by
    apply List.ext_getElem?
    intro i
    have hl : (bytesOf (s.extract 0 2)).length = 2 := by rw [bytesOf_length, hz]
    by_cases hi : i < 2
    · have g := bytesOf_getD (s.extract 0 2) i
      rw [List.getD_eq_getElem?_getD, List.getElem?_eq_getElem (by omega), Option.getD_some, ext_byte _ _ _ _ h (by omega), Nat.zero_add] at g
      rw [List.getElem?_eq_getElem (by omega), g]
      obtain rfl | rfl : i = 0 ∨ i = 1 := by omega
      · rw [Bm.bt_at, Bm.bt_at]; rfl
      · rw [Bm.bt_at, Bm.bt_at]; rfl
    · rw [List.getElem?_eq_none (by omega), List.getElem?_eq_none (by simp; omega)]
  rw [e]; unfold num first2; simp
theorem bt_range (s : ByteArray) (i : Int) : 0 ≤ bt s i ∧ bt s i < 256 := by rw [Bm.bt_at]; have := byteAt_lt s i.toNat; omega
/-- What is opened: of a sector of 512 bytes the text whose sector it is. -/
def openS (s : ByteArray) : ByteArray × Bool :=
  if s.size = 512 ∧ first2 s ≤ 510 ∧ fillS (s.extract 2 (2 + (first2 s).toNat)) = s then (s.extract 2 (2 + (first2 s).toNat), true) else (⟨#[]⟩, false)
theorem fill_first (s : ByteArray) (h : s.size ≤ 510) : first2 (fillS s) = s.size := by
  rw [← first2_num _ (by rw [fillS_size s h]; omega)]
  unfold fillS
  rw [app_assoc]
  exact num_beS _ _ _ (by omega) (by rw [pow2]; omega)
theorem fill_text (s : ByteArray) (h : s.size ≤ 510) : (fillS s).extract 2 (2 + s.size) = s := by
  have hz := fillS_size s h
  have z1 := ext_size (fillS s) 2 (2 + s.size) (by omega)
  refine bytes_ext (by rw [z1]; omega) fun j hj => ?_
  rw [z1] at hj
  rw [ext_byte _ _ _ _ (by omega) hj]
  unfold fillS
  rw [app_byte, if_pos (by rw [app_size, beS_size]; omega), app_byte, if_neg (by rw [beS_size]; omega), beS_size, Nat.add_sub_cancel_left]
theorem open_fill (s : ByteArray) (h : s.size ≤ 510) : openS (fillS s) = (s, true) := by
  unfold openS
  have hf := fill_first s h
  have ht := fill_text s h
  rw [hf, Int.toNat_natCast, ht, if_pos ⟨fillS_size s h, by omega, rfl⟩]
theorem open_ok (s : ByteArray) (hs : s.size ≤ 140737488355328) : pack_Open.f s = some (openS s) := by
  unfold pack_Open.f openS
  by_cases h : s.size = 512
  · rw [if_pos (by omega)]
    unfold pack_Read.f
    simp only [Option.bind_some]
    rw [rtext_general s (by omega) hs]
    have fn := first2_num s (by omega)
    have b0 := bt_range s 0
    have b1 := bt_range s 1
    have fd : first2 s = bt s 0 * 256 + bt s 1 := rfl
    rw [fn]
    simp only []
    by_cases c : (s.size : Int) < first2 s + 2
    · rw [if_pos c]
      simp only [Option.bind_some]
      rw [fill_ok ⟨#[]⟩ (by show 0 ≤ 510; omega)]
      simp only [Option.bind_some, if_true]
      have ne : ¬ (fillS ⟨#[]⟩).toList = s.toList := by
        intro e
        have e := toList_ext.1 e
        have := fill_first ⟨#[]⟩ (by show 0 ≤ 510; omega)
        rw [e] at this
        have z : (⟨#[]⟩ : ByteArray).size = 0 := rfl
        omega
      rw [if_neg ne, if_neg (by omega)]
    · rw [if_neg c]
      simp only [Option.bind_some]
      have z1 := ext_size s 2 (2 + (first2 s).toNat) (by omega)
      rw [fill_ok _ (by omega)]
      simp only [Option.bind_some, if_true]
      by_cases e : fillS (s.extract 2 (2 + (first2 s).toNat)) = s
      · rw [if_pos (toList_ext.2 e), if_pos ⟨h, by omega, e⟩]
      · rw [if_neg (fun g => e (toList_ext.1 g)), if_neg (fun g => e g.2.2)]
  · rw [if_neg (by omega), if_neg (fun g => h g.1)]
theorem ropen_ok (s : ByteArray) (hs : s.size ≤ 140737488355328) : ∀ k, 20 ≤ k → lockgateref01_Open.f k s = some (openS s) := by
  intro k hk
  unfold lockgateref01_Open.f openS
  by_cases h : s.size = 512
  · have b0 := bt_range s 0
    have b1 := bt_range s 1
    have fd : first2 s = bt s 0 * 256 + bt s 1 := rfl
    rw [if_pos (by omega), if_pos (by omega), if_pos (by omega), w64 (x := bt s 0) (by omega) (by omega), w64 (x := bt s 1) (by omega) (by omega), w64 (x := bt s 0 * 256) (by omega) (by omega), w64 (x := bt s 0 * 256 + bt s 1) (by omega) (by omega), ← fd]
    by_cases c : first2 s > 510
    · rw [if_pos c, if_neg (by omega)]
    · rw [if_neg c, w64 (x := 2 + first2 s) (by omega) (by omega), if_pos (by omega), if_pos (by omega), show (2 + first2 s).toNat = 2 + (first2 s).toNat by omega]
      have z1 := ext_size s 2 (2 + (first2 s).toNat) (by omega)
      rw [rfill_ok _ (by omega) k hk]
      simp only [Option.bind_some]
      by_cases e : fillS (s.extract 2 (2 + (first2 s).toNat)) = s
      · rw [if_pos (toList_ext.2 e), if_pos ⟨h, by omega, e⟩]
      · rw [if_neg (fun g => e (toList_ext.1 g)), if_neg (fun g => e g.2.2)]
  · rw [if_neg (by omega), if_neg (fun g => h g.1)]
end Go.Proofs.Ytfphaiobbpjpkaa.By
