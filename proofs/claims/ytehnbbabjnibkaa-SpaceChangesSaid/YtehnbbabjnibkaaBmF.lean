/- What the bitmap's functions tell, in terms of bits: for the bitmap's laws. -/
import Derived.Test.YtehnbbabjnibkaaQx2
import Derived.Test.YtehnbbabjnibkaaQx3
import Derived.Test.YtehnbbabjnibkaaQx7
import Derived.Test.YtehnbbabjnibkaaBmA
namespace Go.Proofs.Ytehnbbabjnibkaa.Bm
open Go.RowKit Go.Proofs.Ytehnbbabjnibkaa.Q Go.Proofs.YtehnbbabjnibkaaW.PrintWords Go.Proofs.YtehnbbabjnibkaaW.PrintMore
set_option linter.unusedVariables false

theorem len_ok (s : ByteArray) (hs : s.size ≤ 140737488355328) : bitmap_Len.f s = some (8 * (s.size : Int)) := by
  unfold bitmap_Len.f; rw [w64 (by omega) (by omega)]

theorem has_ok (s : ByteArray) (hs : s.size ≤ 140737488355328) (i : Int) : bitmap_Has.f s i = some (decide (0 ≤ i) && bitOf s i.toNat) := by
  unfold bitmap_Has.f
  by_cases h0 : i ≥ 0
  · rw [if_pos h0, len_ok s hs]
    simp only [Option.bind_some]
    by_cases h1 : i < 8 * (s.size : Int)
    · have e1 : Int.tdiv i 8 = i / 8 := Int.tdiv_eq_ediv_of_nonneg h0
      have e2 : Int.tmod i 8 = i % 8 := Int.tmod_eq_emod_of_nonneg h0
      rw [if_pos h1, e1, e2, w64 (x := i / 8) (by omega) (by omega), if_pos (by omega), if_pos (by omega), if_pos (by omega)]
      congr 1
      rw [decide_eq_true h0, Bool.true_and, bt_at]
      have := and_all ⟨byteAt s (i / 8).toNat, byteAt_lt _ _⟩ ⟨(i % 8).toNat, by omega⟩
      simp only at this
      unfold shr
      rw [show min (i % 8).toNat IntKind.u8.bits = (i % 8).toNat from by simp [IntKind.bits]; omega, this]
      unfold bitOf
      rw [show i.toNat / 8 = (i / 8).toNat by omega, show i.toNat % 8 = (i % 8).toNat by omega]
    · rw [if_neg h1, bitOf_high (by omega), Bool.and_false]
  · rw [if_neg h0, decide_eq_false (by omega), Bool.false_and]

theorem has_nat (s : ByteArray) (hs : s.size ≤ 140737488355328) (i : Nat) : bitmap_Has.f s i = some (bitOf s i) := by
  rw [has_ok s hs, decide_eq_true (by omega), Bool.true_and, Int.toNat_natCast]

theorem set_in (s : ByteArray) (hs : s.size ≤ 140737488355328) (i : Nat) (hi : i < 8 * s.size) (t : Bool) : bitmap_Set.f s i t = some (setBit s i t) := by
  unfold bitmap_Set.f
  rw [if_pos hs, if_neg (by omega), if_neg (by omega)]
  unfold setBit
  rw [show ((i : Int) / 8).toNat = i / 8 by omega, bt_at]
  rw [show ((i : Int) / 8).toNat = i / 8 by omega]
  unfold bitmap_Set.byte setByte
  rw [show ((i : Int) % 8).toNat = i % 8 by omega]

theorem set_out (s : ByteArray) (hs : s.size ≤ 140737488355328) (i : Int) (hi : i < 0 ∨ 8 * (s.size : Int) ≤ i) (t : Bool) : bitmap_Set.f s i t = some s := by
  unfold bitmap_Set.f
  rw [if_pos hs]
  by_cases h : i < 0
  · rw [if_pos h]
  · rw [if_neg h, if_pos (by omega)]

/-- Set, whatever the place. -/
def setI (s : ByteArray) (i : Int) (t : Bool) : ByteArray := if 0 ≤ i ∧ i < 8 * (s.size : Int) then setBit s i.toNat t else s
theorem set_ok (s : ByteArray) (hs : s.size ≤ 140737488355328) (i : Int) (t : Bool) : bitmap_Set.f s i t = some (setI s i t) := by
  unfold setI
  by_cases h : 0 ≤ i ∧ i < 8 * (s.size : Int)
  · rw [if_pos h]
    have := set_in s hs i.toNat (by omega) t
    rwa [Int.toNat_of_nonneg h.1] at this
  · rw [if_neg h]
    exact set_out s hs i (by omega) t
theorem setI_size (s : ByteArray) (i : Int) (t : Bool) : (setI s i t).size = s.size := by
  unfold setI; split
  · exact setBit_size _ _ _
  · rfl
theorem setI_bit (s : ByteArray) (i : Int) (t : Bool) (j : Nat) (hj : j < 8 * s.size) : bitOf (setI s i t) j = if (j : Int) = i then t else bitOf s j := by
  unfold setI; split
  · rename_i h
    rw [setBit_bit s i.toNat t (by omega)]
    by_cases e : j = i.toNat
    · rw [if_pos e, if_pos (by omega)]
    · rw [if_neg e, if_neg (by omega)]
  · rename_i h
    rw [if_neg (by omega)]

theorem count_loop (s : ByteArray) (hs : s.size ≤ 140737488355328) (d : Nat) : ∀ (k i : Nat), i + d = s.size → d < k →
    bitmap_Count.l0 k s (cnt s (8 * i)) s.size i = some ((cnt s (8 * s.size) : Nat) : Int) := by
  induction d with
  | zero =>
    intro k i hi hk
    obtain ⟨k, rfl⟩ : ∃ m, k = m + 1 := ⟨k - 1, by omega⟩
    simp only [bitmap_Count.l0]
    rw [if_neg (by omega), show i = s.size by omega]
  | succ d ih =>
    intro k i hi hk
    obtain ⟨k, rfl⟩ : ∃ m, k = m + 1 := ⟨k - 1, by omega⟩
    simp only [bitmap_Count.l0]
    have hb := byteAt_lt s i
    have hc := cnt_le s (8 * (i + 1))
    have hcb := cnt_byte s i
    rw [if_pos (by omega), if_pos (by omega), if_pos (by omega), bt_at, Int.toNat_natCast]
    unfold bits_OnesCount8.f
    rw [if_pos (by omega)]
    simp only [Option.bind_some, Int.toNat_natCast]
    rw [w64 (x := (cnt s (8 * i) : Int) + _) (by omega) (by omega), w64 (x := (i : Int) + 1) (by omega) (by omega)]
    have := ih k (i + 1) (by omega) (by omega)
    rw [hcb] at this
    push_cast at this ⊢
    exact this
theorem count_ok (s : ByteArray) (hs : s.size ≤ 140737488355328) : ∀ k, s.size < k → bitmap_Count.f k s = some ((cnt s (8 * s.size) : Nat) : Int) := by
  intro k hk
  have := count_loop s hs s.size k 0 (by omega) hk
  simpa [bitmap_Count.f, cnt] using this

theorem first_loop (s : ByteArray) (hs : s.size ≤ 140737488355328) (d : Nat) : ∀ (k i : Nat), 8 * s.size ≤ i + d → d < k →
    bitmap_First.l0 k s i = some (firstFrom s (8 * s.size) d i) := by
  induction d with
  | zero =>
    intro k i hi hk
    obtain ⟨k, rfl⟩ : ∃ m, k = m + 1 := ⟨k - 1, by omega⟩
    simp only [bitmap_First.l0]
    rw [len_ok s hs]
    simp only [Option.bind_some]
    rw [if_neg (by omega)]; rfl
  | succ d ih =>
    intro k i hi hk
    obtain ⟨k, rfl⟩ : ∃ m, k = m + 1 := ⟨k - 1, by omega⟩
    simp only [bitmap_First.l0]
    rw [len_ok s hs]
    simp only [Option.bind_some, firstFrom]
    by_cases h : i < 8 * s.size
    · rw [if_pos (by omega), if_pos h, has_nat s hs]
      simp only [Option.bind_some]
      by_cases hb : bitOf s i = true
      · rw [if_pos hb, if_pos hb, w64 (x := (i : Int) + 1) (by omega) (by omega)]
        exact ih k (i + 1) (by omega) (by omega)
      · rw [if_neg hb, if_neg hb]
    · rw [if_neg (by omega), if_neg h]
/-- The first one that is not taken, from where it is asked on. -/
def firstOf (s : ByteArray) (from_ : Int) : Int := firstFrom s (8 * s.size) (8 * s.size - from_.toNat) from_.toNat
theorem first_ok (s : ByteArray) (hs : s.size ≤ 140737488355328) (a : Int) (ha : a ≤ 9223372036854775807) : ∀ k, 8 * s.size < k → bitmap_First.f k s a = some (firstOf s a) := by
  intro k hk
  have := first_loop s hs (8 * s.size - a.toNat) k a.toNat (by omega) (by omega)
  unfold bitmap_First.f firstOf
  rw [show mx a 0 = (a.toNat : Int) from by unfold mx; split <;> omega]
  exact this
theorem firstFrom_is (s : ByteArray) (n d : Nat) : ∀ i, n ≤ i + d →
    (firstFrom s n d i = -1 ∧ ∀ j, i ≤ j → j < n → bitOf s j = true) ∨
    ∃ r : Nat, firstFrom s n d i = r ∧ i ≤ r ∧ r < n ∧ bitOf s r = false ∧ ∀ j, i ≤ j → j < r → bitOf s j = true := by
  induction d with
  | zero => intro i hi; exact .inl ⟨rfl, fun j _ _ => by omega⟩
  | succ d ih =>
    intro i hi
    simp only [firstFrom]
    by_cases h : i < n
    · rw [if_pos h]
      by_cases hb : bitOf s i = true
      · rw [if_pos hb]
        rcases ih (i + 1) (by omega) with ⟨h1, h2⟩ | ⟨r, h1, h2, h3, h4, h5⟩
        · refine .inl ⟨h1, fun j hj hn => ?_⟩
          by_cases e : j = i
          · rw [e]; exact hb
          · exact h2 j (by omega) hn
        · refine .inr ⟨r, h1, by omega, h3, h4, fun j hj hn => ?_⟩
          by_cases e : j = i
          · rw [e]; exact hb
          · exact h5 j (by omega) hn
      · rw [if_neg hb]
        exact .inr ⟨i, rfl, Nat.le_refl _, h, by simpa using hb, fun j _ _ => by omega⟩
    · rw [if_neg h]; exact .inl ⟨rfl, fun j _ _ => by omega⟩
theorem firstOf_is (s : ByteArray) (a : Int) :
    (firstOf s a = -1 ∧ ∀ j, a.toNat ≤ j → j < 8 * s.size → bitOf s j = true) ∨
    ∃ r : Nat, firstOf s a = r ∧ a.toNat ≤ r ∧ r < 8 * s.size ∧ bitOf s r = false ∧ ∀ j, a.toNat ≤ j → j < r → bitOf s j = true :=
  firstFrom_is s _ _ _ (by omega)

/-! ### New -/
def zeros (n : Nat) : ByteArray := ⟨(List.replicate n 0).toArray⟩
theorem zeros_size (n : Nat) : (zeros n).size = n := by simp [zeros, ByteArray.size]
theorem zeros_byte (n k : Nat) : byteAt (zeros n) k = 0 := by
  unfold byteAt zeros
  simp only [List.getD_eq_getElem?_getD]
  cases e : (List.replicate n (0 : UInt8))[k]? with
  | none => rfl
  | some x =>
    have := List.mem_of_getElem? e
    rw [List.mem_replicate] at this
    rw [this.2]; rfl
theorem zeros_bit (n i : Nat) : bitOf (zeros n) i = false := by unfold bitOf; rw [zeros_byte]; exact Nat.zero_testBit _
/-- How many bytes so many bits need. -/
def need (n : Int) : Nat := ((min (max n 0) 4000 + 7) / 8).toNat
theorem need_le (n : Int) : need n ≤ 500 := by unfold need; omega
theorem size_ok (n : Int) : bitmap_size.f n = some (need n : Int) := by
  unfold bitmap_size.f need
  congr 1
  have h1 : mx n 0 = max n 0 := by unfold mx; split <;> omega
  have h2 : mn (mx n 0) 4000 = min (max n 0) 4000 := by rw [h1]; unfold mn; split <;> omega
  rw [h2]
  omega
end Go.Proofs.Ytehnbbabjnibkaa.Bm
