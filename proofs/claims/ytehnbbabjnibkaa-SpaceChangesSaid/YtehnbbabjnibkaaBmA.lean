/- Bits of a text of bytes: plain facts on numbers below 256 and byte lists, for the bitmap's laws. -/
import Derived.Test.YtehnbbabjnibkaaWMore
import Derived.Test.YtehnbbabjnibkaaWMore
import Derived.Lib.BitFns
namespace Go.Proofs.Ytehnbbabjnibkaa.Bm
open Go.RowKit Go.Proofs.YtehnbbabjnibkaaW.PrintWords Go.Proofs.YtehnbbabjnibkaaW.PrintMore
set_option linter.unusedVariables false

theorem w64 {x : Int} (h : -9223372036854775808 ≤ x) (h' : x ≤ 9223372036854775807) : wrap64 x = x := by
  unfold wrap64; omega

/-! ### numbers below 256 -/
theorem and_all : ∀ b : Fin 256, ∀ m : Fin 8, (Go.bits .and .u8 ((b.val : Int) / 2 ^ m.val) 1 == 1) = b.val.testBit m.val := by decide +kernel
def setByte (b m : Nat) (t : Bool) : Int :=
  if t = true then Go.bits .or .u8 (Go.bits .andNot .u8 b ((2 : Int) ^ m % 256)) ((2 : Int) ^ m % 256) else Go.bits .andNot .u8 b ((2 : Int) ^ m % 256)
theorem set_all : ∀ b : Fin 256, ∀ m : Fin 8, ∀ t : Bool, 0 ≤ setByte b.val m.val t ∧ setByte b.val m.val t < 256 ∧ ∀ j : Fin 8, (setByte b.val m.val t).toNat.testBit j.val = if j.val = m.val then t else b.val.testBit j.val := by decide +kernel
theorem ones_all : ∀ b : Fin 256, Go.Lib.onesCount b.val = (List.range 8).countP (fun j => b.val.testBit j) := by decide +kernel
theorem testBit_high {b : Nat} (h : b < 256) {j : Nat} (hj : 8 ≤ j) : b.testBit j = false := by
  apply Nat.testBit_lt_two_pow
  calc b < 2 ^ 8 := h
    _ ≤ 2 ^ j := Nat.pow_le_pow_right (by omega) hj
theorem byte_ext {a b : Nat} (ha : a < 256) (hb : b < 256) (h : ∀ j, j < 8 → a.testBit j = b.testBit j) : a = b := by
  apply Nat.eq_of_testBit_eq
  intro j
  by_cases hj : j < 8
  · exact h j hj
  · rw [testBit_high ha (by omega), testBit_high hb (by omega)]

/-! ### a text's bytes and bits -/
def byteAt (s : ByteArray) (k : Nat) : Nat := (s.data.toList.getD k 0).toNat
theorem byteAt_lt (s : ByteArray) (k : Nat) : byteAt s k < 256 := UInt8.toNat_lt _
def bitOf (s : ByteArray) (i : Nat) : Bool := (byteAt s (i / 8)).testBit (i % 8)
theorem dlen (s : ByteArray) : s.data.toList.length = s.size := by rw [Array.length_toList]; rfl
theorem byteAt_high {s : ByteArray} {k : Nat} (h : s.size ≤ k) : byteAt s k = 0 := by
  unfold byteAt
  rw [List.getD_eq_getElem?_getD, List.getElem?_eq_none (by rw [dlen]; exact h)]; rfl
theorem bitOf_high {s : ByteArray} {i : Nat} (h : 8 * s.size ≤ i) : bitOf s i = false := by
  unfold bitOf; rw [byteAt_high (by omega)]; exact Nat.zero_testBit _
theorem bt_at (s : ByteArray) (i : Int) : bt s i = (byteAt s i.toNat : Int) := by
  unfold bt byteAt
  split
  · rename_i h
    rw [List.getD_eq_getElem?_getD, List.getElem?_eq_getElem (by rw [dlen]; exact h)]
    rfl
  · rename_i h
    rw [List.getD_eq_getElem?_getD, List.getElem?_eq_none (by rw [dlen]; omega)]; rfl
theorem bytes_ext {s t : ByteArray} (hs : s.size = t.size) (h : ∀ k, k < s.size → byteAt s k = byteAt t k) : s = t := by
  have e : s.data.toList = t.data.toList := by
    apply List.ext_getElem (by rw [dlen, dlen, hs])
    intro k h1 h2
    rw [dlen] at h1 h2
    have := h k h1
    unfold byteAt at this
    rw [List.getD_eq_getElem?_getD, List.getD_eq_getElem?_getD, List.getElem?_eq_getElem (by rw [dlen]; exact h1), List.getElem?_eq_getElem (by rw [dlen]; exact h2)] at this
    exact UInt8.toNat_inj.1 this
  cases s; cases t
  congr
  exact Array.toList_inj.1 e
theorem bits_ext {s t : ByteArray} (hs : s.size = t.size) (h : ∀ i, i < 8 * s.size → bitOf s i = bitOf t i) : s = t := by
  refine bytes_ext hs fun k hk => byte_ext (byteAt_lt _ _) (byteAt_lt _ _) fun j hj => ?_
  have := h (8 * k + j) (by omega)
  unfold bitOf at this
  rwa [show (8 * k + j) / 8 = k by omega, show (8 * k + j) % 8 = j by omega] at this
theorem toList_ext {s t : ByteArray} : s.toList = t.toList ↔ s = t := by
  constructor
  · intro h
    rw [ByteArray.toList_eq, ByteArray.toList_eq] at h
    cases s; cases t
    congr
    exact Array.toList_inj.1 h
  · rintro rfl; rfl

/-! ### what Set makes -/
def setBit (s : ByteArray) (i : Nat) (t : Bool) : ByteArray :=
  strOfNums ((bytesOf s).set (i / 8) (setByte (byteAt s (i / 8)) (i % 8) t))
theorem strOfNums_size (xs : List Int) : (strOfNums xs).size = xs.length := by simp [strOfNums, ByteArray.size]
theorem byteAt_nums (xs : List Int) (h : ∀ x ∈ xs, 0 ≤ x ∧ x < 256) (k : Nat) : (byteAt (strOfNums xs) k : Int) = xs.getD k 0 := by
  unfold byteAt strOfNums
  simp only [List.getD_eq_getElem?_getD, List.getElem?_map]
  cases e : xs[k]? with
  | none => rfl
  | some x =>
    have := h x (List.mem_of_getElem? e)
    simp only [Option.map_some, Option.getD_some, UInt8.toNat_ofNat']
    omega
theorem bytesOf_range (s : ByteArray) : ∀ x ∈ bytesOf s, 0 ≤ x ∧ x < 256 := by
  intro x hx
  simp only [bytesOf, List.mem_map] at hx
  obtain ⟨b, _, rfl⟩ := hx
  have := UInt8.toNat_lt b
  omega
theorem bytesOf_getD (s : ByteArray) (k : Nat) : (bytesOf s).getD k 0 = (byteAt s k : Int) := by
  unfold bytesOf byteAt
  simp only [List.getD_eq_getElem?_getD, List.getElem?_map]
  cases s.data.toList[k]? <;> rfl
theorem setBit_size (s : ByteArray) (i : Nat) (t : Bool) : (setBit s i t).size = s.size := by
  unfold setBit; rw [strOfNums_size, List.length_set, bytesOf_length]
theorem setBit_byte (s : ByteArray) (i : Nat) (t : Bool) (hi : i < 8 * s.size) (k : Nat) :
    byteAt (setBit s i t) k = if k = i / 8 then (setByte (byteAt s (i / 8)) (i % 8) t).toNat else byteAt s k := by
  obtain ⟨h0, h1, _⟩ := set_all ⟨byteAt s (i / 8), byteAt_lt _ _⟩ ⟨i % 8, by omega⟩ t
  simp only at h0 h1
  have key : (byteAt (setBit s i t) k : Int) = ((bytesOf s).set (i / 8) (setByte (byteAt s (i / 8)) (i % 8) t)).getD k 0 := by
    refine byteAt_nums _ (fun x hx => ?_) k
    rcases List.mem_or_eq_of_mem_set hx with h | rfl
    · exact bytesOf_range s x h
    · exact ⟨h0, h1⟩
  by_cases e : k = i / 8
  · subst e
    rw [if_pos rfl]
    rw [List.getD_eq_getElem?_getD, List.getElem?_set_self (by rw [bytesOf_length]; omega), Option.getD_some] at key
    omega
  · rw [if_neg e]
    rw [List.getD_eq_getElem?_getD, List.getElem?_set_ne (fun h => e h.symm), ← List.getD_eq_getElem?_getD, bytesOf_getD] at key
    omega
theorem setBit_bit (s : ByteArray) (i : Nat) (t : Bool) (hi : i < 8 * s.size) (j : Nat) :
    bitOf (setBit s i t) j = if j = i then t else bitOf s j := by
  obtain ⟨_, _, h2⟩ := set_all ⟨byteAt s (i / 8), byteAt_lt _ _⟩ ⟨i % 8, by omega⟩ t
  simp only at h2
  unfold bitOf
  rw [setBit_byte s i t hi]
  by_cases e : j / 8 = i / 8
  · rw [if_pos e, h2 ⟨j % 8, by omega⟩]
    by_cases e2 : j % 8 = i % 8
    · rw [if_pos e2, if_pos (by omega)]
    · rw [if_neg e2, if_neg (fun h => e2 (by rw [h])), e]
  · rw [if_neg e, if_neg (fun h => e (by rw [h]))]
theorem setBit_same (s : ByteArray) (i : Nat) (hi : i < 8 * s.size) : setBit s i (bitOf s i) = s := by
  refine bits_ext (setBit_size _ _ _) fun j hj => ?_
  rw [setBit_bit s i _ hi]
  split
  · rename_i e; rw [e]
  · rfl

/-! ### how many are taken -/
def cnt (s : ByteArray) (n : Nat) : Nat := (List.range n).countP (bitOf s)
theorem cnt_succ (s : ByteArray) (n : Nat) : cnt s (n + 1) = cnt s n + if bitOf s n = true then 1 else 0 := by
  unfold cnt
  rw [List.range_succ, List.countP_append]
  simp [List.countP_cons]
theorem cnt_le (s : ByteArray) (n : Nat) : cnt s n ≤ n := by
  have := List.countP_le_length (p := bitOf s) (l := List.range n)
  rwa [List.length_range] at this
theorem cnt_byte (s : ByteArray) (k : Nat) : cnt s (8 * (k + 1)) = cnt s (8 * k) + Go.Lib.onesCount (byteAt s k) := by
  have h : Go.Lib.onesCount (byteAt s k) = _ := ones_all ⟨byteAt s k, byteAt_lt _ _⟩
  have e : (List.range 8).countP (bitOf s ∘ fun x => 8 * k + x) = (List.range 8).countP (fun j => (byteAt s k).testBit j) := by
    apply List.countP_congr
    intro j hj
    rw [List.mem_range] at hj
    simp only [Function.comp, bitOf]
    rw [show (8 * k + j) / 8 = k by omega, show (8 * k + j) % 8 = j by omega]
  rw [h]
  unfold cnt
  rw [show 8 * (k + 1) = 8 * k + 8 by omega, List.range_add, List.countP_append, List.countP_map, e]
theorem cnt_eq {s t : ByteArray} (n : Nat) (h : ∀ i, i < n → bitOf s i = bitOf t i) : cnt s n = cnt t n := by
  unfold cnt
  apply List.countP_congr
  intro i hi
  rw [List.mem_range] at hi
  rw [h i hi]
theorem cnt_set (s : ByteArray) (i : Nat) (t : Bool) (hi : i < 8 * s.size) : ∀ n, cnt (setBit s i t) n + (if i < n ∧ bitOf s i = true then 1 else 0) = cnt s n + (if i < n ∧ t = true then 1 else 0) := by
  intro n
  induction n with
  | zero => simp [cnt]
  | succ n ih =>
    rw [cnt_succ, cnt_succ, setBit_bit s i t hi]
    by_cases e : n = i
    · subst e
      rw [if_neg (by omega), if_neg (by omega)] at ih
      rw [if_pos rfl]
      have : n < n + 1 := by omega
      simp only [this, true_and]
      omega
    · rw [if_neg e]
      have : i < n + 1 ↔ i < n := by omega
      simp only [this]
      omega
/-- Those that are taken, from 0 to below n. -/
def takenTo (s : ByteArray) (n : Nat) : List Int := ((List.range n).filter (bitOf s)).map fun i : Nat => (i : Int)
theorem takenTo_succ (s : ByteArray) (n : Nat) : takenTo s (n + 1) = if bitOf s n = true then takenTo s n ++ [(n : Int)] else takenTo s n := by
  unfold takenTo
  rw [List.range_succ, List.filter_append, List.map_append]
  by_cases h : bitOf s n = true
  · rw [if_pos h]; simp [h]
  · rw [if_neg h]; simp [h]
theorem takenTo_length (s : ByteArray) (n : Nat) : (takenTo s n).length = cnt s n := by
  unfold takenTo cnt; rw [List.length_map, List.countP_eq_length_filter]
/-- The first one that is not taken, from i on, below n. -/
def firstFrom (s : ByteArray) (n : Nat) : Nat → Nat → Int
  | 0, _ => -1
  | d + 1, i => if i < n then if bitOf s i = true then firstFrom s n d (i + 1) else i else -1
end Go.Proofs.Ytehnbbabjnibkaa.Bm
