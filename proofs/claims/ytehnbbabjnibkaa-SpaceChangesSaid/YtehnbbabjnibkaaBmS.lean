/- What the reference's Set tells: the same text as the bitmap's own. -/
import Derived.Test.YtehnbbabjnibkaaQx5
import Derived.Test.YtehnbbabjnibkaaBmR
namespace Go.Proofs.Ytehnbbabjnibkaa.Bm
open Go.RowKit Go.Proofs.Ytehnbbabjnibkaa.Q Go.Proofs.YtehnbbabjnibkaaW.PrintWords Go.Proofs.YtehnbbabjnibkaaW.PrintMore
set_option linter.unusedVariables false

/-- A byte whose bit m is not t: with 2^m more or less it is. -/
theorem flip_all : ∀ b : Fin 256, ∀ m : Fin 8, ∀ t : Bool, b.val.testBit m.val ≠ t → (if t = true then ((b.val : Int) + 2 ^ m.val) % 256 else ((b.val : Int) - 2 ^ m.val) % 256) = setByte b.val m.val t := by decide +kernel

theorem extract_byte (s : ByteArray) (a b k : Nat) (hb : b ≤ s.size) (hk : k < b - a) : byteAt (s.extract a b) k = byteAt s (a + k) := by
  unfold byteAt
  rw [ByteArray.data_extract, List.getD_eq_getElem?_getD, List.getD_eq_getElem?_getD]
  congr 2
  rw [Array.getElem?_toList, Array.getElem?_toList, Array.getElem?_extract]
  rw [if_pos (by have : s.data.size = s.size := rfl; omega)]
theorem append_byte (s t : ByteArray) (k : Nat) : byteAt (s ++ t) k = if k < s.size then byteAt s k else byteAt t (k - s.size) := by
  unfold byteAt
  rw [ByteArray.data_append, Array.toList_append, List.getD_eq_getElem?_getD]
  by_cases h : k < s.size
  · rw [if_pos h, List.getElem?_append_left (by rw [dlen]; exact h), List.getD_eq_getElem?_getD]
  · rw [if_neg h, List.getElem?_append_right (by rw [dlen]; omega), dlen, List.getD_eq_getElem?_getD]

/-- One byte of a text is another one. -/
theorem spliced (s : ByteArray) (k : Nat) (hk : k < s.size) (v : Int) (h0 : 0 ≤ v) (h1 : v < 256) :
    s.extract 0 k ++ strOfNums [v] ++ s.extract (k + 1) s.size = strOfNums ((bytesOf s).set k v) := by
  have z1 : (s.extract 0 k).size = k := by rw [ByteArray.size_extract]; omega
  have z2 : (strOfNums [v]).size = 1 := strOfNums_size _
  have z3 : (s.extract (k + 1) s.size).size = s.size - (k + 1) := by rw [ByteArray.size_extract]; omega
  have z4 : (strOfNums ((bytesOf s).set k v)).size = s.size := by rw [strOfNums_size, List.length_set, bytesOf_length]
  refine bytes_ext (by rw [ByteArray.size_append, ByteArray.size_append, z1, z2, z3, z4]; omega) fun j hj => ?_
  have key : (byteAt (strOfNums ((bytesOf s).set k v)) j : Int) = ((bytesOf s).set k v).getD j 0 := byteAt_nums _ (fun x hx => by
    rcases List.mem_or_eq_of_mem_set hx with h | rfl
    · exact bytesOf_range s x h
    · exact ⟨h0, h1⟩) j
  have kv : (byteAt (strOfNums [v]) 0 : Int) = v := byteAt_nums [v] (fun x hx => by simp at hx; subst hx; exact ⟨h0, h1⟩) 0
  rw [ByteArray.size_append, ByteArray.size_append, z1, z2, z3] at hj
  rw [append_byte, ByteArray.size_append, z1, z2]
  by_cases c1 : j < k + 1
  · rw [if_pos c1, append_byte, z1]
    by_cases c2 : j < k
    · rw [if_pos c2, extract_byte s 0 k j (by omega) (by omega), Nat.zero_add]
      rw [List.getD_eq_getElem?_getD, List.getElem?_set_ne (by omega), ← List.getD_eq_getElem?_getD, bytesOf_getD] at key
      omega
    · obtain rfl : j = k := by omega
      rw [if_neg c2, Nat.sub_self]
      rw [List.getD_eq_getElem?_getD, List.getElem?_set_self (by rw [bytesOf_length]; omega), Option.getD_some] at key
      omega
  · rw [if_neg c1, extract_byte s (k + 1) s.size _ (Nat.le_refl _) (by omega), show k + 1 + (j - (k + 1)) = j by omega]
    rw [List.getD_eq_getElem?_getD, List.getElem?_set_ne (by omega), ← List.getD_eq_getElem?_getD, bytesOf_getD] at key
    omega

theorem rset_w (s : ByteArray) (x1 : Int) (t : Bool) (m : Nat) (hm : m < 8) (hx : Int.tmod x1 8 = m) (d : Nat) : ∀ (k j : Nat), j + d = m → d < k →
    lockgateref03_Set.l0 k s x1 t ((2 ^ j : Nat) : Int) j = lockgateref03_Set.l0 (k - d) s x1 t ((2 ^ m : Nat) : Int) m := by
  induction d with
  | zero => intro k j hj hk; rw [Nat.sub_zero, show j = m by omega]
  | succ d ih =>
    intro k j hj hk
    obtain ⟨k, rfl⟩ : ∃ q, k = q + 1 := ⟨k - 1, by omega⟩
    rw [show k + 1 - (d + 1) = k - d by omega, ← ih k (j + 1) (by omega) (by omega)]
    conv => lhs; simp only [lockgateref03_Set.l0]
    have h2 : (2 : Nat) ^ j ≤ 2 ^ 7 := Nat.pow_le_pow_right (by omega) (by omega)
    rw [hx, if_pos (by omega), Nat.pow_succ]
    generalize (2 : Nat) ^ j = q at h2 ⊢
    rw [w64 (x := (q : Int) * 2) (by omega) (by omega), w64 (x := (j : Int) + 1) (by omega) (by omega)]
    push_cast
    rfl

theorem rset_ok (s : ByteArray) (hs : s.size ≤ 100000) (i : Int) (hi : i ≤ 9223372036854775807) (hl : -9223372036854775808 ≤ i) (t : Bool) : ∀ k, 30 ≤ k → lockgateref03_Set.f k s i t = some (setI s i t) := by
  intro k hk
  obtain ⟨k, rfl⟩ : ∃ q, k = q + 1 := ⟨k - 1, by omega⟩
  unfold lockgateref03_Set.f setI
  by_cases h0 : i < 0
  · rw [if_pos h0, if_neg (by omega)]
    simp [lockgateref03_Set.j0]
  · have e1 : Int.tdiv i 8 = i / 8 := Int.tdiv_eq_ediv_of_nonneg (by omega)
    rw [if_neg h0, e1, w64 (x := i / 8) (by omega) (by omega)]
    by_cases h1 : i / 8 ≥ (s.size : Int)
    · rw [if_pos h1, if_neg (by omega)]
      simp [lockgateref03_Set.j0]
    · rw [if_neg h1, if_pos (by omega), rhas_ok s (by omega) i hi hl (k + 1) (by omega), decide_eq_true (by omega), Bool.true_and]
      simp only [Option.bind_some]
      obtain ⟨n, rfl⟩ : ∃ n : Nat, i = n := ⟨i.toNat, by omega⟩
      rw [Int.toNat_natCast]
      simp only [lockgateref03_Set.j0]
      by_cases h2 : bitOf s n = t
      · rw [if_pos (by simpa using h2), ← h2, setBit_same s n (by omega)]
      · rw [if_neg (by simpa using h2)]
        have hm : Int.tmod (n : Int) 8 = (n % 8 : Nat) := by rw [Int.tmod_eq_emod_of_nonneg (by omega)]; omega
        have step := rset_w s n t (n % 8) (by omega) hm (n % 8) k 0 (by omega) (by omega)
        simp only [Nat.pow_zero] at step
        refine Eq.trans step ?_
        obtain ⟨q, hq⟩ : ∃ q, k - n % 8 = q + 1 := ⟨k - n % 8 - 1, by omega⟩
        have hb := byteAt_lt s (n / 8)
        have fl := flip_all ⟨byteAt s (n / 8), hb⟩ ⟨n % 8, by omega⟩ t h2
        simp only at fl
        obtain ⟨v0, v1, _⟩ := set_all ⟨byteAt s (n / 8), hb⟩ ⟨n % 8, by omega⟩ t
        simp only at v0 v1
        have hp : (2 : Nat) ^ (n % 8) ≤ 2 ^ 7 := Nat.pow_le_pow_right (by omega) (by omega)
        have e2 : Int.tdiv (n : Int) 8 = (n / 8 : Nat) := by rw [Int.tdiv_eq_ediv_of_nonneg (by omega)]; rfl
        have sz1 : (s.extract 0 (n / 8)).size = n / 8 := by rw [ByteArray.size_extract]; omega
        have sz3 : (s.extract (n / 8 + 1) s.size).size = s.size - (n / 8 + 1) := by rw [ByteArray.size_extract]; omega
        have szv : ∀ v : Int, (strOfNums [v]).size = 1 := fun v => strOfNums_size _
        rw [hq]
        simp only [lockgateref03_Set.l0]
        rw [hm, if_neg (by omega), e2, w64 (x := ((n / 8 : Nat) : Int)) (by omega) (by omega), if_pos (by omega), if_pos (by omega), w64 (x := ((n / 8 : Nat) : Int) + 1) (by omega) (by omega)]
        simp only [Int.toNat_natCast, show (((n / 8 : Nat) : Int) + 1).toNat = n / 8 + 1 by omega]
        have hbt : bt s ((n / 8 : Nat) : Int) = (byteAt s (n / 8) : Int) := by rw [bt_at, Int.toNat_natCast]
        rw [hbt, w64 (x := (byteAt s (n / 8) : Int)) (by omega) (by omega)]
        have cc : (((2 : Nat) ^ (n % 8) : Nat) : Int) = 2 ^ (n % 8) := by push_cast; rfl
        unfold setBit
        cases t with
        | true =>
          rw [if_pos rfl] at fl
          rw [if_pos rfl, if_pos (by omega)]
          rw [← cc] at fl
          generalize (2 : Nat) ^ (n % 8) = pw at fl hp ⊢
          rw [w64 (x := (byteAt s (n / 8) : Int) + (pw : Int)) (by omega) (by omega), fl]
          simp only [Option.bind_some]
          rw [if_pos (by rw [sz1, szv]; omega), if_pos (by omega), if_pos (by omega), if_pos (by rw [ByteArray.size_append, sz1, szv, sz3]; omega)]
          rw [spliced s (n / 8) (by omega) _ v0 v1]
        | false =>
          rw [if_neg (by simp)] at fl
          rw [if_neg (by simp), if_pos (by omega)]
          rw [← cc] at fl
          generalize (2 : Nat) ^ (n % 8) = pw at fl hp ⊢
          rw [w64 (x := (byteAt s (n / 8) : Int) - (pw : Int)) (by omega) (by omega), fl]
          simp only [Option.bind_some]
          rw [if_pos (by rw [sz1, szv]; omega), if_pos (by omega), if_pos (by omega), if_pos (by rw [ByteArray.size_append, sz1, szv, sz3]; omega)]
          rw [spliced s (n / 8) (by omega) _ v0 v1]
end Go.Proofs.Ytehnbbabjnibkaa.Bm
