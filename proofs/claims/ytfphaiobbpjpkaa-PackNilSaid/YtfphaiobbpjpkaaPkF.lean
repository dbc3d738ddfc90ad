/- What the functions of package pack tell, in terms of bytes: for the laws of chapter 1 and those above. -/
import Derived.Test.YtfphaiobbpjpkaaQx1
import Derived.Test.YtfphaiobbpjpkaaByA
namespace Go.Proofs.Ytfphaiobbpjpkaa.By
open Go.RowKit Go.Proofs.Ytfphaiobbpjpkaa.Bm Go.Proofs.Ytfphaiobbpjpkaa.Q Go.Proofs.YtfphaiobbpjpkaaW.PrintWords Go.Proofs.YtfphaiobbpjpkaaW.PrintMore
set_option linter.unusedVariables false

theorem two_ok (n : Int) (h0 : 0 ≤ n) (h1 : n < 65536) : pack_Two.f n = some (beS n 2) := by
  unfold pack_Two.f pack_number_uint16.f
  rw [if_pos ⟨h0, h1, by omega, by omega⟩]
  rfl
theorem four_ok (n : Int) (h0 : 0 ≤ n) (h1 : n < 4294967296) : pack_Four.f n = some (beS n 4) := by
  unfold pack_Four.f pack_number_uint32.f
  rw [if_pos ⟨h0, h1, by omega, by omega⟩]
  rfl
def zeros (n : Nat) : ByteArray := ⟨(List.replicate n 0).toArray⟩
theorem zeros_size (n : Nat) : (zeros n).size = n := by simp [zeros, ByteArray.size]
theorem repeat_zero (c : Nat) : Go.Lib.repeatL [0] c = List.replicate c (0 : UInt8) := by
  induction c with
  | zero => rfl
  | succ c ih => rw [List.replicate_succ, ← ih]; rfl
theorem repeat_ok (n : Nat) (h : n ≤ 100000) : strings_Repeat.f (⟨#[0]⟩ : ByteArray) n = some (zeros n) := by
  unfold strings_Repeat.f
  rw [if_pos ⟨by omega, by omega, by rw [Int.toNat_natCast]; show 1 * n ≤ _; omega⟩, Int.toNat_natCast]
  rw [show (⟨#[0]⟩ : ByteArray).data.toList = [0] from rfl, repeat_zero]; rfl
/-- A sector of a text. -/
def fillS (s : ByteArray) : ByteArray := beS s.size 2 ++ s ++ zeros (510 - s.size)
theorem fillS_size (s : ByteArray) (h : s.size ≤ 510) : (fillS s).size = 512 := by
  unfold fillS; rw [app_size, app_size, beS_size, zeros_size]; omega
theorem fill_ok (s : ByteArray) (h : s.size ≤ 510) : pack_Fill.f s = some (fillS s, 0) := by
  unfold pack_Fill.f
  rw [if_pos (by omega), if_neg (by omega), two_ok _ (by omega) (by omega)]
  simp only [Option.bind_some]
  rw [if_pos (by rw [beS_size]; omega), show 510 - (s.size : Int) = ((510 - s.size : Nat) : Int) by omega, repeat_ok _ (by omega)]
  simp only [Option.bind_some]
  rw [if_pos (by rw [zeros_size]; omega)]
  rfl
theorem fill_bad (s : ByteArray) (h : 510 < s.size) (h' : s.size ≤ 140737488355328) : pack_Fill.f s = some (⟨#[]⟩, 11) := by
  unfold pack_Fill.f
  rw [if_pos h', if_pos (by omega)]
theorem text_ok (s : ByteArray) (h : s.size ≤ 65535) : pack_Text.f s = some (beS s.size 2 ++ s, 0) := by
  unfold pack_Text.f
  rw [if_neg (by omega), show IntKind.u16.wrap (s.size : Int) = s.size from IntWalk.u16_in _ ⟨by omega, by omega⟩, two_ok _ (by omega) (by omega)]
  simp only [Option.bind_some]
  rw [if_pos (by rw [beS_size]; omega)]
theorem text_bad (s : ByteArray) (h : 65535 < s.size) : pack_Text.f s = some (⟨#[]⟩, 11) := by
  unfold pack_Text.f
  rw [if_pos (by omega)]

/-! ### reading -/
theorem take_ok (s : ByteArray) (n : Nat) (h : n ≤ s.size) : pack_Reader_take.f s false n = some (s.extract 0 n, true, s.extract n s.size, false) := by
  unfold pack_Reader_take.f
  rw [if_neg (by simp), if_neg (by omega), if_neg (by omega), if_pos (by omega), if_pos (by omega), Int.toNat_natCast, decide_eq_false (by omega)]
theorem take_bad (s : ByteArray) (b : Bool) (n : Int) (h : b = true ∨ n < 0 ∨ (s.size : Int) < n) : pack_Reader_take.f s b n = some (⟨#[]⟩, false, s, true) := by
  unfold pack_Reader_take.f
  cases b with
  | true => rw [if_pos rfl]
  | false =>
    rw [if_neg (by simp)]
    by_cases h1 : n < 0
    · rw [if_pos h1]
    · have h2 : n > (s.size : Int) := by rcases h with h | h | h <;> first | cases h | omega
      rw [if_neg h1, if_pos h2, decide_eq_true h2]
theorem or_small (n b : Int) (h0 : 0 ≤ n) (h1 : n < 72057594037927936) (hb0 : 0 ≤ b) (hb1 : b < 256) : pack_Reader_number.step n b = n * 256 + b := by
  unfold pack_Reader_number.step
  rw [show IntKind.u64.wrap (n * 256) = n * 256 from IntWalk.u64_in _ ⟨by omega, by omega⟩]
  obtain ⟨m, rfl⟩ : ∃ m : Nat, n = m := ⟨n.toNat, by omega⟩
  obtain ⟨c, rfl⟩ : ∃ c : Nat, b = c := ⟨b.toNat, by omega⟩
  have e : (BitVec.ofInt IntKind.u64.bits ((m : Int) * 256) ||| BitVec.ofInt IntKind.u64.bits (c : Int)).toNat = m * 256 + c := by
    rw [BitVec.toNat_or]
    have e1 : (BitVec.ofInt IntKind.u64.bits ((m : Int) * 256)).toNat = m * 256 := by
      rw [show ((m : Int) * 256) = ((m * 256 : Nat) : Int) by omega, BitVec.ofInt_natCast, BitVec.toNat_ofNat]
      exact Nat.mod_eq_of_lt (show m * 256 < 18446744073709551616 by omega)
    have e2 : (BitVec.ofInt IntKind.u64.bits (c : Int)).toNat = c := by
      rw [BitVec.ofInt_natCast, BitVec.toNat_ofNat]
      exact Nat.mod_eq_of_lt (show c < 18446744073709551616 by omega)
    rw [e1, e2]
    have := Nat.shiftLeft_add_eq_or_of_lt (show c < 2 ^ 8 by omega) m
    rw [Nat.shiftLeft_eq, show (2 : Nat) ^ 8 = 256 from rfl] at this
    omega
  show IntKind.u64.wrap ((BitVec.ofInt IntKind.u64.bits ((m : Int) * 256) ||| BitVec.ofInt IntKind.u64.bits (c : Int)).toNat : Int) = _
  rw [e, show IntKind.u64.wrap ((m * 256 + c : Nat) : Int) = ((m * 256 + c : Nat) : Int) from IntWalk.u64_in _ ⟨by omega, by omega⟩]
  omega
theorem pow_small : ∀ n : Fin 8, (256 : Int) ^ n.val ≤ 72057594037927936 := by decide +kernel
theorem pow2 : (256 : Int) ^ 2 = 65536 := by decide
theorem fold_num (n : Nat) : ∀ xs : List Int, xs.length = n → n ≤ 8 → (∀ x ∈ xs, 0 ≤ x ∧ x < 256) → xs.foldl pack_Reader_number.step 0 = num xs := by
  induction n with
  | zero => intro xs hl _ _; rw [List.eq_nil_of_length_eq_zero hl]; rfl
  | succ n ih =>
    intro xs hl hn h
    obtain ⟨l, b, rfl, hm⟩ := snoc_of hl
    have hb := h b (by simp)
    have hl' : ∀ x ∈ l, 0 ≤ x ∧ x < 256 := fun x hx => h x (by simp [hx])
    rw [List.foldl_append, ih l hm (by omega) hl', num_snoc]
    simp only [List.foldl_cons, List.foldl_nil]
    have hnn := num_nonneg l hl'
    have hp : (256 : Int) ^ l.length ≤ 72057594037927936 := pow_small ⟨l.length, by omega⟩
    exact or_small _ _ hnn.1 (by omega) hb.1 hb.2
theorem of_num (s : ByteArray) (h : s.size ≤ 8) : pack_Reader_number.of s = num (bytesOf s) := fold_num _ _ (bytesOf_length s) h (bytesOf_range s)
theorem number_ok (s : ByteArray) (k : Nat) (hk : k ≤ 8) (h : k ≤ s.size) (hs : s.size ≤ 9223372036854775807) :
    pack_Reader_number.f s false k = some (num (bytesOf (s.extract 0 k)), s.extract k s.size, false) := by
  unfold pack_Reader_number.f
  rw [if_pos hs, take_ok s k h]
  simp only [Option.bind_some]
  rw [of_num _ (by rw [ext_size _ _ _ h]; omega)]
theorem number_bad (s : ByteArray) (b : Bool) (k : Nat) (h : b = true ∨ s.size < k) (hs : s.size ≤ 9223372036854775807) :
    pack_Reader_number.f s b k = some (0, s, true) := by
  unfold pack_Reader_number.f
  rw [if_pos hs, take_bad s b k (by rcases h with h | h; · exact .inl h
                                    · exact .inr (.inr (by omega)))]
  rfl
theorem num_lt (s : ByteArray) (k : Nat) (h : k ≤ s.size) : 0 ≤ num (bytesOf (s.extract 0 k)) ∧ num (bytesOf (s.extract 0 k)) < 256 ^ k := by
  have := num_nonneg (bytesOf (s.extract 0 k)) (bytesOf_range _)
  rwa [bytesOf_length, ext_size _ _ _ h] at this
theorem num_beS (n : Int) (k : Nat) (rest : ByteArray) (h0 : 0 ≤ n) (h1 : n < 256 ^ k) : num (bytesOf ((beS n k ++ rest).extract 0 k)) = n := by
  have e : (beS n k ++ rest).extract 0 k = beS n k := by
    have := ext_fst (beS n k) rest
    rwa [beS_size] at this
  rw [e]
  unfold beS
  rw [bytesOf_nums _ (be_range _ _), num_be]
  exact Int.emod_eq_of_lt h0 h1
theorem rest_beS (n : Int) (k : Nat) (rest : ByteArray) : (beS n k ++ rest).extract k (beS n k ++ rest).size = rest := by
  have := ext_cut (beS n k) rest
  rwa [beS_size] at this
theorem rtwo_ok (s : ByteArray) (h : 2 ≤ s.size) (hs : s.size ≤ 9223372036854775807) : pack_Reader_Two.f s false = some (num (bytesOf (s.extract 0 2)), s.extract 2 s.size, false) := by
  have hn := num_lt s 2 h
  unfold pack_Reader_Two.f
  have e := number_ok s 2 (by omega) h hs
  rw [show ((2 : Nat) : Int) = 2 from rfl] at e
  rw [pow2] at hn
  rw [e]
  simp only [Option.bind_some]
  rw [w64 (by omega) (by omega)]
theorem rtwo_bad (s : ByteArray) (b : Bool) (h : b = true ∨ s.size < 2) (hs : s.size ≤ 9223372036854775807) : pack_Reader_Two.f s b = some (0, s, true) := by
  unfold pack_Reader_Two.f
  have e := number_bad s b 2 h hs
  rw [show ((2 : Nat) : Int) = 2 from rfl] at e
  rw [e]
  simp only [Option.bind_some]
  rw [w64 (by omega) (by omega)]
/-- What Text reads: a text of its length, or nothing. -/
theorem rtext_ok (s rest : ByteArray) (h : s.size ≤ 65535) (hs : rest.size ≤ 140737488355328) : pack_Reader_Text.f (beS s.size 2 ++ s ++ rest) false = some (s, rest, false) := by
  unfold pack_Reader_Text.f
  rw [app_assoc, rtwo_ok _ (by rw [app_size, beS_size]; omega) (by rw [app_size, app_size, beS_size]; omega)]
  simp only [Option.bind_some]
  rw [num_beS _ _ _ (by omega) (by rw [pow2]; omega), rest_beS, take_ok _ _ (by rw [app_size]; omega)]
  simp only [Option.bind_some]
  rw [ext_fst, ext_cut]
theorem rtext_general (s : ByteArray) (h2 : 2 ≤ s.size) (hs : s.size ≤ 140737488355328) :
    pack_Reader_Text.f s false = (let n := num (bytesOf (s.extract 0 2)); if (s.size : Int) < n + 2 then some (⟨#[]⟩, s.extract 2 s.size, true) else some (s.extract 2 (2 + n.toNat), s.extract (2 + n.toNat) s.size, false)) := by
  have hn := num_lt s 2 h2
  unfold pack_Reader_Text.f
  rw [rtwo_ok s h2 (by omega)]
  simp only [Option.bind_some]
  have hz := ext_size s 2 s.size (Nat.le_refl _)
  generalize num (bytesOf (s.extract 0 2)) = n at hn ⊢
  by_cases c : (s.size : Int) < n + 2
  · rw [if_pos c, take_bad _ _ _ (.inr (.inr (by omega)))]; rfl
  · rw [if_neg c]
    obtain ⟨m, rfl⟩ : ∃ m : Nat, n = m := ⟨n.toNat, by omega⟩
    rw [take_ok _ m (by omega)]
    simp only [Option.bind_some, Int.toNat_natCast]
    congr 2
    · have z1 := ext_size (s.extract 2 s.size) 0 m (by omega)
      have z2 := ext_size s 2 (2 + m) (by omega)
      refine bytes_ext (by rw [z1, z2]; omega) fun j hj => ?_
      rw [z1] at hj
      rw [ext_byte _ _ _ _ (by omega) (by omega), ext_byte s 2 s.size _ (Nat.le_refl _) (by omega), ext_byte s 2 (2 + m) _ (by omega) (by omega), Nat.zero_add]
    · congr 1
      have z1 := ext_size (s.extract 2 s.size) m _ (Nat.le_refl _)
      have z2 := ext_size s (2 + m) s.size (Nat.le_refl _)
      refine bytes_ext (by rw [z1, z2, hz]; omega) fun j hj => ?_
      rw [z1, hz] at hj
      rw [ext_byte _ _ _ _ (Nat.le_refl _) (by omega), ext_byte s 2 s.size _ (Nat.le_refl _) (by omega), ext_byte s (2 + m) s.size _ (Nat.le_refl _) (by omega)]
      congr 1; omega
theorem rend_ok (s : ByteArray) (b : Bool) : pack_Reader_End.f s b = some (if b = true ∨ s.size ≠ 0 then 10 else 0, s, b) := by
  unfold pack_Reader_End.f
  cases b with
  | true => simp
  | false =>
    rw [if_neg (by simp)]
    by_cases h : s.size = 0
    · rw [if_pos (toList_nil.2 (nil_of_size h)), if_neg (by simp [h])]
    · rw [if_neg (fun e => h (by rw [toList_nil.1 e]; rfl)), if_pos (.inr h)]
end Go.Proofs.Ytfphaiobbpjpkaa.By
