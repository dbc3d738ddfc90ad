/- Numbers put and read: what Two, Four and their readers tell (for seats that put no texts). -/
import Derived.Test.YtgmbmkjdfmoanaaDoorQx5
import Derived.Test.YtgmbmkjdfmoanaaDoorQx13
import Derived.Test.YtgmbmkjdfmoanaaDoorQx14
import Derived.Test.YtgmbmkjdfmoanaaDoorByA
namespace Go.Proofs.YtgmbmkjdfmoanaaDoor.By
open Go.RowKit Go.Proofs.YtgmbmkjdfmoanaaDoor.Bm Go.Proofs.YtgmbmkjdfmoanaaDoor.Q Go.Proofs.YtgmbmkjdfmoanaaDoorW.PrintWords Go.Proofs.YtgmbmkjdfmoanaaDoorW.PrintMore
set_option linter.unusedVariables false
theorem two_ok (n : Int) (h0 : 0 ≤ n) (h1 : n < 65536) : pack_Two.f n = some (beS n 2) := by
  unfold pack_Two.f pack_number_uint16.f
  rw [if_pos ⟨h0, h1, by omega, by omega⟩]
  rfl
theorem four_ok (n : Int) (h0 : 0 ≤ n) (h1 : n < 4294967296) : pack_Four.f n = some (beS n 4) := by
  unfold pack_Four.f pack_number_uint32.f
  rw [if_pos ⟨h0, h1, by omega, by omega⟩]
  rfl
theorem take_ok (s : ByteArray) (n : Nat) (h : n ≤ s.size) : pack_Reader_take.f s false n = some (s.extract 0 n, true, s.extract n s.size, false) := by
  unfold pack_Reader_take.f
  rw [if_neg (by simp), if_neg (by omega), if_neg (by omega), if_pos (by omega), if_pos (by omega), Int.toNat_natCast, decide_eq_false (by omega)]
theorem take_bad (s : ByteArray) (b : Bool) (n : Int) (h : b = true ∨ n < 0 ∨ (s.size : Int) < n) : pack_Reader_take.f s b n = some (⟨#[]⟩, false, s, true) := by
  unfold pack_Reader_take.f
  cases b with
  | true => rw [if_pos rfl]
  | false =>
    rw [if_neg (by simp)]
    by_cases h1 : n < 0
    · rw [if_pos h1]
    · have h2 : n > (s.size : Int) := by rcases h with h | h | h <;> first | cases h | omega
      rw [if_neg h1, if_pos h2, decide_eq_true h2]
theorem or_small (n b : Int) (h0 : 0 ≤ n) (h1 : n < 72057594037927936) (hb0 : 0 ≤ b) (hb1 : b < 256) : pack_Reader_number.step n b = n * 256 + b := by
  unfold pack_Reader_number.step
  rw [show IntKind.u64.wrap (n * 256) = n * 256 from IntWalk.u64_in _ ⟨by omega, by omega⟩]
  obtain ⟨m, rfl⟩ : ∃ m : Nat, n = m := ⟨n.toNat, by omega⟩
  obtain ⟨c, rfl⟩ : ∃ c : Nat, b = c := ⟨b.toNat, by omega⟩
  have e : (BitVec.ofInt IntKind.u64.bits ((m : Int) * 256) ||| BitVec.ofInt IntKind.u64.bits (c : Int)).toNat = m * 256 + c := by
    rw [BitVec.toNat_or]
    have e1 : (BitVec.ofInt IntKind.u64.bits ((m : Int) * 256)).toNat = m * 256 := by
      rw [show ((m : Int) * 256) = ((m * 256 : Nat) : Int) by omega, BitVec.ofInt_natCast, BitVec.toNat_ofNat]
      exact Nat.mod_eq_of_lt (show m * 256 < 18446744073709551616 by omega)
    have e2 : (BitVec.ofInt IntKind.u64.bits (c : Int)).toNat = c := by
      rw [BitVec.ofInt_natCast, BitVec.toNat_ofNat]
      exact Nat.mod_eq_of_lt (show c < 18446744073709551616 by omega)
    rw [e1, e2]
    have := Nat.shiftLeft_add_eq_or_of_lt (show c < 2 ^ 8 by omega) m
    rw [Nat.shiftLeft_eq, show (2 : Nat) ^ 8 = 256 from rfl] at this
    omega
  show IntKind.u64.wrap ((BitVec.ofInt IntKind.u64.bits ((m : Int) * 256) ||| BitVec.ofInt IntKind.u64.bits (c : Int)).toNat : Int) = _
  rw [e, show IntKind.u64.wrap ((m * 256 + c : Nat) : Int) = ((m * 256 + c : Nat) : Int) from IntWalk.u64_in _ ⟨by omega, by omega⟩]
  omega
theorem pow_small : ∀ n : Fin 8, (256 : Int) ^ n.val ≤ 72057594037927936 := by decide +kernel
theorem pow2 : (256 : Int) ^ 2 = 65536 := by decide
theorem fold_num (n : Nat) : ∀ xs : List Int, xs.length = n → n ≤ 8 → (∀ x ∈ xs, 0 ≤ x ∧ x < 256) → xs.foldl pack_Reader_number.step 0 = num xs := by
  induction n with
  | zero => intro xs hl _ _; rw [List.eq_nil_of_length_eq_zero hl]; rfl
  | succ n ih =>
    intro xs hl hn h
    obtain ⟨l, b, rfl, hm⟩ := snoc_of hl
    have hb := h b (by simp)
    have hl' : ∀ x ∈ l, 0 ≤ x ∧ x < 256 := fun x hx => h x (by simp [hx])
    rw [List.foldl_append, ih l hm (by omega) hl', num_snoc]
    simp only [List.foldl_cons, List.foldl_nil]
    have hnn := num_nonneg l hl'
    have hp : (256 : Int) ^ l.length ≤ 72057594037927936 := pow_small ⟨l.length, by omega⟩
    exact or_small _ _ hnn.1 (by omega) hb.1 hb.2
theorem of_num (s : ByteArray) (h : s.size ≤ 8) : pack_Reader_number.of s = num (bytesOf s) := fold_num _ _ (bytesOf_length s) h (bytesOf_range s)
theorem number_ok (s : ByteArray) (k : Nat) (hk : k ≤ 8) (h : k ≤ s.size) (hs : s.size ≤ 9223372036854775807) :
    pack_Reader_number.f s false k = some (num (bytesOf (s.extract 0 k)), s.extract k s.size, false) := by
  unfold pack_Reader_number.f
  rw [if_pos hs, take_ok s k h]
  simp only [Option.bind_some]
  rw [of_num _ (by rw [ext_size _ _ _ h]; omega)]
theorem number_bad (s : ByteArray) (b : Bool) (k : Nat) (h : b = true ∨ s.size < k) (hs : s.size ≤ 9223372036854775807) :
    pack_Reader_number.f s b k = some (0, s, true) := by
  unfold pack_Reader_number.f
  rw [if_pos hs, take_bad s b k (by rcases h with h | h; · exact .inl h
                                    · exact .inr (.inr (by omega)))]
  rfl
theorem num_lt (s : ByteArray) (k : Nat) (h : k ≤ s.size) : 0 ≤ num (bytesOf (s.extract 0 k)) ∧ num (bytesOf (s.extract 0 k)) < 256 ^ k := by
  have := num_nonneg (bytesOf (s.extract 0 k)) (bytesOf_range _)
  rwa [bytesOf_length, ext_size _ _ _ h] at this
theorem num_beS (n : Int) (k : Nat) (rest : ByteArray) (h0 : 0 ≤ n) (h1 : n < 256 ^ k) : num (bytesOf ((beS n k ++ rest).extract 0 k)) = n := by
  have e : (beS n k ++ rest).extract 0 k = beS n k := by
    have := ext_fst (beS n k) rest
    rwa [beS_size] at this
  rw [e]
  unfold beS
  rw [bytesOf_nums _ (be_range _ _), num_be]
  exact Int.emod_eq_of_lt h0 h1
theorem rest_beS (n : Int) (k : Nat) (rest : ByteArray) : (beS n k ++ rest).extract k (beS n k ++ rest).size = rest := by
  have := ext_cut (beS n k) rest
  rwa [beS_size] at this
theorem rtwo_ok (s : ByteArray) (h : 2 ≤ s.size) (hs : s.size ≤ 9223372036854775807) : pack_Reader_Two.f s false = some (num (bytesOf (s.extract 0 2)), s.extract 2 s.size, false) := by
  have hn := num_lt s 2 h
  unfold pack_Reader_Two.f
  have e := number_ok s 2 (by omega) h hs
  rw [show ((2 : Nat) : Int) = 2 from rfl] at e
  rw [pow2] at hn
  rw [e]
  simp only [Option.bind_some]
  rw [w64 (by omega) (by omega)]
theorem rtwo_bad (s : ByteArray) (b : Bool) (h : b = true ∨ s.size < 2) (hs : s.size ≤ 9223372036854775807) : pack_Reader_Two.f s b = some (0, s, true) := by
  unfold pack_Reader_Two.f
  have e := number_bad s b 2 h hs
  rw [show ((2 : Nat) : Int) = 2 from rfl] at e
  rw [e]
  simp only [Option.bind_some]
  rw [w64 (by omega) (by omega)]
theorem pow4' : (256 : Int) ^ 4 = 4294967296 := by decide
/-- A number of k bytes at the front of a text. -/
theorem number_fst (n : Int) (k : Nat) (hk : k ≤ 8) (h0 : 0 ≤ n) (h1 : n < 256 ^ k) (T : ByteArray) (hs : T.size ≤ 140737488355328) : pack_Reader_number.f (beS n k ++ T) false k = some (n, T, false) := by
  rw [number_ok _ k hk (by rw [app_size, beS_size]; omega) (by rw [app_size, beS_size]; omega), num_beS n k T h0 h1, rest_beS]
theorem rfour_fst (n : Int) (h0 : 0 ≤ n) (h1 : n < 4294967296) (T : ByteArray) (hs : T.size ≤ 140737488355328) : pack_Reader_Four.f (beS n 4 ++ T) false = some (n, T, false) := by
  unfold pack_Reader_Four.f
  have e := number_fst n 4 (by omega) h0 (by rw [pow4']; exact h1) T hs
  rw [show ((4 : Nat) : Int) = 4 from rfl] at e
  rw [e]
  simp only [Option.bind_some]
  rw [w64 (by omega) (by omega)]
theorem rtwo_fst (n : Int) (h0 : 0 ≤ n) (h1 : n < 65536) (T : ByteArray) (hs : T.size ≤ 140737488355328) : pack_Reader_Two.f (beS n 2 ++ T) false = some (n, T, false) := by
  unfold pack_Reader_Two.f
  have e := number_fst n 2 (by omega) h0 (by rw [pow2]; exact h1) T hs
  rw [show ((2 : Nat) : Int) = 2 from rfl] at e
  rw [e]
  simp only [Option.bind_some]
  rw [w64 (by omega) (by omega)]
end Go.Proofs.YtgmbmkjdfmoanaaDoor.By
