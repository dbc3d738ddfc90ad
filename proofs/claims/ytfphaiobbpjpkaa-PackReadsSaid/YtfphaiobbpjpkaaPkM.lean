/- Reading: Four and Eight; reading in a text that was cut short: a reader that lacks bytes breaks, and stays broken. -/
import Derived.Test.YtfphaiobbpjpkaaQx1
import Derived.Test.YtfphaiobbpjpkaaQx8
import Derived.Test.YtfphaiobbpjpkaaQx10
import Derived.Test.YtfphaiobbpjpkaaPkF
namespace Go.Proofs.Ytfphaiobbpjpkaa.By
open Go.RowKit Go.Proofs.Ytfphaiobbpjpkaa.Bm Go.Proofs.Ytfphaiobbpjpkaa.Q Go.Proofs.YtfphaiobbpjpkaaW.PrintWords Go.Proofs.YtfphaiobbpjpkaaW.PrintMore
set_option linter.unusedVariables false
theorem pow4' : (256 : Int) ^ 4 = 4294967296 := by decide
theorem pow8' : (256 : Int) ^ 8 = 18446744073709551616 := by decide
theorem rleft_ok (s : ByteArray) (b : Bool) : pack_Reader_Left.f s b = some (if b = true then (0 : Int) else (s.size : Int), s, b) := by
  unfold pack_Reader_Left.f
  cases b with
  | true => simp
  | false => simp
/-- A number of k bytes at the front of a text. -/
theorem number_fst (n : Int) (k : Nat) (hk : k ≤ 8) (h0 : 0 ≤ n) (h1 : n < 256 ^ k) (T : ByteArray) (hs : T.size ≤ 140737488355328) : pack_Reader_number.f (beS n k ++ T) false k = some (n, T, false) := by
  rw [number_ok _ k hk (by rw [app_size, beS_size]; omega) (by rw [app_size, beS_size]; omega), num_beS n k T h0 h1, rest_beS]
theorem rfour_fst (n : Int) (h0 : 0 ≤ n) (h1 : n < 4294967296) (T : ByteArray) (hs : T.size ≤ 140737488355328) : pack_Reader_Four.f (beS n 4 ++ T) false = some (n, T, false) := by
  unfold pack_Reader_Four.f
  have e := number_fst n 4 (by omega) h0 (by rw [pow4']; exact h1) T hs
  rw [show ((4 : Nat) : Int) = 4 from rfl] at e
  rw [e]
  simp only [Option.bind_some]
  rw [w64 (by omega) (by omega)]
theorem rtwo_fst (n : Int) (h0 : 0 ≤ n) (h1 : n < 65536) (T : ByteArray) (hs : T.size ≤ 140737488355328) : pack_Reader_Two.f (beS n 2 ++ T) false = some (n, T, false) := by
  unfold pack_Reader_Two.f
  have e := number_fst n 2 (by omega) h0 (by rw [pow2]; exact h1) T hs
  rw [show ((2 : Nat) : Int) = 2 from rfl] at e
  rw [e]
  simp only [Option.bind_some]
  rw [w64 (by omega) (by omega)]
theorem reight_fst (n m : Int) (h0 : 0 ≤ n) (h1 : n ≤ m) (hm : m ≤ 9223372036854775807) (T : ByteArray) (hs : T.size ≤ 140737488355328) : pack_Reader_Eight.f (beS n 8 ++ T) false m = some (n, T, false) := by
  unfold pack_Reader_Eight.f
  have e := number_fst n 8 (by omega) h0 (by rw [pow8']; omega) T hs
  rw [show ((8 : Nat) : Int) = 8 from rfl] at e
  rw [e]
  simp only [Option.bind_some]
  rw [if_neg (by omega), show IntKind.u64.wrap m = m from IntWalk.u64_in _ ⟨by omega, by omega⟩, if_neg (by omega), w64 (by omega) (by omega)]

/-! ### a text that was cut short -/
/-- What is left to a reader: it is broken, or lacks bytes of T. -/
def Mid (r : ByteArray) (b : Bool) (T : ByteArray) : Prop := r.size ≤ 140737488355328 ∧ (b = true ∨ (b = false ∧ r.size < T.size ∧ r = T.extract 0 r.size))
theorem number_mid (r : ByteArray) (b : Bool) (U T : ByteArray) (k : Nat) (hk : k ≤ 8) (hU : U.size = k) (h : Mid r b (U ++ T)) :
    ∃ n r' b', pack_Reader_number.f r b k = some (n, r', b') ∧ Mid r' b' T ∧ (b' = true ∨ n = num (bytesOf U)) := by
  obtain ⟨hz, h⟩ := h
  rcases h with rfl | ⟨rfl, h1, h2⟩
  · exact ⟨0, r, true, number_bad r true k (.inl rfl) (by omega), ⟨hz, .inl rfl⟩, .inl rfl⟩
  · by_cases c : r.size < k
    · exact ⟨0, r, true, number_bad r false k (.inr c) (by omega), ⟨hz, .inl rfl⟩, .inl rfl⟩
    · rw [app_size] at h1
      have e1 : r.extract 0 k = U := by
        rw [h2]
        have z := ext_size (U ++ T) 0 r.size (by rw [app_size]; omega)
        refine bytes_ext (by rw [ext_size _ _ _ (by omega)]; omega) fun j hj => ?_
        rw [ext_size _ _ _ (by omega)] at hj
        rw [ext_byte _ _ _ _ (by omega) (by omega), ext_byte _ _ _ _ (by rw [app_size]; omega) (by omega), app_byte, if_pos (by omega)]
        congr 1; omega
      have e2 : r.extract k r.size = T.extract 0 (r.size - k) := by
        have z1 := ext_size r k r.size (Nat.le_refl _)
        have z2 := ext_size T 0 (r.size - k) (by omega)
        refine bytes_ext (by omega) fun j hj => ?_
        rw [z1] at hj
        rw [ext_byte _ _ _ _ (Nat.le_refl _) hj, ext_byte _ _ _ _ (by omega) (by omega), h2, ext_byte _ _ _ _ (by rw [app_size]; omega) (by omega), app_byte, if_neg (by omega)]
        congr 1; omega
      have z2 := ext_size T 0 (r.size - k) (by omega)
      refine ⟨_, _, _, number_ok r k hk (by omega) (by omega), ⟨by rw [e2]; omega, .inr ⟨rfl, by rw [e2]; omega, ?_⟩⟩, .inr (by rw [e1])⟩
      rw [e2, z2, Nat.sub_zero]
theorem four_mid (r : ByteArray) (b : Bool) (n : Int) (T : ByteArray) (h : Mid r b (beS n 4 ++ T)) : ∃ x r' b', pack_Reader_Four.f r b = some (x, r', b') ∧ Mid r' b' T := by
  obtain ⟨x, r', b', e, hm, _⟩ := number_mid r b _ T 4 (by omega) (beS_size _ _) h
  unfold pack_Reader_Four.f
  rw [show ((4 : Nat) : Int) = 4 from rfl] at e
  rw [e]
  exact ⟨_, r', b', rfl, hm⟩
theorem two_mid (r : ByteArray) (b : Bool) (n : Int) (h0 : 0 ≤ n) (h1 : n < 65536) (T : ByteArray) (h : Mid r b (beS n 2 ++ T)) : ∃ x r' b', pack_Reader_Two.f r b = some (x, r', b') ∧ Mid r' b' T ∧ (b' = true ∨ x = n) := by
  obtain ⟨x, r', b', e, hm, hx⟩ := number_mid r b _ T 2 (by omega) (beS_size _ _) h
  unfold pack_Reader_Two.f
  rw [show ((2 : Nat) : Int) = 2 from rfl] at e
  rw [e]
  refine ⟨_, r', b', rfl, hm, ?_⟩
  rcases hx with hx | hx
  · exact .inl hx
  · right
    have := num_beS n 2 ⟨#[]⟩ h0 (by rw [pow2]; exact h1)
    rw [app_nil] at this
    have e3 := ext_all (beS n 2)
    rw [beS_size] at e3
    rw [e3] at this
    rw [hx, this, w64 (by omega) (by omega)]
theorem eight_mid (r : ByteArray) (b : Bool) (n m : Int) (h0 : 0 ≤ n) (h1 : n ≤ m) (hm : m ≤ 9223372036854775807) (T : ByteArray) (h : Mid r b (beS n 8 ++ T)) : ∃ x r' b', pack_Reader_Eight.f r b m = some (x, r', b') ∧ Mid r' b' T := by
  obtain ⟨x, r', b', e, hmid, hx⟩ := number_mid r b _ T 8 (by omega) (beS_size _ _) h
  unfold pack_Reader_Eight.f
  rw [show ((8 : Nat) : Int) = 8 from rfl] at e
  rw [e]
  simp only [Option.bind_some]
  rw [if_neg (by omega), show IntKind.u64.wrap m = m from IntWalk.u64_in _ ⟨by omega, by omega⟩]
  by_cases c : x > m
  · rw [if_pos c, take_bad _ _ _ (.inr (.inl (by omega)))]
    exact ⟨_, _, _, rfl, ⟨hmid.1, .inl rfl⟩⟩
  · rw [if_neg c]
    exact ⟨_, r', b', rfl, hmid⟩
theorem text_mid (r : ByteArray) (b : Bool) (s : ByteArray) (hs : s.size < 65536) (T : ByteArray) (h : Mid r b (beS s.size 2 ++ s ++ T)) : ∃ x r' b', pack_Reader_Text.f r b = some (x, r', b') ∧ Mid r' b' T := by
  rw [app_assoc] at h
  obtain ⟨x, r1, b1, e, hm, hx⟩ := two_mid r b s.size (by omega) (by omega) _ h
  unfold pack_Reader_Text.f
  rw [e]
  simp only [Option.bind_some]
  obtain ⟨hz, hm⟩ := hm
  rcases hm with rfl | ⟨rfl, h1, h2⟩
  · rw [take_bad _ _ _ (.inl rfl)]
    exact ⟨_, _, _, rfl, ⟨hz, .inl rfl⟩⟩
  · have hx : x = s.size := by rcases hx with hx | hx; · cases hx
                               · exact hx
    subst hx
    rw [app_size] at h1
    by_cases c : r1.size < s.size
    · rw [take_bad _ _ _ (.inr (.inr (by omega)))]
      exact ⟨_, _, _, rfl, ⟨hz, .inl rfl⟩⟩
    · rw [take_ok _ _ (by omega)]
      have e2 : r1.extract s.size r1.size = T.extract 0 (r1.size - s.size) := by
        have z1 := ext_size r1 s.size r1.size (Nat.le_refl _)
        have z2 := ext_size T 0 (r1.size - s.size) (by omega)
        refine bytes_ext (by omega) fun j hj => ?_
        rw [z1] at hj
        rw [ext_byte _ _ _ _ (Nat.le_refl _) hj, ext_byte _ _ _ _ (by omega) (by omega), h2, ext_byte _ _ _ _ (by rw [app_size]; omega) (by omega), app_byte, if_neg (by omega)]
        congr 1; omega
      have z2 := ext_size T 0 (r1.size - s.size) (by omega)
      rw [e2]
      refine ⟨_, T.extract 0 (r1.size - s.size), false, rfl, ⟨by omega, .inr ⟨rfl, by omega, ?_⟩⟩⟩
      rw [z2, Nat.sub_zero]
end Go.Proofs.Ytfphaiobbpjpkaa.By
