/- The program's reader and the reference's: from one state call by call they tell the same. -/
import Derived.Test.YtfphaiobbpjpkaaQx8
import Derived.Test.YtfphaiobbpjpkaaQx10
import Derived.Test.YtfphaiobbpjpkaaPkM
import Derived.Test.YtfphaiobbpjpkaaPkQ
namespace Go.Proofs.Ytfphaiobbpjpkaa.By
open Go.RowKit Go.Proofs.Ytfphaiobbpjpkaa.Bm Go.Proofs.Ytfphaiobbpjpkaa.Q Go.Proofs.YtfphaiobbpjpkaaW.PrintWords Go.Proofs.YtfphaiobbpjpkaaW.PrintMore
set_option linter.unusedVariables false
/-- One state: as far as the one has read the other has. -/
def Rel (S l : ByteArray) (b : Bool) (a : Nat) : Prop := S.size ≤ 140737488355328 ∧ a ≤ S.size ∧ l.size ≤ S.size ∧ (b = true ∨ l = S.extract a S.size)
theorem number_rel (S l : ByteArray) (b : Bool) (a n : Nat) (hn : n ≤ 8) (h : Rel S l b a) (K : Nat) (hK : 20 ≤ K) :
    ∃ v l' b' a', pack_Reader_number.f l b n = some (v, l', b') ∧ lockgateref01_Reader_Num.f K S a b n = some (v, !b', S, ((a' : Nat) : Int), b') ∧ Rel S l' b' a' ∧ 0 ≤ v ∧ v < 256 ^ n ∧ (b' = true → v = 0) := by
  obtain ⟨hS, ha, hl, h⟩ := h
  have hp : (0 : Int) < 256 ^ n := Int.pow_pos (by decide)
  by_cases c : b = true ∨ l.size < n
  · refine ⟨0, l, true, a, number_bad l b n c (by omega), rrnum_bad S a n b ?_ ha hn hS K hK, ⟨hS, ha, hl, .inl rfl⟩, Int.le_refl _, hp, fun _ => rfl⟩
    rcases c with c | c
    · exact .inl c
    · rcases h with h | h
      · exact .inl h
      · rw [h, ext_size _ _ _ (Nat.le_refl _)] at c
        exact .inr (by omega)
  · have hb : b = false := by cases b with
      | false => rfl
      | true => exact absurd (.inl rfl) c
    subst hb
    have e : l = S.extract a S.size := h.resolve_left (by simp)
    have hz : l.size = S.size - a := by rw [e, ext_size _ _ _ (Nat.le_refl _)]
    have hn2 : n ≤ l.size := by omega
    have e1 : l.extract 0 n = S.extract a (a + n) := by rw [e, ext_ext S a 0 n (by omega) (by omega), Nat.add_zero]
    have e2 : l.extract n l.size = S.extract (a + n) S.size := by
      rw [hz, e, ext_ext S a n (S.size - a) (by omega) (by omega)]
      congr 1; omega
    have hv := num_ext S a (a + n) (by omega) (by omega)
    rw [Nat.add_sub_cancel_left] at hv
    refine ⟨num (bytesOf (S.extract a (a + n))), S.extract (a + n) S.size, false, a + n, ?_, rrnum_ok S a n hn (by omega) hS K hK, ⟨hS, by omega, by rw [ext_size _ _ _ (Nat.le_refl _)]; omega, .inr rfl⟩, hv.1, hv.2, fun h => by cases h⟩
    rw [number_ok l n hn hn2 (by omega), e1, e2]
theorem two_rel (S l : ByteArray) (b : Bool) (a : Nat) (h : Rel S l b a) (K : Nat) (hK : 20 ≤ K) :
    ∃ v l' b' a', pack_Reader_Two.f l b = some (v, l', b') ∧ lockgateref01_Reader_Two.f K S a b = some (v, S, ((a' : Nat) : Int), b') ∧ Rel S l' b' a' ∧ 0 ≤ v ∧ v < 65536 ∧ (b' = true → v = 0) := by
  obtain ⟨v, l', b', a', e1, e2, hR, h0, h1, hz⟩ := number_rel S l b a 2 (by omega) h K hK
  rw [pow2] at h1
  rw [show ((2 : Nat) : Int) = 2 from rfl] at e1 e2
  refine ⟨v, l', b', a', ?_, ?_, hR, h0, h1, hz⟩
  · unfold pack_Reader_Two.f
    rw [e1]
    simp only [Option.bind_some]
    rw [w64 (by omega) (by omega)]
  · unfold lockgateref01_Reader_Two.f
    rw [e2]
    simp only [Option.bind_some]
    rw [w64 (by omega) (by omega)]
theorem four_rel (S l : ByteArray) (b : Bool) (a : Nat) (h : Rel S l b a) (K : Nat) (hK : 20 ≤ K) :
    ∃ v l' b' a', pack_Reader_Four.f l b = some (v, l', b') ∧ lockgateref01_Reader_Four.f K S a b = some (v, S, ((a' : Nat) : Int), b') ∧ Rel S l' b' a' := by
  obtain ⟨v, l', b', a', e1, e2, hR, h0, h1, hz⟩ := number_rel S l b a 4 (by omega) h K hK
  rw [pow4'] at h1
  rw [show ((4 : Nat) : Int) = 4 from rfl] at e1 e2
  refine ⟨v, l', b', a', ?_, ?_, hR⟩
  · unfold pack_Reader_Four.f
    rw [e1]
    simp only [Option.bind_some]
    rw [w64 (by omega) (by omega)]
  · unfold lockgateref01_Reader_Four.f
    rw [e2]
    simp only [Option.bind_some]
    rw [w64 (by omega) (by omega)]
theorem eight_rel (S l : ByteArray) (b : Bool) (a : Nat) (m : Int) (hm : m ≤ 9223372036854775807) (h : Rel S l b a) (K : Nat) (hK : 20 ≤ K) :
    ∃ v l' b' a', pack_Reader_Eight.f l b m = some (v, l', b') ∧ lockgateref01_Reader_Eight.f K S a b m = some (v, S, ((a' : Nat) : Int), b') ∧ Rel S l' b' a' := by
  obtain ⟨v, l', b', a', e1, e2, hR, h0, h1, hz⟩ := number_rel S l b a 8 (by omega) h K hK
  rw [show ((8 : Nat) : Int) = 8 from rfl] at e1 e2
  have hT : Rel S l' true a' := ⟨hR.1, hR.2.1, hR.2.2.1, .inl rfl⟩
  have et : pack_Reader_take.f l' b' (-1) = some (⟨#[]⟩, false, l', true) := take_bad l' b' (-1) (.inr (.inl (by omega)))
  unfold pack_Reader_Eight.f lockgateref01_Reader_Eight.f
  rw [e1, e2]
  simp only [Option.bind_some]
  rw [et]
  simp only [Option.bind_some]
  cases b' with
  | true =>
    obtain rfl := hz rfl
    refine ⟨0, l', true, a', ?_, ?_, hT⟩
    · by_cases c : m < 0
      · rw [if_pos c]
      · rw [if_neg c, show IntKind.u64.wrap m = m from IntWalk.u64_in _ ⟨by omega, by omega⟩, if_neg (by omega), w64 (by omega) (by omega)]
    · rw [if_neg (by simp)]
  | false =>
    simp only [Bool.not_false, if_true]
    by_cases c : m < 0
    · exact ⟨0, l', true, a', by rw [if_pos c], by rw [if_pos c], hT⟩
    · rw [if_neg c, if_neg c, show IntKind.u64.wrap m = m from IntWalk.u64_in _ ⟨by omega, by omega⟩]
      by_cases c2 : v > m
      · exact ⟨0, l', true, a', by rw [if_pos c2], by rw [if_pos c2], hT⟩
      · rw [if_neg c2, if_neg c2, w64 (by omega) (by omega)]
        exact ⟨v, l', false, a', rfl, rfl, hR⟩
theorem text_rel (S l : ByteArray) (b : Bool) (a : Nat) (h : Rel S l b a) (K : Nat) (hK : 20 ≤ K) :
    ∃ t l' b' a', pack_Reader_Text.f l b = some (t, l', b') ∧ lockgateref01_Reader_Text.f K S a b = some (t, S, ((a' : Nat) : Int), b') ∧ Rel S l' b' a' := by
  obtain ⟨v, l', b', a', e1, e2, hR, h0, h1, hz⟩ := two_rel S l b a h K hK
  have hT : Rel S l' true a' := ⟨hR.1, hR.2.1, hR.2.2.1, .inl rfl⟩
  unfold pack_Reader_Text.f lockgateref01_Reader_Text.f
  rw [e1, e2]
  simp only [Option.bind_some]
  obtain ⟨n, rfl⟩ : ∃ n : Nat, v = n := ⟨v.toNat, by omega⟩
  cases b' with
  | true =>
    refine ⟨⟨#[]⟩, l', true, a', ?_, by rw [if_pos rfl], hT⟩
    rw [take_bad l' true n (.inl rfl)]
    rfl
  | false =>
    have e : l' = S.extract a' S.size := hR.2.2.2.resolve_left (by simp)
    have hz : l'.size = S.size - a' := by rw [e, ext_size _ _ _ (Nat.le_refl _)]
    obtain ⟨hS, ha, _, _⟩ := hR
    rw [if_neg (by simp), w64 (x := (S.size : Int) - (a' : Int)) (by omega) (by omega)]
    by_cases c : l'.size < n
    · refine ⟨⟨#[]⟩, l', true, a', ?_, by rw [if_pos (by omega)], hT⟩
      rw [take_bad l' false n (.inr (.inr (by omega)))]
      rfl
    · have e1 : l'.extract 0 n = S.extract a' (a' + n) := by rw [e, ext_ext S a' 0 n (by omega) (by omega), Nat.add_zero]
      have e2 : l'.extract n l'.size = S.extract (a' + n) S.size := by
        rw [hz, e, ext_ext S a' n (S.size - a') (by omega) (by omega)]
        congr 1; omega
      refine ⟨S.extract a' (a' + n), S.extract (a' + n) S.size, false, a' + n, ?_, ?_, ⟨hS, by omega, by rw [ext_size _ _ _ (Nat.le_refl _)]; omega, .inr rfl⟩⟩
      · rw [take_ok l' n (by omega), e1, e2]
        rfl
      · rw [if_neg (by omega), w64 (x := (a' : Int) + (n : Int)) (by omega) (by omega), if_pos (by omega), if_pos (by omega), if_pos (by omega), show ((a' : Int) + (n : Int)) = ((a' + n : Nat) : Int) by omega, Int.toNat_natCast, Int.toNat_natCast]
theorem left_rel (S l : ByteArray) (b : Bool) (a : Nat) (h : Rel S l b a) :
    ∃ v, pack_Reader_Left.f l b = some (v, l, b) ∧ lockgateref01_Reader_Left.f S a b = some (v, S, (a : Int), b) := by
  obtain ⟨hS, ha, hl, h⟩ := h
  rw [rleft_ok]
  unfold lockgateref01_Reader_Left.f
  cases b with
  | true => exact ⟨0, by rw [if_pos rfl], by rw [if_pos rfl]⟩
  | false =>
    have e : l = S.extract a S.size := h.resolve_left (by simp)
    have hz : l.size = S.size - a := by rw [e, ext_size _ _ _ (Nat.le_refl _)]
    refine ⟨(l.size : Int), by rw [if_neg (by simp)], ?_⟩
    rw [if_neg (by simp), w64 (by omega) (by omega)]
    congr 2
    omega
theorem end_rel (S l : ByteArray) (b : Bool) (a : Nat) (h : Rel S l b a) :
    ∃ v, pack_Reader_End.f l b = some (v, l, b) ∧ lockgateref01_Reader_End.f S a b = some (v, S, (a : Int), b) := by
  obtain ⟨hS, ha, hl, h⟩ := h
  rw [rend_ok]
  unfold lockgateref01_Reader_End.f
  cases b with
  | true => exact ⟨10, by rw [if_pos (.inl rfl)], by rw [if_pos rfl]⟩
  | false =>
    have e : l = S.extract a S.size := h.resolve_left (by simp)
    have hz : l.size = S.size - a := by rw [e, ext_size _ _ _ (Nat.le_refl _)]
    rw [if_neg (show ¬ (false = true) by simp)]
    by_cases c : a < S.size
    · exact ⟨10, by rw [if_pos (.inr (by omega))], by rw [if_pos (by omega)]⟩
    · have hn : ¬ (false = true ∨ l.size ≠ 0) := fun g => (g.resolve_left (by simp)) (by omega)
      exact ⟨0, by rw [if_neg hn], by rw [if_neg (by omega)]⟩
end Go.Proofs.Ytfphaiobbpjpkaa.By
