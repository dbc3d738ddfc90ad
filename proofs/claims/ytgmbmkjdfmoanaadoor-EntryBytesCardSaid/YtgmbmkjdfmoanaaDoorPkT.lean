/- The program's reader and the reference's: from one state call by call they tell the same: Two and Four. -/
import Derived.Test.YtgmbmkjdfmoanaaDoorQx14
import Derived.Test.YtgmbmkjdfmoanaaDoorPkN
import Derived.Test.YtgmbmkjdfmoanaaDoorPkQ
namespace Go.Proofs.YtgmbmkjdfmoanaaDoor.By
open Go.RowKit Go.Proofs.YtgmbmkjdfmoanaaDoor.Bm Go.Proofs.YtgmbmkjdfmoanaaDoor.Q Go.Proofs.YtgmbmkjdfmoanaaDoorW.PrintWords Go.Proofs.YtgmbmkjdfmoanaaDoorW.PrintMore
set_option linter.unusedVariables false
/-- One state: as far as the one has read the other has. -/
def Rel (S l : ByteArray) (b : Bool) (a : Nat) : Prop := S.size ≤ 140737488355328 ∧ a ≤ S.size ∧ l.size ≤ S.size ∧ (b = true ∨ l = S.extract a S.size)
theorem number_rel (S l : ByteArray) (b : Bool) (a n : Nat) (hn : n ≤ 8) (h : Rel S l b a) (K : Nat) (hK : 20 ≤ K) :
    ∃ v l' b' a', pack_Reader_number.f l b n = some (v, l', b') ∧ lockgateref01_Reader_Num.f K S a b n = some (v, !b', S, ((a' : Nat) : Int), b') ∧ Rel S l' b' a' ∧ 0 ≤ v ∧ v < 256 ^ n ∧ (b' = true → v = 0) := by
  obtain ⟨hS, ha, hl, h⟩ := h
  have hp : (0 : Int) < 256 ^ n := Int.pow_pos (by decide)
  by_cases c : b = true ∨ l.size < n
  · refine ⟨0, l, true, a, number_bad l b n c (by omega), rrnum_bad S a n b ?_ ha hn hS K hK, ⟨hS, ha, hl, .inl rfl⟩, Int.le_refl _, hp, fun _ => rfl⟩
    rcases c with c | c
    · exact .inl c
    · rcases h with h | h
      · exact .inl h
      · rw [h, ext_size _ _ _ (Nat.le_refl _)] at c
        exact .inr (by omega)
  · have hb : b = false := by cases b with
      | false => rfl
      | true => exact absurd (.inl rfl) c
    subst hb
    have e : l = S.extract a S.size := h.resolve_left (by simp)
    have hz : l.size = S.size - a := by rw [e, ext_size _ _ _ (Nat.le_refl _)]
    have hn2 : n ≤ l.size := by omega
    have e1 : l.extract 0 n = S.extract a (a + n) := by rw [e, ext_ext S a 0 n (by omega) (by omega), Nat.add_zero]
    have e2 : l.extract n l.size = S.extract (a + n) S.size := by
      rw [hz, e, ext_ext S a n (S.size - a) (by omega) (by omega)]
      congr 1; omega
    have hv := num_ext S a (a + n) (by omega) (by omega)
    rw [Nat.add_sub_cancel_left] at hv
    refine ⟨num (bytesOf (S.extract a (a + n))), S.extract (a + n) S.size, false, a + n, ?_, rrnum_ok S a n hn (by omega) hS K hK, ⟨hS, by omega, by rw [ext_size _ _ _ (Nat.le_refl _)]; omega, .inr rfl⟩, hv.1, hv.2, fun h => by cases h⟩
    rw [number_ok l n hn hn2 (by omega), e1, e2]
theorem two_rel (S l : ByteArray) (b : Bool) (a : Nat) (h : Rel S l b a) (K : Nat) (hK : 20 ≤ K) :
    ∃ v l' b' a', pack_Reader_Two.f l b = some (v, l', b') ∧ lockgateref01_Reader_Two.f K S a b = some (v, S, ((a' : Nat) : Int), b') ∧ Rel S l' b' a' ∧ 0 ≤ v ∧ v < 65536 ∧ (b' = true → v = 0) := by
  obtain ⟨v, l', b', a', e1, e2, hR, h0, h1, hz⟩ := number_rel S l b a 2 (by omega) h K hK
  rw [pow2] at h1
  rw [show ((2 : Nat) : Int) = 2 from rfl] at e1 e2
  refine ⟨v, l', b', a', ?_, ?_, hR, h0, h1, hz⟩
  · unfold pack_Reader_Two.f
    rw [e1]
    simp only [Option.bind_some]
    rw [w64 (by omega) (by omega)]
  · unfold lockgateref01_Reader_Two.f
    rw [e2]
    simp only [Option.bind_some]
    rw [w64 (by omega) (by omega)]
theorem four_rel (S l : ByteArray) (b : Bool) (a : Nat) (h : Rel S l b a) (K : Nat) (hK : 20 ≤ K) :
    ∃ v l' b' a', pack_Reader_Four.f l b = some (v, l', b') ∧ lockgateref01_Reader_Four.f K S a b = some (v, S, ((a' : Nat) : Int), b') ∧ Rel S l' b' a' := by
  obtain ⟨v, l', b', a', e1, e2, hR, h0, h1, hz⟩ := number_rel S l b a 4 (by omega) h K hK
  rw [pow4'] at h1
  rw [show ((4 : Nat) : Int) = 4 from rfl] at e1 e2
  refine ⟨v, l', b', a', ?_, ?_, hR⟩
  · unfold pack_Reader_Four.f
    rw [e1]
    simp only [Option.bind_some]
    rw [w64 (by omega) (by omega)]
  · unfold lockgateref01_Reader_Four.f
    rw [e2]
    simp only [Option.bind_some]
    rw [w64 (by omega) (by omega)]
end Go.Proofs.YtgmbmkjdfmoanaaDoor.By
