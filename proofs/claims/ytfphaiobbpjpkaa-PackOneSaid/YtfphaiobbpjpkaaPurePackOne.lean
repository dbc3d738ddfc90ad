/- No two texts make one sector, and none but sectors of 512 bytes are opened: the pure law of PackOne, for every three texts. -/
import Derived.Test.YtfphaiobbpjpkaaQx4
import Derived.Test.YtfphaiobbpjpkaaPkL
namespace Go.Proofs.Ytfphaiobbpjpkaa.Pure
open Go.RowKit Go.Proofs.Ytfphaiobbpjpkaa.Q Go.Proofs.Ytfphaiobbpjpkaa.By Go.Proofs.Ytfphaiobbpjpkaa.Bm Go.Proofs.YtfphaiobbpjpkaaW.PrintWords Go.Proofs.YtfphaiobbpjpkaaW.PrintLast Go.Proofs.YtfphaiobbpjpkaaW.PrintMore
set_option linter.unusedVariables false
theorem fill_inj (s t : ByteArray) (hs : s.size ≤ 510) (ht : t.size ≤ 510) : fillS s = fillS t ↔ s = t := by
  constructor
  · intro h
    have h1 := open_fill s hs
    have h2 := open_fill t ht
    rw [h, h2] at h1
    injection h1 with h1 _
    exact h1.symm
  · rintro rfl; rfl
theorem beq_iff (a b c d : ByteArray) (h : a = b ↔ c = d) : ((a.toList == b.toList) == (c.toList == d.toList)) = true := by
  by_cases e : a = b
  · have := h.1 e
    subst e; subst this
    simp
  · have e2 : ¬ c = d := fun g => e (h.2 g)
    have n1 : (a.toList == b.toList) = false := by simp; exact fun g => e (toList_ext.1 g)
    have n2 : (c.toList == d.toList) = false := by simp; exact fun g => e2 (toList_ext.1 g)
    rw [n1, n2]; rfl
theorem PackOne : lockgatelaw01_PackOne.Pure := by
  intro a0 a1 a2 h0 h1 h2
  obtain ⟨s, hs, ls⟩ := short_some a0 510 h0
  obtain ⟨t, ht, lt⟩ := short_some a1 510 h1
  obtain ⟨u, hu, lu⟩ := short_some a2 600 h2
  unfold lockgatelaw01_PackOne.f
  rw [awake_ok]
  simp only [Option.bind_some]
  rw [show (600 : Int) = ((600 : Nat) : Int) from rfl, show (510 : Int) = ((510 : Nat) : Int) from rfl, hs, ht, hu]
  simp only [Option.bind_some]
  rw [fill_ok s ls, fill_ok t lt, open_ok u (by omega)]
  simp only [Option.bind_some]
  have hb := beq_iff _ _ _ _ (fill_inj s t ls lt)
  have hz := fillS_size s ls
  unfold openS
  by_cases c : u.size = 512 ∧ first2 u ≤ 510 ∧ fillS (u.extract 2 (2 + (first2 u).toNat)) = u
  · rw [if_pos c]
    obtain ⟨c1, c2, c3⟩ := c
    have z1 := ext_size u 2 (2 + (first2 u).toNat) (by omega)
    simp only [if_true]
    rw [fill_ok _ (by omega)]
    simp only [Option.bind_some, if_true]
    rw [if_pos (toList_ext.2 c3), if_pos hb, if_pos (by omega), c1]; rfl
  · rw [if_neg c]
    simp only [Bool.false_eq_true, if_false, if_true]
    rw [if_pos hb, if_pos (by omega)]
end Go.Proofs.Ytfphaiobbpjpkaa.Pure
