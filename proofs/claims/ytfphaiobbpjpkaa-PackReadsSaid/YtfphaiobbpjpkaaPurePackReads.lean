/- Numbers and texts are read one behind the other, and a reader breaks, as the reference says: the pure law of PackReads. -/
import Derived.Test.YtfphaiobbpjpkaaQx11
import Derived.Test.YtfphaiobbpjpkaaPkS
import Derived.Test.YtfphaiobbpjpkaaPkL
namespace Go.Proofs.Ytfphaiobbpjpkaa.Pure
open Go.RowKit Go.Proofs.Ytfphaiobbpjpkaa.Q Go.Proofs.Ytfphaiobbpjpkaa.By Go.Proofs.Ytfphaiobbpjpkaa.Bm Go.Proofs.YtfphaiobbpjpkaaW.PrintWords Go.Proofs.YtfphaiobbpjpkaaW.PrintLast Go.Proofs.YtfphaiobbpjpkaaW.PrintMore
set_option linter.unusedVariables false
theorem j3_step (l1 : List Int) (S l : ByteArray) (b : Bool) (a : Nat) (x : Int) (h : Rel S l b a) (k : Nat) :
    lockgatelaw01_PackReads.j3 (k + 1) l1 true x true l b S a b = lockgatelaw01_PackReads.l0 k l1 true (wrap64 (x + 1)) l b S a b := by
  obtain ⟨v, e1, e2⟩ := left_rel S l b a h
  obtain ⟨u, e3, e4⟩ := end_rel S l b a h
  rw [lockgatelaw01_PackReads.j3.eq_2, if_pos rfl, e1, e2]
  simp only [Option.bind_some, if_true]
  rw [e3, e4]
  simp only [Option.bind_some, if_true]
theorem j2_step (l1 : List Int) (hl : ∀ y : Int, rd l1 y ≤ 9223372036854775807) (S l : ByteArray) (b : Bool) (a : Nat) (x x9 : Int) (hx : 0 ≤ x) (hx2 : x < 100) (h : Rel S l b a) (k : Nat) (hk : 20 ≤ k) :
    ∃ l' b' a', Rel S l' b' a' ∧ lockgatelaw01_PackReads.j2 (k + 2) l1 true x x9 l b S a b = lockgatelaw01_PackReads.l0 k l1 true (wrap64 (x + 1)) l' b' S ((a' : Nat) : Int) b' := by
  rw [lockgatelaw01_PackReads.j2.eq_2, w64 (x := x + 1) (by omega) (by omega)]
  have hw : wrap64 (x + 1) = x + 1 := w64 (by omega) (by omega)
  by_cases c0 : x9 = 0
  · rw [if_pos c0]
    obtain ⟨v, l', b', a', e1, e2, hR, _⟩ := two_rel S l b a h (k + 1) (by omega)
    refine ⟨l', b', a', hR, ?_⟩
    rw [e1, e2]
    simp only [Option.bind_some, beq_self_eq_true]
    rw [j3_step l1 S l' b' a' x hR, hw]
  rw [if_neg c0]
  by_cases c1 : x9 = 1
  · rw [if_pos c1]
    obtain ⟨v, l', b', a', e1, e2, hR⟩ := four_rel S l b a h (k + 1) (by omega)
    refine ⟨l', b', a', hR, ?_⟩
    rw [e1, e2]
    simp only [Option.bind_some, beq_self_eq_true]
    rw [j3_step l1 S l' b' a' x hR, hw]
  rw [if_neg c1]
  by_cases c2 : x9 = 2
  · rw [if_pos c2]
    by_cases c : x + 1 < (l1.length : Int)
    · obtain ⟨v, l', b', a', e1, e2, hR⟩ := eight_rel S l b a (rd l1 (x + 1)) (hl _) h (k + 1) (by omega)
      refine ⟨l', b', a', hR, ?_⟩
      rw [if_pos c, if_pos (by omega), e1, e2]
      simp only [Option.bind_some, beq_self_eq_true]
      rw [j3_step l1 S l' b' a' x hR, hw]
    · obtain ⟨v, l', b', a', e1, e2, hR⟩ := eight_rel S l b a 1099511627776 (by omega) h (k + 1) (by omega)
      refine ⟨l', b', a', hR, ?_⟩
      rw [if_neg c, e1, e2]
      simp only [Option.bind_some, beq_self_eq_true]
      rw [j3_step l1 S l' b' a' x hR, hw]
  rw [if_neg c2]
  by_cases c3 : x9 = 3
  · rw [if_pos c3]
    obtain ⟨v, l', b', a', e1, e2, hR⟩ := text_rel S l b a h (k + 1) (by omega)
    refine ⟨l', b', a', hR, ?_⟩
    rw [e1, e2]
    simp only [Option.bind_some, beq_self_eq_true]
    rw [j3_step l1 S l' b' a' x hR, hw]
  rw [if_neg c3]
  exact ⟨l, b, a, h, by rw [j3_step l1 S l b a x h, hw]⟩
theorem l0_loop (l1 : List Int) (hl : ∀ y : Int, rd l1 y ≤ 9223372036854775807) (S : ByteArray) (d : Nat) : ∀ (k i : Nat) (l : ByteArray) (b : Bool) (a : Nat), i + d = 60 → 4 * d + 30 < k → Rel S l b a →
    lockgatelaw01_PackReads.l0 k l1 true i l b S a b = some true := by
  induction d with
  | zero =>
    intro k i l b a hi hk hR
    obtain ⟨k, rfl⟩ : ∃ q, k = q + 2 := ⟨k - 2, by omega⟩
    rw [lockgatelaw01_PackReads.l0.eq_2]
    by_cases c : (i : Int) < (l1.length : Int)
    · rw [if_pos c, decide_eq_false (by omega), lockgatelaw01_PackReads.j1.eq_2, if_neg (by simp)]
    · rw [if_neg c, lockgatelaw01_PackReads.j1.eq_2, if_neg (by simp)]
  | succ d ih =>
    intro k i l b a hi hk hR
    obtain ⟨k, rfl⟩ : ∃ q, k = q + 4 := ⟨k - 4, by omega⟩
    rw [lockgatelaw01_PackReads.l0.eq_2]
    by_cases c : (i : Int) < (l1.length : Int)
    · rw [if_pos c, decide_eq_true (by omega), lockgatelaw01_PackReads.j1.eq_2, if_pos rfl, if_pos (by omega), if_pos c]
      have fin : ∀ x9, lockgatelaw01_PackReads.j2 (k + 2) l1 true i x9 l b S a b = some true := by
        intro x9
        obtain ⟨l', b', a', hR', e⟩ := j2_step l1 hl S l b a i x9 (by omega) (by omega) hR k (by omega)
        rw [e, w64 (by omega) (by omega), show (i : Int) + 1 = ((i + 1 : Nat) : Int) by omega]
        exact ih k (i + 1) l' b' a' (by omega) (by omega) hR'
      split
      · exact fin _
      · exact fin _
    · rw [if_neg c, lockgatelaw01_PackReads.j1.eq_2, if_neg (by simp)]
theorem PackReads : lockgatelaw01_PackReads.Pure := by
  intro s l1 w0 w1 w2 w3
  obtain ⟨K, hK⟩ : ∃ K : Nat, 300 ≤ K := ⟨300, Nat.le_refl _⟩
  refine ⟨K, ?_⟩
  unfold lockgatelaw01_PackReads.f
  rw [awake_ok]
  simp only [Option.bind_some]
  rw [show (400 : Int) = ((400 : Nat) : Int) from rfl, short_ok _ 400 w0]
  have hz := cutTo_size s 400
  generalize cutTo s 400 = S at hz
  simp only [Option.bind_some]
  unfold pack_Read.f
  simp only [Option.bind_some]
  refine l0_loop l1 ?_ S 60 K 0 S false 0 (by omega) (by omega) ⟨by omega, by omega, Nat.le_refl _, .inr (ext_all S).symm⟩
  intro y
  unfold rd
  rw [List.getD_eq_getElem?_getD]
  cases e : l1[y.toNat]? with
  | none => exact (by decide : (0 : Int) ≤ 9223372036854775807)
  | some x =>
    have h := w3 x (List.mem_of_getElem? e)
    have h' : (decide (IntKind.i64.min ≤ x) && decide (x ≤ IntKind.i64.max)) = true := h
    have m2 : IntKind.i64.max = 9223372036854775807 := by decide +kernel
    rw [m2] at h'
    simp at h'
    exact h'.2
end Go.Proofs.Ytfphaiobbpjpkaa.Pure
