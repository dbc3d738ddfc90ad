/- Chapter 17: the maps of a new disk are right; what was taken is given back in any order; as many are taken of the zone that was told as it has. -/
import Derived.Test.YtehnbbabjnibkaaQx10
import Derived.Test.YtehnbbabjnibkaaSpB
namespace Go.Proofs.Ytehnbbabjnibkaa.Sp
open Go.RowKit Go.Proofs.Ytehnbbabjnibkaa.Q Go.Proofs.Ytehnbbabjnibkaa.Bm Go.Proofs.Ytehnbbabjnibkaa.Ly Go.Proofs.YtehnbbabjnibkaaW.PrintWords Go.Proofs.YtehnbbabjnibkaaW.PrintLast Go.Proofs.YtehnbbabjnibkaaW.PrintMore
set_option linter.unusedVariables false
theorem and3 (n : Int) : Go.bits .and .i64 n 3 = n % 4 := by
  have h3 : (BitVec.ofInt 64 3).toNat = 2 ^ 2 - 1 := by decide
  have key : (BitVec.ofInt 64 n &&& BitVec.ofInt 64 3).toNat = (n % ((2 ^ 64 : Nat) : Int)).toNat % 2 ^ 2 := by
    rw [BitVec.toNat_and, BitVec.toNat_ofInt, h3, Nat.and_two_pow_sub_one_eq_mod]
  show IntKind.i64.wrap ((BitVec.ofInt 64 n &&& BitVec.ofInt 64 3).toNat : Nat) = n % 4
  rw [key]
  simp [IntKind.wrap, IntKind.bits, IntKind.signed]
  omega
theorem and7 (n : Int) : Go.bits .and .i64 n 7 = n % 8 := by
  have h7 : (BitVec.ofInt 64 7).toNat = 2 ^ 3 - 1 := by decide
  have key : (BitVec.ofInt 64 n &&& BitVec.ofInt 64 7).toNat = (n % ((2 ^ 64 : Nat) : Int)).toNat % 2 ^ 3 := by
    rw [BitVec.toNat_and, BitVec.toNat_ofInt, h7, Nat.and_two_pow_sub_one_eq_mod]
  show IntKind.i64.wrap ((BitVec.ofInt 64 n &&& BitVec.ofInt 64 7).toNat : Nat) = n % 8
  rw [key]
  simp [IntKind.wrap, IntKind.bits, IntKind.signed]
  omega
/-- The layout of a disk of so many sectors, of three nodes. -/
theorem newL_fresh (s : Int) (h : 140 ≤ s) (h' : s ≤ 240) : newL s 3 = (s, 3, 122, (s - 122) / 4, 0) ∧ IsL s 3 122 ((s - 122) / 4) := by
  have e : mn ((s - 122) / 4) 4000 = (s - 122) / 4 := by unfold mn; split <;> omega
  constructor
  · unfold newL
    rw [if_pos (by omega), if_pos (by omega), show (2 + 40 * 3 : Int) = 122 from rfl, e]
  · exact ⟨by omega, by omega, by omega, by omega, by omega, e.symm⟩
theorem map_good {z : Int} (hz : 3 ≤ z) (hz' : z ≤ 4000) : goodM z (mapOf z) = true := by
  have hn := need_pos hz hz'
  have hs : (setI (zeros (need z)) 0 true).size = need z := by rw [setI_size, zeros_size]
  have hb : ∀ j, j < 8 * need z → bitOf (mapOf z) j = (if j = 1 then true else if j = 0 then true else false) := by
    intro j hj
    unfold mapOf
    rw [setI_bit _ _ _ j (by omega), setI_bit _ _ _ j (by rw [zeros_size]; exact hj), zeros_bit]
    by_cases e1 : j = 1
    · rw [if_pos (by omega), if_pos e1]
    · rw [if_neg (by omega), if_neg e1]
      by_cases e0 : j = 0
      · rw [if_pos (by omega), if_pos e0]
      · rw [if_neg (by omega), if_neg e0]
  have hm : (mapOf z).size = need z := by unfold mapOf; rw [setI_size, hs]
  unfold goodM rightB
  simp only [Bool.and_eq_true, decide_eq_true_eq]
  refine ⟨⟨⟨⟨⟨by omega, hz'⟩, hm⟩, ?_⟩, ?_⟩, ?_⟩
  · rw [noneFrom_iff]
    intro i hi hbi
    rw [hb i (by omega)] at hbi
    by_cases e1 : i = 1
    · omega
    · by_cases e0 : i = 0
      · omega
      · rw [if_neg e1, if_neg e0] at hbi; cases hbi
  · rw [hb 0 (by omega)]; rfl
  · rw [hb 1 (by omega)]; rfl
def four (m : ByteArray) : List ByteArray := [m, m, m, m]
theorem four_good {z : Int} (hz : 3 ≤ z) (hz' : z ≤ 4000) : Good z (four (mapOf z)) := by
  refine ⟨rfl, fun i hi => ?_⟩
  rcases (by omega : i = 0 ∨ i = 1 ∨ i = 2 ∨ i = 3) with e | e | e | e <;> subst e <;> exact map_good hz hz'
/-- Given back in any order, the maps are those that were. -/
theorem back {z : Int} (hz : 3 ≤ z) (hz' : z ≤ 4000) {zone : Nat} {M x : List ByteArray} {L T : List (Nat × Nat)} (hg : Good z M) (h : Ran z zone M L x) (hT : ∀ q, q ∈ T ↔ q ∈ L) : T.foldl (fun M q => put M q false) x = M := by
  obtain ⟨h1, h2⟩ := gave_bit hz hz' T x (ran_good hz hz' hg h) (fun q hq => ran_val h q ((hT q).1 hq))
  refine maps_ext h1 hg (fun i p => ?_)
  rw [h2, ran_bit hz hz' hg h]
  by_cases e : (i, p) ∈ L
  · have := (ran_free hz hz' hg h).1 _ e
    simp only at this
    rw [this]
    simp [e, (hT (i, p)).2 e]
  · have e' : (i, p) ∉ T := fun hc => e ((hT _).1 hc)
    simp [e, e']
theorem ran_taken {z : Int} (hz : 3 ≤ z) (hz' : z ≤ 4000) {zone : Nat} {M x : List ByteArray} {L : List (Nat × Nat)} (hg : Good z M) (h : Ran z zone M L x) : ∀ q ∈ L, Val z q ∧ bitOf (mp x q.1) q.2 = true := by
  intro q hq
  refine ⟨ran_val h q hq, ?_⟩
  rw [ran_bit hz hz' hg h]
  simp [hq]
/-- How many of those that were taken lie in the zone that was told. -/
theorem ran_in {z : Int} (hz : 3 ≤ z) (hz' : z ≤ 4000) {zone : Nat} : ∀ {L : List (Nat × Nat)} {M x : List ByteArray}, Good z M → Ran z zone M L x → (L.countP fun q => q.1 == zone) = min L.length (z.toNat - cnt (mp M zone) z.toNat)
  | [], _, _, _, _ => by simp
  | q :: L, M, x, hg, h => by
    have ih := ran_in hz hz' (put_good hz hz' hg h.1 true) h.2.2.2
    have hc := put_cnt hz hz' hg h.1 h.2.1 zone
    have hle := cnt_le (mp M zone) z.toNat
    rw [List.countP_cons, ih, hc, List.length_cons]
    by_cases e : q.1 = zone
    · have hlt : cnt (mp M zone) z.toNat ≠ z.toNat := fun hc => by
        have := full_cnt _ hc q.2 (by have := h.1.2.2; omega)
        rw [← e, h.2.1] at this
        cases this
      rw [if_pos (beq_iff_eq.2 e), if_pos e.symm]
      omega
    · have hf : full z (mp M zone) := by
        rcases h.2.2.1 with h1 | h1
        · exact absurd h1 e
        · exact h1
      have := cnt_full _ hf
      rw [if_neg (fun hb => e (beq_iff_eq.1 hb)), if_neg (fun hb => e hb.symm)]
      omega
end Go.Proofs.Ytehnbbabjnibkaa.Sp
