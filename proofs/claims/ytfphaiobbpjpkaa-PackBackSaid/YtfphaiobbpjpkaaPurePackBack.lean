/- A row of numbers and texts is read as it was put, and nothing is left; cut short anywhere it is not whole: the pure law of PackBack. -/
import Derived.Test.YtfphaiobbpjpkaaSayPackBack
import Derived.Test.YtfphaiobbpjpkaaPkL
import Derived.Test.YtfphaiobbpjpkaaPkM
import Derived.Test.YtfphaiobbpjpkaaPurePackPuts
namespace Go.Proofs.Ytfphaiobbpjpkaa.Pure
open Go.RowKit Go.Proofs.Ytfphaiobbpjpkaa.Q Go.Proofs.Ytfphaiobbpjpkaa.By Go.Proofs.Ytfphaiobbpjpkaa.Bm Go.Proofs.YtfphaiobbpjpkaaW.PrintWords Go.Proofs.YtfphaiobbpjpkaaW.PrintLast Go.Proofs.YtfphaiobbpjpkaaW.PrintMore
set_option linter.unusedVariables false
/-- One number and one text, as they are put. -/
def rec1 (v : Int) (x : ByteArray) : ByteArray := beS v 4 ++ (beS x.size 2 ++ x ++ (beS v 8 ++ beS (v % 65536) 2))
theorem rec1_size (v : Int) (x : ByteArray) : (rec1 v x).size = 16 + x.size := by
  unfold rec1; simp only [app_size, beS_size]; omega
/-- So many of them from the i-th one on. -/
def cat (R : Nat → ByteArray) : Nat → Nat → ByteArray
  | _, 0 => ⟨#[]⟩
  | i, d + 1 => R i ++ cat R (i + 1) d
theorem cat_snoc (R : Nat → ByteArray) (d : Nat) : ∀ i, cat R i (d + 1) = cat R i d ++ R (i + d) := by
  induction d with
  | zero => intro i; simp only [cat]; rw [app_nil, nil_app]; rfl
  | succ d ih =>
    intro i
    rw [cat, ih (i + 1), cat, app_assoc, show i + 1 + d = i + (d + 1) by omega]
theorem cat_size (R : Nat → ByteArray) (h : ∀ i, 16 ≤ (R i).size ∧ (R i).size ≤ 76) (d : Nat) : ∀ i, 16 * d ≤ (cat R i d).size ∧ (cat R i d).size ≤ 76 * d := by
  induction d with
  | zero => intro i; exact ⟨by simp, Nat.le_refl 0⟩
  | succ d ih =>
    intro i
    rw [cat, app_size]
    have h1 := h i
    have h2 := ih (i + 1)
    omega
section
variable (l0 : List Int) (l1 : List ByteArray) (at_ : Int)
def R (i : Nat) : ByteArray := rec1 (rd l0 (i : Int)) (cutTo (rdOf ByteArray.empty l1 (i : Int)) 60)
theorem R_size (i : Nat) : 16 ≤ (R l0 l1 i).size ∧ (R l0 l1 i).size ≤ 76 := by
  unfold R; rw [rec1_size]
  have := cutTo_size (rdOf ByteArray.empty l1 (i : Int)) 60
  omega
variable (h0 : ∀ x ∈ l0, (Lit.int .u32 x).wf = true) (h1 : ∀ x ∈ l1, x.size ≤ 140737488351232)
include h0 in
theorem rd_range (i : Nat) (hi : i < l0.length) : 0 ≤ rd l0 (i : Int) ∧ rd l0 (i : Int) < 4294967296 := by
  have hm : rd l0 (i : Int) ∈ l0 := by
    unfold rd
    rw [Int.toNat_natCast, List.getD_eq_getElem?_getD, List.getElem?_eq_getElem hi]
    exact List.getElem_mem hi
  have h := h0 _ hm
  have h' : (decide (IntKind.u32.min ≤ rd l0 (i : Int)) && decide (rd l0 (i : Int) ≤ IntKind.u32.max)) = true := h
  have m1 : IntKind.u32.min = 0 := by decide +kernel
  have m2 : IntKind.u32.max = 4294967295 := by decide +kernel
  rw [m1, m2] at h'
  simp at h'
  omega
include h1 in
theorem rdOf_size (i : Nat) (hi : i < l1.length) : (rdOf ByteArray.empty l1 (i : Int)).size ≤ 140737488351232 := by
  apply h1
  unfold rdOf
  rw [Int.toNat_natCast, List.getD_eq_getElem?_getD, List.getElem?_eq_getElem hi]
  exact List.getElem_mem hi
include h0 h1 in
theorem put_loop (m : Nat) (hm : m = min (min l0.length l1.length) 20) (d : Nat) : ∀ (k i : Nat), i + d = m → 2 * d + 2 < k →
    lockgatelaw01_PackBack.l0 k l0 l1 at_ true (cat (R l0 l1) 0 i) i i = lockgatelaw01_PackBack.l1 (k - 2 * d - 2) l0 l1 at_ true (cat (R l0 l1) 0 m) m 0 (cat (R l0 l1) 0 m) false := by
  induction d with
  | zero =>
    intro k i hi hk
    obtain ⟨k, rfl⟩ : ∃ q, k = q + 2 := ⟨k - 2, by omega⟩
    obtain rfl : i = m := by omega
    rw [show k + 2 - 2 * 0 - 2 = k by omega, lockgatelaw01_PackBack.l0.eq_2]
    have fin : lockgatelaw01_PackBack.j1 (k + 1) l0 l1 at_ true (cat (R l0 l1) 0 i) i i false = lockgatelaw01_PackBack.l1 k l0 l1 at_ true (cat (R l0 l1) 0 i) i 0 (cat (R l0 l1) 0 i) false := by
      rw [lockgatelaw01_PackBack.j1.eq_2, if_neg (by simp)]
      unfold pack_Read.f
      rfl
    by_cases c0 : (i : Int) < (l0.length : Int)
    · rw [if_pos c0]
      by_cases c1 : (i : Int) < (l1.length : Int)
      · rw [if_pos c1, decide_eq_false (by omega)]; exact fin
      · rw [if_neg c1]; exact fin
    · rw [if_neg c0]; exact fin
  | succ d ih =>
    intro k i hi hk
    obtain ⟨k, rfl⟩ : ∃ q, k = q + 2 := ⟨k - 2, by omega⟩
    rw [lockgatelaw01_PackBack.l0.eq_2, if_pos (by omega), if_pos (by omega), decide_eq_true (by omega), lockgatelaw01_PackBack.j1.eq_2, if_pos rfl, if_pos (by omega), if_pos (by omega)]
    have hv := rd_range l0 h0 i (by omega)
    have hx := rdOf_size l1 h1 i (by omega)
    have hs := cutTo_size (rdOf ByteArray.empty l1 (i : Int)) 60
    have hc := cat_size (R l0 l1) (R_size l0 l1) i 0
    rw [show (60 : Int) = ((60 : Nat) : Int) from rfl, short_ok _ 60 hx]
    have next := ih k (i + 1) (by omega) (by omega)
    rw [cat_snoc, Nat.zero_add] at next
    have eR : R l0 l1 i = rec1 (rd l0 (i : Int)) (cutTo (rdOf ByteArray.empty l1 (i : Int)) 60) := rfl
    rw [eR] at next
    generalize cutTo (rdOf ByteArray.empty l1 (i : Int)) 60 = x at hs next ⊢
    generalize rd l0 (i : Int) = v at hv next ⊢
    generalize cat (R l0 l1) 0 i = S at hc next ⊢
    simp only [Option.bind_some]
    rw [text_ok x (by omega)]
    simp only [Option.bind_some, if_true]
    rw [if_pos (by omega), four_ok v hv.1 hv.2]
    simp only [Option.bind_some]
    rw [if_pos (by simp only [beS_size]; omega), if_pos (by simp only [app_size, beS_size]; omega), show IntKind.u64.wrap v = v from IntWalk.u64_in _ ⟨by omega, by omega⟩, eight_ok v (by omega) (by omega)]
    simp only [Option.bind_some]
    rw [if_pos (by simp only [app_size, beS_size]; omega), wrap16, two_ok (v % 65536) (by omega) (by omega)]
    simp only [Option.bind_some]
    rw [if_pos (by simp only [app_size, beS_size]; omega), w64 (x := (i : Int) + 1) (by omega) (by omega)]
    have e : S ++ beS v 4 ++ (beS x.size 2 ++ x) ++ beS v 8 ++ beS (v % 65536) 2 = S ++ rec1 v x := by
      unfold rec1; simp only [app_assoc]
    rw [e, show ((i : Int) + 1) = ((i + 1 : Nat) : Int) by omega, next]
    congr 1; omega
include h0 h1 in
theorem read_loop (m : Nat) (hm : m ≤ min (min l0.length l1.length) 20) (S : ByteArray) (d : Nat) : ∀ (k i : Nat), i + d = m → d < k →
    lockgatelaw01_PackBack.l1 k l0 l1 at_ true S m i (cat (R l0 l1) i d) false = lockgatelaw01_PackBack.j3 (k - d - 1) at_ true S m false := by
  induction d with
  | zero =>
    intro k i hi hk
    obtain ⟨k, rfl⟩ : ∃ q, k = q + 1 := ⟨k - 1, by omega⟩
    rw [lockgatelaw01_PackBack.l1.eq_2, if_neg (by omega)]
    rw [show cat (R l0 l1) i 0 = ⟨#[]⟩ from rfl, rend_ok]
    simp only [Option.bind_some]
    rw [if_pos (by rw [if_neg (by simp; rfl)]), rleft_ok]
    rfl
  | succ d ih =>
    intro k i hi hk
    obtain ⟨k, rfl⟩ : ∃ q, k = q + 1 := ⟨k - 1, by omega⟩
    have hv := rd_range l0 h0 i (by omega)
    have hx := rdOf_size l1 h1 i (by omega)
    have hs := cutTo_size (rdOf ByteArray.empty l1 (i : Int)) 60
    have hc := cat_size (R l0 l1) (R_size l0 l1) d (i + 1)
    have next := ih k (i + 1) (by omega) (by omega)
    rw [lockgatelaw01_PackBack.l1.eq_2, if_pos (by omega), cat]
    have eR : R l0 l1 i = rec1 (rd l0 (i : Int)) (cutTo (rdOf ByteArray.empty l1 (i : Int)) 60) := rfl
    rw [eR]
    rw [show (60 : Int) = ((60 : Nat) : Int) from rfl, short_ok _ 60 hx]
    generalize cutTo (rdOf ByteArray.empty l1 (i : Int)) 60 = x at hs next ⊢
    generalize rd l0 (i : Int) = v at hv next ⊢
    generalize cat (R l0 l1) (i + 1) d = T at hc next ⊢
    have e : rec1 v x ++ T = beS v 4 ++ (beS x.size 2 ++ x ++ (beS v 8 ++ (beS (v % 65536) 2 ++ T))) := by
      unfold rec1; simp only [app_assoc]
    rw [e, rfour_fst v hv.1 hv.2 _ (by simp only [app_size, beS_size]; omega)]
    simp only [Option.bind_some]
    rw [if_pos (by omega), if_pos (by omega), w64 (x := v) (by omega) (by omega), if_pos rfl, rtext_ok x _ (by omega) (by simp only [app_size, beS_size]; omega)]
    simp only [Option.bind_some, if_true]
    rw [if_pos (by omega), reight_fst v 1099511627776 hv.1 (by omega) (by omega) _ (by simp only [app_size, beS_size]; omega)]
    simp only [Option.bind_some, if_true]
    rw [rtwo_fst (v % 65536) (by omega) (by omega) T (by omega)]
    simp only [Option.bind_some]
    rw [if_pos (Int.tmod_eq_emod_of_nonneg hv.1).symm, w64 (x := (i : Int) + 1) (by omega) (by omega), show ((i : Int) + 1) = ((i + 1 : Nat) : Int) by omega, next]
    congr 1; omega
include h0 in
theorem cut_loop (m : Nat) (hm : m ≤ min (min l0.length l1.length) 20) (d : Nat) : ∀ (k i : Nat) (r : ByteArray) (b : Bool), i + d = m → d < k → Mid r b (cat (R l0 l1) i d) →
    lockgatelaw01_PackBack.l2 k true m i r b = some true := by
  induction d with
  | zero =>
    intro k i r b hi hk hM
    obtain ⟨k, rfl⟩ : ∃ q, k = q + 1 := ⟨k - 1, by omega⟩
    have hb : b = true := by
      rcases hM.2 with h | ⟨_, h, _⟩
      · exact h
      · exact absurd h (by show ¬ r.size < 0; omega)
    subst hb
    rw [lockgatelaw01_PackBack.l2.eq_2, if_neg (by omega), if_pos rfl, rend_ok]
    simp only [Option.bind_some]
    rw [if_pos (by simp), rleft_ok]
    rfl
  | succ d ih =>
    intro k i r b hi hk hM
    obtain ⟨k, rfl⟩ : ∃ q, k = q + 1 := ⟨k - 1, by omega⟩
    have hv := rd_range l0 h0 i (by omega)
    have hs := cutTo_size (rdOf ByteArray.empty l1 (i : Int)) 60
    have eR : R l0 l1 i = rec1 (rd l0 (i : Int)) (cutTo (rdOf ByteArray.empty l1 (i : Int)) 60) := rfl
    rw [cat, eR] at hM
    rw [lockgatelaw01_PackBack.l2.eq_2, if_pos (by omega)]
    generalize cutTo (rdOf ByteArray.empty l1 (i : Int)) 60 = x at hs hM
    generalize rd l0 (i : Int) = v at hv hM
    have next := fun r b hM => ih k (i + 1) r b (by omega) (by omega) hM
    generalize cat (R l0 l1) (i + 1) d = T at next hM
    have e : rec1 v x ++ T = beS v 4 ++ (beS x.size 2 ++ x ++ (beS v 8 ++ (beS (v % 65536) 2 ++ T))) := by
      unfold rec1; simp only [app_assoc]
    rw [e] at hM
    obtain ⟨_, r1, b1, e1, hM⟩ := four_mid r b v _ hM
    rw [e1]
    simp only [Option.bind_some]
    obtain ⟨_, r2, b2, e2, hM⟩ := text_mid r1 b1 x (by omega) _ hM
    rw [e2]
    simp only [Option.bind_some]
    obtain ⟨_, r3, b3, e3, hM⟩ := eight_mid r2 b2 v 1099511627776 hv.1 (by omega) (by omega) _ hM
    rw [e3]
    simp only [Option.bind_some]
    obtain ⟨_, r4, b4, e4, hM, _⟩ := two_mid r3 b3 (v % 65536) (by omega) (by omega) _ hM
    rw [e4]
    simp only [Option.bind_some]
    rw [w64 (x := (i : Int) + 1) (by omega) (by omega), show ((i : Int) + 1) = ((i + 1 : Nat) : Int) by omega]
    exact next r4 b4 hM
end
theorem PackBack : lockgatelaw01_PackBack.Pure := by
  intro l0 l1 at_ w0 w1 w2
  refine ⟨200, ?_⟩
  have ha := wf_i64 w2
  obtain ⟨m, hm⟩ : ∃ m, m = min (min l0.length l1.length) 20 := ⟨_, rfl⟩
  unfold lockgatelaw01_PackBack.f
  rw [awake_ok]
  simp only [Option.bind_some]
  have p1 := put_loop l0 l1 at_ w0.2.2 w1.2.2 m hm m 200 0 (by omega) (by omega)
  rw [show cat (R l0 l1) 0 0 = ⟨#[]⟩ from rfl, show ((0 : Nat) : Int) = 0 from rfl] at p1
  have hc := cat_size (R l0 l1) (R_size l0 l1) m 0
  rw [p1]
  have p2 := read_loop l0 l1 at_ w0.2.2 w1.2.2 m (by omega) (cat (R l0 l1) 0 m) m (200 - 2 * m - 2) 0 (by omega) (by omega)
  rw [show ((0 : Nat) : Int) = 0 from rfl] at p2
  rw [p2]
  obtain ⟨k, hk⟩ : ∃ k, 200 - 2 * m - 2 - m - 1 = k + 2 ∧ 100 < k := ⟨200 - 2 * m - 2 - m - 1 - 2, by omega, by omega⟩
  rw [hk.1, lockgatelaw01_PackBack.j3.eq_2, if_neg (by simp)]
  by_cases c : m = 0
  · rw [if_pos (by omega)]
  · rw [if_neg (by omega)]
    have fin : ∀ x : Int, 0 ≤ x → lockgatelaw01_PackBack.j4 (k + 1) true (cat (R l0 l1) 0 m) m x = some true := by
      intro x hx
      have em : Int.tmod x ((cat (R l0 l1) 0 m).size : Int) = x % ((cat (R l0 l1) 0 m).size : Int) := Int.tmod_eq_emod_of_nonneg hx
      have r1 := Int.emod_nonneg x (show ((cat (R l0 l1) 0 m).size : Int) ≠ 0 by omega)
      have r2 := Int.emod_lt_of_pos x (show (0 : Int) < ((cat (R l0 l1) 0 m).size : Int) by omega)
      rw [lockgatelaw01_PackBack.j4.eq_2, em]
      generalize x % ((cat (R l0 l1) 0 m).size : Int) = q at r1 r2 ⊢
      rw [if_neg (by omega), if_pos r1, if_pos (by omega)]
      unfold pack_Read.f
      simp only [Option.bind_some]
      have z := ext_size (cat (R l0 l1) 0 m) 0 q.toNat (by omega)
      have := cut_loop l0 l1 w0.2.2 m (by omega) m k 0 ((cat (R l0 l1) 0 m).extract 0 q.toNat) false (by omega) (by omega) ⟨by omega, .inr ⟨rfl, by omega, by rw [z, Nat.sub_zero]⟩⟩
      rw [show ((0 : Nat) : Int) = 0 from rfl] at this
      exact this
    by_cases c2 : at_ < 0
    · rw [if_pos c2, w64 (x := at_ + 1) (by omega) (by omega), w64 (by omega) (by omega)]
      exact fin _ (by omega)
    · rw [if_neg c2]
      exact fin _ (by omega)
end Go.Proofs.Ytfphaiobbpjpkaa.Pure
