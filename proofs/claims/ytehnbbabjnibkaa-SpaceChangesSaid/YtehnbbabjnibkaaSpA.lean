/- Chapter 17: which maps are right, how many sectors are free, and which are taken: the program's answers and the reference's, for every layout and maps that are not too long. -/
import Derived.Test.YtehnbbabjnibkaaQx3
import Derived.Test.YtehnbbabjnibkaaQx4
import Derived.Test.YtehnbbabjnibkaaQx5
import Derived.Test.YtehnbbabjnibkaaQx9
import Derived.Test.YtehnbbabjnibkaaQx11
import Derived.Test.YtehnbbabjnibkaaQx12
import Derived.Test.YtehnbbabjnibkaaLyZ
import Derived.Test.YtehnbbabjnibkaaLyB
import Derived.Test.YtehnbbabjnibkaaBmG
import Derived.Test.YtehnbbabjnibkaaBmS
namespace Go.Proofs.Ytehnbbabjnibkaa.Sp
open Go.RowKit Go.Proofs.Ytehnbbabjnibkaa.Q Go.Proofs.Ytehnbbabjnibkaa.Bm Go.Proofs.Ytehnbbabjnibkaa.Ly Go.Proofs.YtehnbbabjnibkaaW.PrintWords Go.Proofs.YtehnbbabjnibkaaW.PrintLast Go.Proofs.YtehnbbabjnibkaaW.PrintMore
set_option linter.unusedVariables false
theorem awake_ok : ∀ k, 100 ≤ k → lockgatelaw17_awake.f k = some true := fun k hk =>
  at_rounds (fun k => lockgatelaw17_awake.mono k) hk (by decide +kernel)
theorem rd_get (l : List ByteArray) (i : Nat) (h : i < l.length) : rdOf ByteArray.empty l (i : Int) = l[i] := by
  unfold rdOf
  rw [Int.toNat_natCast, List.getD_eq_getElem?_getD, List.getElem?_eq_getElem h]; rfl
/-- One zone's map is right: of so many bits, and the zone's own two are taken. -/
def goodM (z : Int) (m : ByteArray) : Bool := rightB m z && bitOf m 0 && bitOf m 1
theorem goodM_size {z : Int} {m : ByteArray} (h : goodM z m = true) : m.size = need z ∧ noneFrom m z (8 * m.size) = true ∧ bitOf m 0 = true ∧ bitOf m 1 = true := by
  unfold goodM rightB at h
  simp only [Bool.and_eq_true, decide_eq_true_eq] at h
  exact ⟨h.1.1.1.2, h.1.1.2, h.1.2, h.2⟩
def okM (s n f z : Int) (M : List ByteArray) : Bool := decide (IsL s n f z) && decide (M.length = 4) && M.all (goodM z)
theorem need_pos {z : Int} (h : 3 ≤ z) (h' : z ≤ 4000) : z ≤ 8 * (need z : Int) ∧ 8 * (need z : Int) < z + 8 ∧ 1 ≤ need z := by unfold need; omega
theorem wrong_val (z : Int) (hz : 3 ≤ z) (hz' : z ≤ 4000) (m : ByteArray) (hm : m.size ≤ 1000) : ∀ k, 9000 ≤ k → space_Right.wrong k z m = some (!goodM z m) := by
  intro k hk
  unfold space_Right.wrong goodM
  rw [right_ok m (by omega) z k (by omega), Option.bind_some]
  cases hr : rightB m z with
  | false => simp
  | true =>
    have hs : m.size = need z := by
      unfold rightB at hr
      simp only [Bool.and_eq_true, decide_eq_true_eq] at hr
      exact hr.1.2
    have := need_pos hz hz'
    rw [if_pos rfl, first_ok m (by omega) 0 (by omega) k (by omega), Option.bind_some]
    rcases firstOf_is m 0 with ⟨h1, h2⟩ | ⟨r, h1, h2, h3, h4, h5⟩
    · rw [h1, h2 0 (by simp) (by omega), h2 1 (by simp) (by omega)]; rfl
    · rw [h1]
      by_cases e0 : r = 0
      · subst e0; rw [h4]; simp
      · rw [h5 0 (by simp) (by omega)]
        by_cases e1 : r = 1
        · subst e1; rw [h4]; simp
        · rw [h5 1 (by simp) (by omega)]
          have : ¬ ((r : Int) < 2) := by omega
          simp [this]
theorem any_val (z : Int) (hz : 3 ≤ z) (hz' : z ≤ 4000) (k : Nat) (hk : 9000 ≤ k) : ∀ (M : List ByteArray), (∀ m ∈ M, m.size ≤ 1000) → space_Right.any k z M = some (!M.all (goodM z)) := by
  intro M
  induction M with
  | nil => intro _; rfl
  | cons m t ih =>
    intro h
    rw [space_Right.any, wrong_val z hz hz' m (h m List.mem_cons_self) k hk, Option.bind_some, List.all_cons]
    cases hg : goodM z m with
    | false => rfl
    | true => rw [if_neg (by simp), ih (fun x hx => h x (List.mem_cons_of_mem _ hx))]; rfl
theorem right_val (s n f z : Int) (hs : -9223372036854775808 ≤ s) (M : List ByteArray) (hM : ∀ m ∈ M, m.size ≤ 1000) : ∀ k, 9000 ≤ k → space_Right.f k s n f z M = some (okM s n f z M) := by
  intro k hk
  unfold space_Right.f okM
  by_cases h : IsL s n f z
  · have h3 := h.z3
    rw [Ly.bytes_ok h k (by omega), Option.bind_some, decide_eq_true h]
    by_cases h4 : M.length = 4
    · rw [if_pos rfl, if_pos (by omega), any_val z (by omega) (by omega) k hk M hM, Option.bind_some, decide_eq_true h4]; simp
    · rw [if_pos rfl, if_neg (by omega), decide_eq_false h4]; rfl
  · rw [Ly.bytes_bad h hs k (by omega), Option.bind_some, decide_eq_false h]; rfl
theorem right_loop (s n f z : Int) (M : List ByteArray) (hl : M.length = 4) (hM : ∀ m ∈ M, m.size ≤ 1000) (d : Nat) : ∀ (k i : Nat), i + d = 4 → d + 9000 ≤ k →
    lockgateref17_Right.l0 k M i s n f z = some ((M.drop i).all (goodM z)) := by
  induction d with
  | zero =>
    intro k i hi hk
    cases k with
    | zero => omega
    | succ k =>
      rw [lockgateref17_Right.l0, if_neg (by omega), List.drop_eq_nil_of_le (by omega)]; rfl
  | succ d ih =>
    intro k i hi hk
    cases k with
    | zero => omega
    | succ k =>
      have hlt : i < M.length := by omega
      have hsz := hM _ (List.getElem_mem hlt)
      rw [lockgateref17_Right.l0, if_pos (by omega), if_pos (by omega), if_pos (by omega), rd_get M i hlt, List.drop_eq_getElem_cons hlt, List.all_cons]
      rw [rright_ok _ (by omega) z k (by omega), Option.bind_some]
      have h0 := rhas_nat M[i] (by omega) 0 (by omega) k (by omega)
      have h1 := rhas_nat M[i] (by omega) 1 (by omega) k (by omega)
      rw [show (0 : Int) = ((0 : Nat) : Int) from rfl, h0, Option.bind_some, show (1 : Int) = ((1 : Nat) : Int) from rfl, h1, Option.bind_some]
      unfold goodM
      cases rightB M[i] z with
      | false => rfl
      | true =>
        cases bitOf M[i] 0 with
        | false => rfl
        | true =>
          cases bitOf M[i] 1 with
          | false => rfl
          | true =>
            rw [if_pos rfl, if_pos rfl, if_pos rfl, show wrap64 ((i : Int) + ((1 : Nat) : Int)) = ((i + 1 : Nat) : Int) from by rw [Bm.w64 (by omega) (by omega)]; omega, ih k (i + 1) (by omega) (by omega)]
            rfl
theorem rright_val (s n f z : Int) (hs : -9223372036854775808 ≤ s) (M : List ByteArray) (hM : ∀ m ∈ M, m.size ≤ 1000) : ∀ k, 9010 ≤ k → lockgateref17_Right.f k s n f z M = some (okM s n f z M) := by
  intro k hk
  obtain ⟨k, rfl⟩ : ∃ j, k = j + 1 := ⟨k - 1, by omega⟩
  unfold lockgateref17_Right.f okM
  rw [rIs_val s n f z hs _ (by omega), Option.bind_some]
  by_cases h : IsL s n f z
  · rw [decide_eq_true h, if_pos rfl, lockgateref17_Right.j0]
    by_cases h4 : M.length = 4
    · rw [if_neg (by simp [h4]), decide_eq_true h4, show (0 : Int) = ((0 : Nat) : Int) from rfl, right_loop s n f z M h4 hM 4 k 0 (by omega) (by omega)]; rfl
    · rw [if_pos (by simp; omega), decide_eq_false h4]; rfl
  · rw [decide_eq_false h, if_neg (by decide), lockgateref17_Right.j0, if_pos rfl]; rfl
theorem okM_is {s n f z : Int} {M : List ByteArray} (h : okM s n f z M = true) : IsL s n f z ∧ M.length = 4 ∧ ∀ m ∈ M, goodM z m = true := by
  unfold okM at h
  simp only [Bool.and_eq_true, decide_eq_true_eq, List.all_eq_true] at h
  exact ⟨h.1.1, h.1.2, h.2⟩
/-- A right map has no bit behind the zone's size: as many are taken as are below. -/
theorem cnt_good {z : Int} (hz : 3 ≤ z) (hz' : z ≤ 4000) {m : ByteArray} (h : goodM z m = true) : cnt m (8 * m.size) = cnt m z.toNat := by
  obtain ⟨h1, h2, _, _⟩ := goodM_size h
  have hn := need_pos hz hz'
  rw [noneFrom_iff] at h2
  have e : ∀ d, z.toNat + d ≤ 8 * m.size → cnt m (z.toNat + d) = cnt m z.toNat := by
    intro d
    induction d with
    | zero => intro _; rfl
    | succ d ih =>
      intro hd
      rw [← Nat.add_assoc, cnt_succ, ih (by omega)]
      have : bitOf m (z.toNat + d) = false := by
        cases hb : bitOf m (z.toNat + d) with
        | false => rfl
        | true => have := h2 _ (by omega) hb; omega
      rw [this]; simp
  have := e (8 * m.size - z.toNat) (by omega)
  rwa [show z.toNat + (8 * m.size - z.toNat) = 8 * m.size by omega] at this
/-- How many are free. -/
def freeOf (z : Int) (M : List ByteArray) : Int := (M.map fun m => z - (cnt m z.toNat : Int)).sum
theorem free_loop (z : Int) (hz : 3 ≤ z) (hz' : z ≤ 4000) (M : List ByteArray) (hl : M.length = 4) (hM : ∀ m ∈ M, goodM z m = true) (d : Nat) : ∀ (k i : Nat) (a : Int), i + d = 4 → d + 9000 ≤ k → 0 ≤ a → a ≤ 16000 → z * d ≤ a →
    space_Free.l0 k a M 4 i = some (a - z * d + freeOf z (M.drop i)) := by
  induction d with
  | zero =>
    intro k i a hi hk h0 h1 h2
    cases k with
    | zero => omega
    | succ k => rw [space_Free.l0, if_neg (by omega), List.drop_eq_nil_of_le (by omega)]; simp [freeOf]
  | succ d ih =>
    intro k i a hi hk h0 h1 h2
    cases k with
    | zero => omega
    | succ k =>
      have hlt : i < M.length := by omega
      have hg := hM _ (List.getElem_mem hlt)
      have hc := cnt_good hz hz' hg
      have hsz := (goodM_size hg).1
      have hn := need_pos hz hz'
      have hcl := cnt_le M[i] z.toNat
      rw [space_Free.l0, if_pos (by omega), if_pos (by omega), if_pos (by omega), rd_get M i hlt, List.drop_eq_getElem_cons hlt]
      rw [count_ok _ (by omega) k (by omega), Option.bind_some, hc]
      have hzd : z * ((d + 1 : Nat) : Int) = z * d + z := by rw [Int.natCast_add, Int.mul_add]; simp
      have hzd0 : 0 ≤ z * (d : Int) := Int.mul_nonneg (by omega) (by omega)
      rw [Bm.w64 (x := a - _) (by omega) (by omega), show wrap64 ((i : Int) + 1) = ((i + 1 : Nat) : Int) from by rw [Bm.w64 (by omega) (by omega)]; omega]
      rw [ih k (i + 1) _ (by omega) (by omega) (by omega) (by omega) (by omega)]
      unfold freeOf
      rw [List.map_cons, List.sum_cons]
      congr 1
      omega
def freeM (s n f z : Int) (M : List ByteArray) : Int := if okM s n f z M = true then freeOf z M else 0
theorem free_val (s n f z : Int) (hs : -9223372036854775808 ≤ s) (M : List ByteArray) (hM : ∀ m ∈ M, m.size ≤ 1000) : ∀ k, 9010 ≤ k → space_Free.f k s n f z M = some (freeM s n f z M) := by
  intro k hk
  unfold space_Free.f freeM
  rw [right_val s n f z hs M hM k (by omega), Option.bind_some]
  cases h : okM s n f z M with
  | false => rfl
  | true =>
    obtain ⟨h1, h2, h3⟩ := okM_is h
    have hz := h1.z3
    rw [if_pos rfl, if_pos rfl, h2, Bm.w64 (by omega) (by omega)]
    have := free_loop z (by omega) (by omega) M h2 h3 4 k 0 (4 * z) (by omega) (by omega) (by omega) (by omega) (by omega)
    rw [show ((4 : Nat) : Int) = 4 from rfl, show (0 : Int) = ((0 : Nat) : Int) from rfl, this]
    congr 1
    rw [List.drop_zero]
    omega
theorem rfree_one (s n f z : Int) (hz : 3 ≤ z) (hz' : z ≤ 4000) (M : List ByteArray) (i : Nat) (hi : i < M.length) (hl : M.length = 4) (hg : goodM z M[i] = true) (d : Nat) : ∀ (k j : Nat) (a : Int), j + d = z.toNat → d + 50 ≤ k → 0 ≤ a → a + d ≤ 20000 →
    ∃ k', k ≤ k' + d + 1 ∧ k' < k ∧ lockgateref17_Free.l1 k M a i j s n f z = lockgateref17_Free.l0 k' M (a + (d : Int) - ((cnt M[i] z.toNat : Int) - cnt M[i] j)) ((i + 1 : Nat) : Int) s n f z := by
  induction d with
  | zero =>
    intro k j a hj hk h0 h1
    cases k with
    | zero => omega
    | succ k =>
      refine ⟨k, by omega, by omega, ?_⟩
      rw [lockgateref17_Free.l1, if_neg (by omega), show wrap64 ((i : Int) + 1) = ((i + 1 : Nat) : Int) from by rw [Bm.w64 (by omega) (by omega)]; omega]
      obtain rfl : j = z.toNat := by omega
      congr 1
      omega
  | succ d ih =>
    intro k j a hj hk h0 h1
    cases k with
    | zero => omega
    | succ k =>
      have hsz := (goodM_size hg).1
      have hn := need_pos hz hz'
      have hsu := cnt_succ M[i] j
      rw [lockgateref17_Free.l1, if_pos (by omega), if_pos (by omega), if_pos (by omega), rd_get M i hi, rhas_nat _ (by omega) j (by omega) k (by omega), Option.bind_some]
      rw [show wrap64 ((j : Int) + 1) = ((j + 1 : Nat) : Int) from by rw [Bm.w64 (by omega) (by omega)]; omega]
      cases hb : bitOf M[i] j with
      | true =>
        rw [hb, if_pos rfl] at hsu
        rw [if_pos rfl]
        obtain ⟨k', e1, e2, e3⟩ := ih k (j + 1) a (by omega) (by omega) h0 (by omega)
        refine ⟨k', by omega, by omega, ?_⟩
        rw [e3]
        congr 1
        omega
      | false =>
        rw [hb, if_neg (by decide)] at hsu
        rw [if_neg (by decide), Bm.w64 (x := a + 1) (by omega) (by omega)]
        obtain ⟨k', e1, e2, e3⟩ := ih k (j + 1) (a + 1) (by omega) (by omega) (by omega) (by omega)
        refine ⟨k', by omega, by omega, ?_⟩
        rw [e3]
        congr 1
        omega
set_option maxRecDepth 20000 in
theorem rfree_loop (s n f z : Int) (hz : 3 ≤ z) (hz' : z ≤ 4000) (M : List ByteArray) (hl : M.length = 4) (hM : ∀ m ∈ M, goodM z m = true) (d : Nat) : ∀ (k i : Nat) (a : Int), i + d = 4 → d * 4100 + 60 ≤ k → 0 ≤ a → a + 4000 * d ≤ 16000 →
    lockgateref17_Free.l0 k M a i s n f z = some (a + freeOf z (M.drop i)) := by
  induction d with
  | zero =>
    intro k i a hi hk h0 h1
    cases k with
    | zero => omega
    | succ k => rw [lockgateref17_Free.l0, if_neg (by omega), List.drop_eq_nil_of_le (by omega)]; simp [freeOf]
  | succ d ih =>
    intro k i a hi hk h0 h1
    cases k with
    | zero => omega
    | succ k =>
      have hlt : i < M.length := by omega
      have hg := hM _ (List.getElem_mem hlt)
      have hcl := cnt_le M[i] z.toNat
      rw [lockgateref17_Free.l0, if_pos (by omega), List.drop_eq_getElem_cons hlt]
      obtain ⟨k', e1, e2, e3⟩ := rfree_one s n f z hz hz' M i hlt hl hg z.toNat k 0 a (by omega) (by omega) h0 (by omega)
      have c0 : cnt M[i] 0 = 0 := rfl
      rw [show (0 : Int) = ((0 : Nat) : Int) from rfl, e3, c0, ih k' (i + 1) _ (by omega) (by omega) (by omega) (by omega)]
      unfold freeOf
      rw [List.map_cons, List.sum_cons]
      congr 1
      omega
theorem rfree_val (s n f z : Int) (hs : -9223372036854775808 ≤ s) (M : List ByteArray) (hM : ∀ m ∈ M, m.size ≤ 1000) : ∀ k, 20000 ≤ k → lockgateref17_Free.f k s n f z M = some (freeM s n f z M) := by
  intro k hk
  unfold lockgateref17_Free.f freeM
  rw [rright_val s n f z hs M hM k (by omega), Option.bind_some]
  cases h : okM s n f z M with
  | false => rfl
  | true =>
    obtain ⟨h1, h2, h3⟩ := okM_is h
    have hz := h1.z3
    rw [if_pos rfl, if_pos rfl]
    have := rfree_loop s n f z (by omega) (by omega) M h2 h3 4 k 0 0 (by omega) (by omega) (by omega) (by omega)
    rw [show ((0 : Nat) : Int) = 0 from rfl] at this
    rw [this, List.drop_zero]
    simp
/-- Whether a sector is taken. -/
def takenM (s n f z : Int) (M : List ByteArray) (x : Int) : Bool := okM s n f z M && decide (0 ≤ zoneOf f z x) && bitOf (rdOf ByteArray.empty M (zoneOf f z x)) (placeOf f z x).toNat
theorem place_in {f z x : Int} (hz : 3 ≤ z) (h : 0 ≤ zoneOf f z x) : 0 ≤ placeOf f z x ∧ placeOf f z x < z ∧ zoneOf f z x < 4 := by
  rcases zone_is (f := f) (x := x) hz with ⟨h1, _⟩ | ⟨h1, h2, h3, h4⟩
  · omega
  · unfold placeOf; rw [if_neg (by omega)]; omega
theorem taken_val (s n f z : Int) (hs : -9223372036854775808 ≤ s) (M : List ByteArray) (hM : ∀ m ∈ M, m.size ≤ 1000) (x : Int) : ∀ k, 9010 ≤ k → space_Taken.f k s n f z M x = some (takenM s n f z M x) := by
  intro k hk
  unfold space_Taken.f takenM
  rw [zone_val s n f z hs x k (by omega), Option.bind_some]
  by_cases h : IsL s n f z
  · have hz := h.z3
    rw [if_pos h]
    by_cases h0 : 0 ≤ zoneOf f z x
    · rw [if_pos (by omega), right_val s n f z hs M hM k (by omega), Option.bind_some, decide_eq_true h0]
      cases ho : okM s n f z M with
      | false => rfl
      | true =>
        obtain ⟨h1, h2, h3⟩ := okM_is ho
        have hp := place_in (f := f) (x := x) (by omega : 3 ≤ z) h0
        obtain ⟨zn, ez⟩ : ∃ zn : Nat, zoneOf f z x = (zn : Int) := ⟨(zoneOf f z x).toNat, by omega⟩
        have hsz : (rdOf ByteArray.empty M (zoneOf f z x)).size ≤ 1000 := by
          rw [ez, rd_get M zn (by omega)]; exact hM _ (List.getElem_mem _)
        rw [if_pos rfl, if_pos h0, if_pos (by omega), place_val s n f z hs x k (by omega), Option.bind_some, if_pos h, has_ok _ (by omega), Option.bind_some, decide_eq_true hp.1]
        rfl
    · rw [if_neg (by omega), decide_eq_false h0]; simp
  · rw [if_neg h, if_neg (by omega)]
    have : okM s n f z M = false := by unfold okM; rw [decide_eq_false h]; rfl
    rw [this]; rfl
theorem rtaken_val (s n f z : Int) (hs : -9223372036854775808 ≤ s) (M : List ByteArray) (hM : ∀ m ∈ M, m.size ≤ 1000) (x : Int) : ∀ k, 9020 ≤ k → lockgateref17_Taken.f k s n f z M x = some (takenM s n f z M x) := by
  intro k hk
  unfold lockgateref17_Taken.f takenM
  rw [rright_val s n f z hs M hM k (by omega), Option.bind_some, rzone_val s n f z hs x k (by omega), Option.bind_some]
  cases ho : okM s n f z M with
  | false => rfl
  | true =>
    obtain ⟨h1, h2, h3⟩ := okM_is ho
    have hz := h1.z3
    rw [if_pos rfl, if_pos h1]
    by_cases h0 : 0 ≤ zoneOf f z x
    · have hp := place_in (f := f) (x := x) (by omega : 3 ≤ z) h0
      obtain ⟨zn, ez⟩ : ∃ zn : Nat, zoneOf f z x = (zn : Int) := ⟨(zoneOf f z x).toNat, by omega⟩
      have hsz : (rdOf ByteArray.empty M (zoneOf f z x)).size ≤ 1000 := by
        rw [ez, rd_get M zn (by omega)]; exact hM _ (List.getElem_mem _)
      rw [if_pos (by omega), if_pos h0, if_pos (by omega), rplace_val s n f z hs x k (by omega), Option.bind_some, if_pos h1, rhas_ok _ (by omega) _ (by omega) (by omega) k (by omega), Option.bind_some, decide_eq_true hp.1, decide_eq_true h0]
      rfl
    · rw [if_neg (by omega), decide_eq_false h0]; simp
end Go.Proofs.Ytehnbbabjnibkaa.Sp
