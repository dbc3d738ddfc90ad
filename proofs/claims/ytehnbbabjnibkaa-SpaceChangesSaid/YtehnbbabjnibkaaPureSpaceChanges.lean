/- SpaceChanges: sectors are taken and given as the reference tells; what is handed in stays. No conditions beyond the row's. -/
import Derived.Test.YtehnbbabjnibkaaQx6
import Derived.Test.YtehnbbabjnibkaaQx14
import Derived.Test.YtehnbbabjnibkaaQx15
import Derived.Test.YtehnbbabjnibkaaQx16
import Derived.Test.YtehnbbabjnibkaaSpS
import Derived.Test.YtehnbbabjnibkaaSpB
import Derived.Test.YtehnbbabjnibkaaSaySpaceChanges
namespace Go.Proofs.Ytehnbbabjnibkaa.Pure
open Go.RowKit Go.Proofs.Ytehnbbabjnibkaa.Q Go.Proofs.Ytehnbbabjnibkaa.Bm Go.Proofs.Ytehnbbabjnibkaa.Ly Go.Proofs.Ytehnbbabjnibkaa.Sp Go.Proofs.YtehnbbabjnibkaaW.PrintWords Go.Proofs.YtehnbbabjnibkaaW.PrintLast Go.Proofs.YtehnbbabjnibkaaW.PrintMore
set_option linter.unusedVariables false
/-- How many are free in so many zones from one on. -/
def restFree (z : Int) (M : List ByteArray) (zc : Nat) : Nat → Int
  | 0 => 0
  | n + 1 => (z - cnt (mp M (zc % 4)) z.toNat) + restFree z M (zc + 1) n
theorem rest_nn {z : Int} (hz : 3 ≤ z) (M : List ByteArray) : ∀ (n zc : Nat), 0 ≤ restFree z M zc n
  | 0, _ => by simp [restFree]
  | n + 1, zc => by
    have := rest_nn hz M n (zc + 1)
    have h := cnt_le (mp M (zc % 4)) z.toNat
    unfold restFree
    omega
theorem rest_four {z : Int} {M : List ByteArray} (h : M.length = 4) (zc : Nat) (hc : zc < 4) : restFree z M zc 4 = freeOf z M := by
  rw [freeOf_four h]
  unfold restFree restFree restFree restFree restFree
  rcases (by omega : zc = 0 ∨ zc = 1 ∨ zc = 2 ∨ zc = 3) with e | e | e | e <;> subst e <;> simp <;> omega
theorem rest_put {z : Int} (hz : 3 ≤ z) (hz' : z ≤ 4000) {M : List ByteArray} (hg : Sp.Good z M) {q : Nat × Nat} (hq : Val z q) (hb : bitOf (mp M q.1) q.2 = false) : ∀ (n zc : Nat), restFree z M zc n - (n : Int) ≤ restFree z (put M q true) zc n
  | 0, _ => by simp [restFree]
  | n + 1, zc => by
    have ih := rest_put hz hz' hg hq hb n (zc + 1)
    have hc := put_cnt hz hz' hg hq hb (zc % 4)
    unfold restFree
    rw [hc]
    split <;> omega
theorem rest_put1 {z : Int} (hz : 3 ≤ z) (hz' : z ≤ 4000) {M : List ByteArray} (hg : Sp.Good z M) {q : Nat × Nat} (hq : Val z q) (hb : bitOf (mp M q.1) q.2 = false) : ∀ (n zc : Nat), n ≤ 4 → restFree z (put M q true) zc n = restFree z M zc n - if ∃ t, t < n ∧ (zc + t) % 4 = q.1 then 1 else 0
  | 0, _, _ => by simp [restFree]
  | n + 1, zc, hn => by
    have ih := rest_put1 hz hz' hg hq hb n (zc + 1) (by omega)
    have hc := put_cnt hz hz' hg hq hb (zc % 4)
    have hq4 := hq.1
    unfold restFree
    rw [hc, ih]
    by_cases e : zc % 4 = q.1
    · have h1 : ¬ ∃ t, t < n ∧ (zc + 1 + t) % 4 = q.1 := by rintro ⟨t, h1, h2⟩; omega
      have h2 : ∃ t, t < n + 1 ∧ (zc + t) % 4 = q.1 := ⟨0, by omega, by simpa using e⟩
      rw [if_neg h1, if_pos h2, if_pos e]; omega
    · rw [if_neg e]
      by_cases h1 : ∃ t, t < n ∧ (zc + 1 + t) % 4 = q.1
      · have h2 : ∃ t, t < n + 1 ∧ (zc + t) % 4 = q.1 := by
          obtain ⟨t, a, b⟩ := h1
          exact ⟨t + 1, by omega, by rw [← b]; congr 1; omega⟩
        rw [if_pos h1, if_pos h2]; omega
      · have h2 : ¬ ∃ t, t < n + 1 ∧ (zc + t) % 4 = q.1 := by
          rintro ⟨t, a, b⟩
          cases t with
          | zero => exact e (by simpa using b)
          | succ t => exact h1 ⟨t, by omega, by rw [← b]; congr 1; omega⟩
        rw [if_neg h1, if_neg h2]; omega
theorem firstOf_eq {z : Int} (hz : 3 ≤ z) {m : ByteArray} (hs : m.size = need z) (hz' : z ≤ 4000) {p : Nat} (h2 : 2 ≤ p) (hp : (p : Int) < z) (hb : bitOf m p = false) (hall : ∀ j, j < p → bitOf m j = true) : firstOf m 2 = p := by
  have hn := need_pos hz hz'
  rcases firstOf_is m 2 with ⟨h1, h3⟩ | ⟨r, h1, h3, h4, h5, h6⟩
  · have := h3 p (by simpa using h2) (by omega)
    rw [hb] at this; cases this
  · rw [h1]
    by_cases e : r < p
    · have := hall r e
      rw [h5] at this; cases this
    · by_cases e2 : p < r
      · have := h6 p (by simpa using h2) e2
        rw [hb] at this; cases this
      · have : r = p := by omega
        rw [this]
theorem ref_done {s n f z : Int} (hz : 3 ≤ z) (hz' : z ≤ 4000) (zone N : Int) (M : List ByteArray) (S : List Int) (hN : ¬ ((S.length : Int) < N)) (hzo : 0 ≤ zone) (hzo' : zone ≤ 3) (d : Nat) : ∀ (K : Nat) (turn : Nat), turn + d = 4 → 3 * d + 3 < K → lockgateref17_Take.l0 K zone N M S turn s n f z = some (M, S, true) := by
  induction d with
  | zero =>
    intro K turn ht hK
    obtain ⟨K, rfl⟩ : ∃ q, K = q + 1 := ⟨K - 1, by omega⟩
    rw [lockgateref17_Take.l0, if_neg (by omega)]
  | succ d ih =>
    intro K turn ht hK
    obtain ⟨K, rfl⟩ : ∃ q, K = q + 3 := ⟨K - 3, by omega⟩
    have nx := ih K (turn + 1) (by omega) (by omega)
    rw [lockgateref17_Take.l0, if_pos (by omega), lockgateref17_Take.l1]
    split
    · rw [decide_eq_false hN, lockgateref17_Take.j3, if_neg (by decide)]
      rw [show wrap64 ((turn : Int) + 1) = ((turn + 1 : Nat) : Int) from by rw [Bm.w64 (by omega) (by omega)]; omega]
      exact nx
    · rw [lockgateref17_Take.j3, if_neg (by decide)]
      rw [show wrap64 ((turn : Int) + 1) = ((turn + 1 : Nat) : Int) from by rw [Bm.w64 (by omega) (by omega)]; omega]
      exact nx
theorem meas1 (a zt p m : Nat) (h : a * 5000 + (zt - p) ≤ m + 1) (hp : p < zt) : a * 5000 + (zt - (p + 1)) ≤ m := by
  generalize a * 5000 = b at *
  omega
theorem meas2 (turn zt p m : Nat) (h : (4 - turn) * 5000 + (zt - p) ≤ m + 1) (ht : turn < 3) (hz : zt ≤ 4999) : (4 - (turn + 1)) * 5000 + (zt - 0) ≤ m := by
  obtain ⟨c, hc⟩ : ∃ c, c = 4 - (turn + 1) := ⟨_, rfl⟩
  have e : 4 - turn = c + 1 := by omega
  rw [e, Nat.succ_mul] at h
  rw [← hc]
  obtain ⟨b, hb⟩ : ∃ b, b = c * 5000 := ⟨_, rfl⟩
  rw [← hb] at h ⊢
  clear hb
  omega
set_option maxHeartbeats 1000000 in
theorem take_both {s n f z : Int} (hL : IsL s n f z) (zone : Nat) (h4 : zone < 4) (N : Int) (hN : N ≤ 20000) : ∀ (m K1 K2 turn p : Nat) (M : List ByteArray) (S : List Int), Sp.Good z M → turn < 4 → p ≤ z.toNat → (∀ j, j < p → bitOf (mp M ((zone + turn) % 4)) j = true) → (4 - turn) * 5000 + (z.toNat - p) ≤ m → (S.length : Int) ≤ N → N - (S.length : Int) ≤ restFree z M (zone + turn) (4 - turn) → 3 * m + 20000 ≤ K1 → m + 20000 ≤ K2 →
    ∃ R, lockgateref17_Take.l1 K1 zone N M S turn (((zone + turn) % 4 : Nat) : Int) p s n f z = some R ∧ space_Take.l0 s n f z N K2 M S (((zone + turn) % 4 : Nat) : Int) = some R := by
  have hz := hL.z3
  have hn := need_pos hz.1 hz.2.1
  intro m
  induction m with
  | zero => intro K1 K2 turn p M S hg ht hp hall hm; omega
  | succ m ih =>
    intro K1 K2 turn p M S hg ht hp hall hm hS hfree hK1 hK2
    obtain ⟨zz, hzz⟩ : ∃ zz, zz = (zone + turn) % 4 := ⟨_, rfl⟩
    have hzz4 : zz < 4 := by omega
    rw [← hzz] at hall ⊢
    have hsz := good_size hg zz hzz4
    have hwt : wrap64 ((turn : Int) + 1) = ((turn + 1 : Nat) : Int) := by rw [Bm.w64 (by omega) (by omega)]; omega
    obtain ⟨K1, rfl⟩ : ∃ q, K1 = q + 4 := ⟨K1 - 4, by omega⟩
    obtain ⟨K2, rfl⟩ : ∃ q, K2 = q + 1 := ⟨K2 - 1, by omega⟩
    have k1 : 10000 ≤ K1 := by clear hm; omega
    have k2 : 10000 ≤ K2 := by clear hm; omega
    have HK1 := Aside0.mk (show 3 * m + 20000 ≤ K1 + 1 by clear hm; omega)
    have HK2 := Aside0.mk (show m + 20000 ≤ K2 by clear hm; omega)
    clear hK1 hK2
    have HM := Aside0.mk hm
    clear hm
    have hzt : z.toNat ≤ 4999 := by omega
    obtain ⟨F, hF⟩ : ∃ F, F = restFree z M (zone + turn) (4 - turn) := ⟨_, rfl⟩
    rw [← hF] at hfree
    have HF := Aside0.mk hF
    clear hF
    by_cases hr : (S.length : Int) < N
    · by_cases hpz : p < z.toNat
      · have hlt : (p : Int) < z := Int.lt_toNat.1 hpz
        rw [lockgateref17_Take.l1, if_pos hlt, decide_eq_true hr, lockgateref17_Take.j3, if_pos rfl, if_pos (by omega), if_pos (by rw [hg.1]; omega), mp_rd, rhas_nat _ (by omega) p (by omega) _ (by omega), Option.bind_some]
        rw [show wrap64 ((p : Int) + 1) = ((p + 1 : Nat) : Int) from by rw [Bm.w64 (by omega) (by omega)]; omega]
        cases hb : bitOf (mp M zz) p with
        | true =>
          rw [if_pos rfl]
          have := ih (K1 + 2) (K2 + 1) turn (p + 1) M S hg ht (by omega) (fun j hj => by
            rw [← hzz]
            by_cases e : j = p
            · rw [e]; exact hb
            · exact hall j (by omega)) (meas1 _ _ _ _ HM.out hpz) hS (by rw [← HF.out]; exact hfree) (Nat.le_succ_of_le HK1.out) (Nat.le_succ_of_le HK2.out)
          rw [← hzz] at this
          exact this
        | false =>
          have hp2 : 2 ≤ p := by
            obtain ⟨_, _, b0, b1⟩ := goodM_size (hg.2 zz hzz4)
            rcases (by omega : p = 0 ∨ p = 1 ∨ 2 ≤ p) with e | e | e
            · rw [e, b0] at hb; cases hb
            · rw [e, b1] at hb; cases hb
            · exact e
          have hq : Val z (zz, p) := ⟨hzz4, hp2, hlt⟩
          have hfo := firstOf_eq hz.1 hsz hz.2.1 hp2 hlt hb hall
          have hb2 := small_mul hL zz (by omega) (by omega)
          have hf := hL.hf
          have hn8 := hL.n8
          have hn1 := hL.n1
          have hset : setI (mp M zz) (p : Int) true = setBit (mp M zz) p true := by unfold setI; rw [if_pos (by omega), Int.toNat_natCast]
          have hrp := Aside0.mk (rest_put1 hz.1 hz.2.1 hg hq hb (4 - turn) (zone + turn) (Nat.sub_le _ _))
          rw [if_neg (by decide), rset_ok _ (by omega) (p : Int) (by omega) (by omega) true _ (by omega), Option.bind_some, if_pos (by omega), hset, Int.toNat_natCast]
          rw [show wrap64 (wrap64 (f + wrap64 ((zz : Int) * z)) + (p : Int)) = sec f z (zz, p) from by
            rw [Bm.w64 (x := (zz : Int) * z) (by omega) (by omega), Bm.w64 (x := f + (zz : Int) * z) (by omega) (by omega), Bm.w64 (by omega) (by omega)]; rfl]
          have := ih (K1 + 2) K2 turn (p + 1) (put M (zz, p) true) (S ++ [sec f z (zz, p)]) (put_good hz.1 hz.2.1 hg hq true) ht (by omega) (fun j hj => by
            rw [← hzz, put_bit hz.1 hz.2.1 hg hq]
            by_cases e : j = p
            · rw [if_pos (by rw [e])]
            · rw [if_neg (fun hc => e (congrArg Prod.snd hc))]; exact hall j (by omega)) (meas1 _ _ _ _ HM.out hpz) (by rw [List.length_append]; simp; omega) (by rw [hrp.out, ← HF.out, List.length_append]; simp; split <;> omega) (Nat.le_succ_of_le HK1.out) HK2.out
          rw [← hzz] at this
          obtain ⟨R, h1, h2⟩ := this
          refine ⟨R, by unfold put at h1; exact h1, ?_⟩
          rw [space_Take.l0, if_pos hr, if_pos (by omega), if_pos (by rw [hg.1]; omega), mp_rd, first_ok _ (by omega) 2 (by omega) K2 (by omega), Option.bind_some, hfo, if_neg (by omega), if_neg (by omega), set_in _ (by omega) p (by omega) true, Option.bind_some, begin_ok hL zz (by omega) (by omega) K2 (by omega), Option.bind_some, if_pos (by omega), Bm.w64 (by omega) (by omega), Int.toNat_natCast]
          unfold put at h2
          exact h2
      · obtain rfl : p = z.toNat := Nat.le_antisymm hp (Nat.le_of_not_lt hpz)
        have hsb : (mp M zz).size ≤ 1000 := by clear hwt hzz hfree; omega
        have HWT := Aside0.mk hwt
        clear hwt hn hsz
        have hfull : full z (mp M zz) := hall
        have hc := cnt_full _ hall
        have ht3 : turn < 3 := by
          refine Classical.byContradiction fun h => ?_
          obtain rfl : turn = 3 := by omega
          rw [HF.out, show 4 - 3 = 0 + 1 from rfl] at hfree
          unfold restFree restFree at hfree
          rw [← hzz, hc] at hfree
          omega
        have hf2 : N - (S.length : Int) ≤ restFree z M (zone + (turn + 1)) (4 - (turn + 1)) := by
          rw [HF.out, show 4 - turn = (4 - (turn + 1)) + 1 by omega] at hfree
          unfold restFree at hfree
          rw [← hzz, hc] at hfree
          rw [show zone + (turn + 1) = zone + turn + 1 by omega]
          omega
        clear hc
        have hzn : Int.tmod (wrap64 ((zone : Int) + ((turn + 1 : Nat) : Int))) 4 = (((zone + (turn + 1)) % 4 : Nat) : Int) := by
          rw [Bm.w64 (by omega) (by omega), Int.tmod_eq_emod_of_nonneg (by omega)]; omega
        obtain ⟨R, h1, h2⟩ := ih (K1 + 1) K2 (turn + 1) 0 M S hg (by omega) (by omega) (fun j hj => by omega) (meas2 _ _ _ _ HM.out ht3 hzt) hS hf2 HK1.out HK2.out
        clear hf2 hfree
        have hz1 : (zone + (turn + 1)) % 4 = (zz + 1) % 4 := by rw [hzz, Nat.mod_add_mod, Nat.add_assoc]
        refine ⟨R, ?_, ?_⟩
        · rw [lockgateref17_Take.l1, if_neg (by omega), lockgateref17_Take.j3, if_neg (by decide), HWT.out, lockgateref17_Take.l0, if_pos (by omega), hzn]
          exact h1
        · rw [space_Take.l0, if_pos hr, if_pos (Int.natCast_nonneg zz), if_pos (by rw [hg.1]; exact Int.ofNat_lt.2 hzz4), mp_rd, first_ok _ (Nat.le_trans hsb (by decide)) 2 (by decide) K2 (Nat.lt_of_le_of_lt (Nat.mul_le_mul_left 8 hsb) (Nat.lt_of_lt_of_le (by decide) k2)), Option.bind_some, next_zone zz hzz4]
          rw [hz1] at h2
          rcases first_full hz.1 hfull with hc2 | hc2
          · rw [if_pos hc2]; exact h2
          · by_cases hc3 : firstOf (mp M zz) 2 < 0
            · rw [if_pos hc3]; exact h2
            · rw [if_neg hc3, if_pos hc2]; exact h2
    · refine ⟨(M, S, true), ?_, by rw [space_Take.l0, if_neg hr]⟩
      clear hfree hsz hn hall
      have HWT := Aside0.mk hwt
      clear hwt
      have hd := ref_done (s := s) (n := n) (f := f) hz.1 hz.2.1 zone N M S hr (by omega) (by omega) (3 - turn) (K1 + 2) (turn + 1) (by omega) (by omega)
      rw [lockgateref17_Take.l1]
      split
      · rw [decide_eq_false hr, lockgateref17_Take.j3, if_neg (by decide), HWT.out]; exact hd
      · rw [lockgateref17_Take.j3, if_neg (by decide), HWT.out]; exact hd
set_option maxRecDepth 100000 in
theorem take_same (s n f z : Int) (hs : -9223372036854775808 ≤ s) (M : List ByteArray) (hM : ∀ m ∈ M, m.size ≤ 1000) (hl : M.length ≤ 6) (zone N : Int) : ∀ K, 500000 ≤ K → ∃ R, space_Take.f K s n f z M zone N = some R ∧ lockgateref17_Take.f K s n f z M zone N = some R ∧ R.1.length ≤ 6 ∧ R.2.1.length ≤ 20000 := by
  intro K hK
  obtain ⟨K, rfl⟩ : ∃ q, K = q + 2 := ⟨K - 2, by omega⟩
  unfold space_Take.f lockgateref17_Take.f
  rw [rright_val s n f z hs M hM _ (by omega), Option.bind_some, right_val s n f z hs M hM _ (by omega)]
  have j0 : lockgateref17_Take.j0 (K + 2) M zone N true s n f z = some (M, [], false) := by rw [lockgateref17_Take.j0, if_pos rfl]
  cases ho : okM s n f z M with
  | false =>
    refine ⟨(M, [], false), ?_, by rw [if_neg (by decide)]; exact j0, hl, by simp⟩
    repeat' split
    all_goals (try rfl)
    all_goals simp
  | true =>
    obtain ⟨hL, _, _⟩ := okM_is ho
    have hg := good_of ho
    have hz := hL.z3
    rw [if_pos rfl]
    by_cases c1 : zone < 0
    · exact ⟨_, by rw [if_pos c1], by rw [if_pos c1]; exact j0, hl, by simp⟩
    rw [if_neg c1, if_neg c1]
    by_cases c2 : zone ≥ 4
    · exact ⟨_, by rw [if_pos c2], by rw [if_pos (by omega)]; exact j0, hl, by simp⟩
    rw [if_neg c2, if_neg (show ¬ zone > 3 by omega)]
    by_cases c3 : N < 0
    · exact ⟨_, by rw [if_pos c3], by rw [if_pos c3]; exact j0, hl, by simp⟩
    rw [if_neg c3, if_neg c3, Option.bind_some, if_pos rfl, free_val s n f z hs M hM _ (by omega), Option.bind_some, rfree_val s n f z hs M hM _ (by omega), Option.bind_some]
    have hfm : freeM s n f z M = freeOf z M := by unfold freeM; rw [if_pos ho]
    rw [hfm]
    by_cases c4 : freeOf z M < N
    · exact ⟨_, by rw [if_pos c4], by rw [decide_eq_true c4]; exact j0, hl, by simp⟩
    rw [if_neg c4, decide_eq_false c4]
    obtain ⟨zn, ez⟩ : ∃ zn : Nat, zone = (zn : Int) := ⟨zone.toNat, by omega⟩
    have hfl : freeOf z M ≤ 16000 := by rw [freeOf_four hg.1]; omega
    have e0 : (((zn + 0) % 4 : Nat) : Int) = zone := by omega
    obtain ⟨R, h1, h2⟩ := take_both hL zn (by omega) N (by omega) 30000 K (K + 2) 0 0 M [] hg (by omega) (by omega) (fun j hj => by omega) (by omega) (by simp; omega) (by rw [Nat.add_zero, rest_four hg.1 zn (by omega)]; simp; omega) (by omega) (by omega)
    rw [e0] at h1 h2
    have hsz : R.1.length ≤ 6 ∧ R.2.1.length ≤ 20000 := by
      have ht := take_val hL M hg zn (by omega) N (by omega) (K + 2) (by omega)
      rw [if_neg c4] at ht
      obtain ⟨L, x, g1, g2, g3⟩ := ht
      unfold space_Take.f at g1
      rw [if_neg (by omega), if_neg (by omega), if_neg (by omega), right_val s n f z hs M hM _ (by omega), Option.bind_some, ho, if_pos rfl, free_val s n f z hs M hM _ (by omega), Option.bind_some, hfm, if_neg c4] at g1
      unfold slices_Clone_string_string.f at g1
      rw [if_pos (by omega), Option.bind_some, ← ez, h2] at g1
      have e := Option.some.inj g1
      rw [e]
      have := (ran_good hz.1 hz.2.1 hg g2).1
      simp only [List.length_map]
      omega
    refine ⟨R, ?_, ?_, hsz⟩
    · unfold slices_Clone_string_string.f
      rw [if_pos (by omega), Option.bind_some]
      exact h2
    · rw [lockgateref17_Take.j0, if_neg (by decide), if_pos (by simp; omega), List.nil_append]
      obtain ⟨K, rfl⟩ : ∃ q, K = q + 1 := ⟨K - 1, by omega⟩
      have hzn : Int.tmod (wrap64 (zone + ((0 : Nat) : Int))) 4 = zone := by
        rw [Bm.w64 (by omega) (by omega), Int.tmod_eq_emod_of_nonneg (by omega)]; omega
      obtain ⟨R', h1', h2'⟩ := take_both hL zn (by omega) N (by omega) 30000 (K + 1) (K + 1 + 2) 0 0 M [] hg (by omega) (by omega) (fun j hj => by omega) (by omega) (by simp; omega) (by rw [Nat.add_zero, rest_four hg.1 zn (by omega)]; simp; omega) (by omega) (by omega)
      rw [e0] at h1' h2'
      rw [h2] at h2'
      have eR := Option.some.inj h2'
      rw [show (0 : Int) = ((0 : Nat) : Int) from rfl, lockgateref17_Take.l0, if_pos (by omega), hzn, eR, ez]
      rw [ez] at h1'
      exact h1'
theorem give_both {s n f z : Int} (hL : IsL s n f z) (M0 : List ByteArray) (T : List Int) (hT : T.length ≤ 1000) (d : Nat) : ∀ (K1 K2 i : Nat) (M : List ByteArray), i + d = T.length → Sp.Good z M → 2 * d + 10000 ≤ K1 → 2 * d + 10000 ≤ K2 →
    ∃ R, space_Give.l0 K1 M0 M T T.length i s n f z = some R ∧ lockgateref17_Give.l0 K2 M0 T M i s n f z = some R ∧ (R.1 = M0 ∨ R.1.length = 4) := by
  have hz := hL.z3
  have hn := need_pos hz.1 hz.2.1
  have hs0 : -9223372036854775808 ≤ s := by have := hL.hs; have := hL.hf; have := hL.n1; omega
  induction d with
  | zero =>
    intro K1 K2 i M hi hg h1 h2
    obtain ⟨K1, rfl⟩ : ∃ q, K1 = q + 1 := ⟨K1 - 1, by omega⟩
    obtain ⟨K2, rfl⟩ : ∃ q, K2 = q + 1 := ⟨K2 - 1, by omega⟩
    exact ⟨(M, true), by rw [space_Give.l0, if_neg (by omega)], by rw [lockgateref17_Give.l0, if_neg (by omega)], .inr hg.1⟩
  | succ d ih =>
    intro K1 K2 i M hi hg h1 h2
    obtain ⟨K1, rfl⟩ : ∃ q, K1 = q + 2 := ⟨K1 - 2, by omega⟩
    obtain ⟨K2, rfl⟩ : ∃ q, K2 = q + 2 := ⟨K2 - 2, by omega⟩
    have hwi : wrap64 ((i : Int) + 1) = ((i + 1 : Nat) : Int) := by rw [Bm.w64 (by omega) (by omega)]; omega
    rw [space_Give.l0, if_pos (by omega), if_pos (by omega), if_pos (by omega), lockgateref17_Give.l0, if_pos (by omega), if_pos (by omega)]
    obtain ⟨x, hx⟩ : ∃ x, rd T (i : Int) = x := ⟨_, rfl⟩
    rw [hx]
    have hno : ∃ R, (some (M0, false) : Option (List ByteArray × Bool)) = some R ∧ (some (M0, false) : Option (List ByteArray × Bool)) = some R ∧ (R.1 = M0 ∨ R.1.length = 4) := ⟨_, rfl, rfl, .inl rfl⟩
    rw [place_val s n f z hs0 x _ (by omega), Option.bind_some, if_pos hL, rtaken_val s n f z hs0 M hg.sizes x _ (by omega), Option.bind_some, rplace_val s n f z hs0 x _ (by omega), Option.bind_some, if_pos hL]
    by_cases hp : placeOf f z x < 2
    · rw [if_pos hp, space_Give.j1, if_pos rfl, decide_eq_true hp]
      split
      · rw [lockgateref17_Give.j1, if_pos rfl]; exact hno
      · rw [lockgateref17_Give.j1, if_pos rfl]; exact hno
    · rw [if_neg hp, taken_val s n f z hs0 M hg.sizes x _ (by omega), Option.bind_some, decide_eq_false hp]
      cases ht : takenM s n f z M x with
      | false =>
        rw [space_Give.j1, if_pos (by rfl), if_neg (by decide), lockgateref17_Give.j1, if_pos rfl]; exact hno
      | true =>
        have ht' := ht
        unfold takenM at ht'
        simp only [Bool.and_eq_true, decide_eq_true_eq] at ht'
        have h0 := ht'.1.2
        have hpi := place_in (f := f) (x := x) (by omega : 3 ≤ z) h0
        obtain ⟨zn, ez⟩ : ∃ zn : Nat, zoneOf f z x = (zn : Int) := ⟨(zoneOf f z x).toNat, by omega⟩
        obtain ⟨pn, ep⟩ : ∃ pn : Nat, placeOf f z x = (pn : Int) := ⟨(placeOf f z x).toNat, by omega⟩
        rw [ez] at hpi
        rw [ep] at hp hpi ⊢
        have hq : Val z (zn, pn) := ⟨by omega, by show 2 ≤ pn; omega, by show (pn : Int) < z; omega⟩
        have hsz := good_size hg zn hq.1
        have hset : setI (mp M zn) (pn : Int) false = setBit (mp M zn) pn false := by unfold setI; rw [if_pos (by omega), Int.toNat_natCast]
        rw [space_Give.j1, if_neg (by decide), zone_val s n f z hs0 x _ (by omega), Option.bind_some, if_pos hL, ez, if_pos (by omega), if_pos (by rw [hg.1]; omega), mp_rd, set_in _ (by omega) pn (by omega) false, Option.bind_some, Int.toNat_natCast, hwi]
        rw [if_pos rfl, lockgateref17_Give.j1, if_neg (by decide), if_pos (by omega), if_pos (by omega), hx, rzone_val s n f z hs0 x _ (by omega), Option.bind_some, if_pos hL, ez, if_pos (by omega), if_pos (by rw [hg.1]; omega), mp_rd, rset_ok _ (by omega) (pn : Int) (by omega) (by omega) false _ (by omega), Option.bind_some, hset, Int.toNat_natCast, hwi]
        exact ih K1 K2 (i + 1) (put M (zn, pn) false) (by omega) (put_good hz.1 hz.2.1 hg hq false) (by omega) (by omega)
theorem give_same (s n f z : Int) (hs : -9223372036854775808 ≤ s) (M : List ByteArray) (hM : ∀ m ∈ M, m.size ≤ 1000) (hl : M.length ≤ 6) (T : List Int) (hT : T.length ≤ 1000) : ∀ K, 500000 ≤ K → ∃ R, space_Give.f K s n f z M T = some R ∧ lockgateref17_Give.f K s n f z M T = some R ∧ R.1.length ≤ 6 := by
  intro K hK
  unfold space_Give.f lockgateref17_Give.f
  rw [rright_val s n f z hs M hM _ (by omega), Option.bind_some, right_val s n f z hs M hM _ (by omega), Option.bind_some]
  cases ho : okM s n f z M with
  | false => exact ⟨(M, false), by rw [if_neg (by decide)], by rw [if_neg (by decide)], hl⟩
  | true =>
    obtain ⟨hL, _, _⟩ := okM_is ho
    have hg := good_of ho
    obtain ⟨R, h1, h2, h3⟩ := give_both hL M T hT T.length K K 0 M (by omega) hg (by omega) (by omega)
    refine ⟨R, ?_, ?_, ?_⟩
    · rw [if_pos rfl]
      unfold slices_Clone_string_string.f
      rw [if_pos (by omega), Option.bind_some]
      exact h1
    · rw [if_pos rfl, if_pos (by simp; omega), List.nil_append]
      exact h2
    · rcases h3 with h3 | h3
      · rw [h3]; exact hl
      · omega
theorem SpaceChanges : lockgatelaw17_SpaceChanges.Pure := by
  intro s n f z l zone N T h0 h1 h2 h3 hl ha hb hT
  have hs := (Ly.wf_i64 h0).1
  obtain ⟨K, hK⟩ : ∃ K : Nat, 600000 ≤ K := ⟨600000, Nat.le_refl _⟩
  refine ⟨K, ?_⟩
  have hM := smallM_size l
  have hlen := smallM_len l
  have hsm := small_val l (by omega) K (by omega)
  generalize smallM l = M at hM hlen hsm
  obtain ⟨R, a1, a2, a3, a4⟩ := take_same s n f z hs M hM hlen zone N K (by omega)
  have tail : ∀ (T' : List Int), T'.length ≤ 12 → ∃ G, space_Give.f K s n f z M T' = some G ∧ lockgateref17_Give.f K s n f z M T' = some G ∧ lockgateref15_SameNames.f K G.1 G.1 = some true := by
    intro T' hT'
    obtain ⟨G, g1, g2, g3⟩ := give_same s n f z hs M hM hlen T' (by omega) K (by omega)
    exact ⟨G, g1, g2, same_refl G.1 (by omega) K (by omega)⟩
  have n1 := same_refl R.1 (by omega) K (by omega)
  have n2 := rsame_refl R.2.1 (by omega) K (by omega)
  have n3 := same_refl M (by omega) K (by omega)
  unfold lockgatelaw17_SpaceChanges.f
  rw [Sp.awake_ok K (by omega), Option.bind_some, hsm, Option.bind_some]
  by_cases c : (T.length : Int) > 12
  · obtain ⟨G, g1, g2, g3⟩ := tail (T.take 12) (by rw [List.length_take]; omega)
    rw [if_pos c, if_pos (by omega), a1, Option.bind_some, a2, Option.bind_some, g1, Option.bind_some, g2, Option.bind_some, n1, Option.bind_some, n2, Option.bind_some, g3, Option.bind_some, Option.bind_some, n3, Option.bind_some]
    simp
  · obtain ⟨G, g1, g2, g3⟩ := tail T (by omega)
    rw [if_neg c, a1, Option.bind_some, a2, Option.bind_some, g1, Option.bind_some, g2, Option.bind_some, n1, Option.bind_some, n2, Option.bind_some, g3, Option.bind_some, Option.bind_some, n3, Option.bind_some]
    simp
end Go.Proofs.Ytehnbbabjnibkaa.Pure
