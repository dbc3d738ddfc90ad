/- Chapter 17: what is taken and given, place by place: the runs of Take and Give as lists of zones and places. -/
import Derived.Test.YtehnbbabjnibkaaQx8
import Derived.Test.YtehnbbabjnibkaaQx10
import Derived.Test.YtehnbbabjnibkaaQx14
import Derived.Test.YtehnbbabjnibkaaSpA
namespace Go.Proofs.Ytehnbbabjnibkaa.Sp
open Go.RowKit Go.Proofs.Ytehnbbabjnibkaa.Q Go.Proofs.Ytehnbbabjnibkaa.Bm Go.Proofs.Ytehnbbabjnibkaa.Ly Go.Proofs.YtehnbbabjnibkaaW.PrintWords Go.Proofs.YtehnbbabjnibkaaW.PrintLast Go.Proofs.YtehnbbabjnibkaaW.PrintMore
set_option linter.unusedVariables false
/-- The map of a zone. -/
def mp (M : List ByteArray) (i : Nat) : ByteArray := M.getD i ByteArray.empty
theorem mp_rd (M : List ByteArray) (i : Nat) : rdOf ByteArray.empty M (i : Int) = mp M i := by unfold rdOf mp; rw [Int.toNat_natCast]
theorem mp_get (M : List ByteArray) (i : Nat) (h : i < M.length) : mp M i = M[i] := by rw [← mp_rd, rd_get M i h]
def Good (z : Int) (M : List ByteArray) : Prop := M.length = 4 ∧ ∀ i, i < 4 → goodM z (mp M i) = true
theorem Good.all {z : Int} {M : List ByteArray} (h : Good z M) : ∀ m ∈ M, goodM z m = true := by
  intro m hm
  obtain ⟨i, hi, rfl⟩ := List.mem_iff_getElem.1 hm
  rw [← mp_get M i hi]; exact h.2 i (by have := h.1; omega)
theorem Good.ok {s n f z : Int} {M : List ByteArray} (h : Good z M) (hL : IsL s n f z) : okM s n f z M = true := by
  unfold okM
  rw [decide_eq_true hL, decide_eq_true h.1, List.all_eq_true.2 (fun m hm => h.all m hm)]; rfl
theorem good_of {s n f z : Int} {M : List ByteArray} (h : okM s n f z M = true) : Good z M := by
  obtain ⟨h1, h2, h3⟩ := okM_is h
  exact ⟨h2, fun i hi => by rw [mp_get M i (by omega)]; exact h3 _ (List.getElem_mem _)⟩
theorem good_size {z : Int} {M : List ByteArray} (h : Good z M) (i : Nat) (hi : i < 4) : (mp M i).size = need z := (goodM_size (h.2 i hi)).1
theorem Good.sizes {z : Int} {M : List ByteArray} (h : Good z M) : ∀ m ∈ M, m.size ≤ 1000 := by
  intro m hm
  have := (goodM_size (h.all m hm)).1
  have := need_le z
  omega
def full (z : Int) (m : ByteArray) : Prop := ∀ p, p < z.toNat → bitOf m p = true
theorem cnt_full {m : ByteArray} : ∀ (n : Nat), (∀ p, p < n → bitOf m p = true) → cnt m n = n
  | 0, _ => rfl
  | n + 1, h => by rw [cnt_succ, cnt_full n (fun p hp => h p (by omega)), h n (by omega)]; simp
theorem full_cnt {m : ByteArray} : ∀ (n : Nat), cnt m n = n → ∀ p, p < n → bitOf m p = true
  | 0, _, p, hp => by omega
  | n + 1, h, p, hp => by
    rw [cnt_succ] at h
    have := cnt_le m n
    by_cases e : bitOf m n = true
    · rw [if_pos e] at h
      by_cases ep : p = n
      · rw [ep]; exact e
      · exact full_cnt n (by omega) p (by omega)
    · rw [if_neg e] at h; omega
theorem list4 {M : List ByteArray} (h : M.length = 4) : M = [mp M 0, mp M 1, mp M 2, mp M 3] := by
  match M, h with | [a, b, c, d], _ => rfl
theorem freeOf_four {z : Int} {M : List ByteArray} (h : M.length = 4) : freeOf z M = (z - cnt (mp M 0) z.toNat) + ((z - cnt (mp M 1) z.toNat) + ((z - cnt (mp M 2) z.toNat) + (z - cnt (mp M 3) z.toNat))) := by
  unfold freeOf
  conv => lhs; rw [list4 h]
  simp
theorem some_free {z : Int} {M : List ByteArray} (hz : 0 ≤ z) (h : M.length = 4) (hf : 0 < freeOf z M) : ∃ i, i < 4 ∧ ¬ full z (mp M i) := by
  refine Classical.byContradiction fun hn => ?_
  have hall : ∀ i, i < 4 → cnt (mp M i) z.toNat = z.toNat := fun i hi => cnt_full _ (Classical.byContradiction fun hc => hn ⟨i, hi, hc⟩)
  rw [freeOf_four h, hall 0 (by omega), hall 1 (by omega), hall 2 (by omega), hall 3 (by omega)] at hf
  omega
/-- One place taken or given. -/
def put (M : List ByteArray) (q : Nat × Nat) (b : Bool) : List ByteArray := M.set q.1 (setBit (mp M q.1) q.2 b)
theorem put_len (M : List ByteArray) (q : Nat × Nat) (b : Bool) : (put M q b).length = M.length := List.length_set ..
theorem mp_put (M : List ByteArray) (q : Nat × Nat) (b : Bool) (hq : q.1 < M.length) (i : Nat) : mp (put M q b) i = if i = q.1 then setBit (mp M i) q.2 b else mp M i := by
  unfold mp put
  rw [List.getD_eq_getElem?_getD, List.getD_eq_getElem?_getD]
  by_cases e : i = q.1
  · subst e
    rw [if_pos rfl, List.getElem?_set_self hq]
    simp [mp]
  · rw [if_neg e, List.getElem?_set_ne (Ne.symm e)]
/-- A place that can be taken: behind the zone's own two. -/
def Val (z : Int) (q : Nat × Nat) : Prop := q.1 < 4 ∧ 2 ≤ q.2 ∧ (q.2 : Int) < z
theorem good_set {z : Int} {m : ByteArray} (hz : 3 ≤ z) (hz' : z ≤ 4000) (h : goodM z m = true) {p : Nat} (h2 : 2 ≤ p) (hp : (p : Int) < z) (b : Bool) : goodM z (setBit m p b) = true := by
  obtain ⟨h1, h3, h4, h5⟩ := goodM_size h
  have hn := need_pos hz hz'
  have hb := setBit_bit m p b (by omega)
  unfold goodM rightB
  simp only [Bool.and_eq_true, decide_eq_true_eq, setBit_size]
  refine ⟨⟨⟨⟨⟨by omega, hz'⟩, h1⟩, ?_⟩, ?_⟩, ?_⟩
  · rw [noneFrom_iff] at h3 ⊢
    intro i hi hbi
    rw [hb] at hbi
    by_cases e : i = p
    · omega
    · rw [if_neg e] at hbi; exact h3 i hi hbi
  · rw [hb, if_neg (by omega)]; exact h4
  · rw [hb, if_neg (by omega)]; exact h5
theorem put_good {z : Int} {M : List ByteArray} (hz : 3 ≤ z) (hz' : z ≤ 4000) (h : Good z M) {q : Nat × Nat} (hq : Val z q) (b : Bool) : Good z (put M q b) := by
  refine ⟨by rw [put_len]; exact h.1, fun i hi => ?_⟩
  rw [mp_put M q b (by rw [h.1]; exact hq.1)]
  by_cases e : i = q.1
  · rw [if_pos e]; exact good_set hz hz' (h.2 i hi) hq.2.1 hq.2.2 b
  · rw [if_neg e]; exact h.2 i hi
theorem put_bit {z : Int} {M : List ByteArray} (hz : 3 ≤ z) (hz' : z ≤ 4000) (h : Good z M) {q : Nat × Nat} (hq : Val z q) (b : Bool) (i p : Nat) : bitOf (mp (put M q b) i) p = if (i, p) = q then b else bitOf (mp M i) p := by
  have hn := need_pos hz hz'
  rw [mp_put M q b (by rw [h.1]; exact hq.1)]
  by_cases e : i = q.1
  · rw [if_pos e]
    have hs := good_size h i (by rw [e]; exact hq.1)
    rw [setBit_bit _ _ _ (by have := hq.2.2; omega)]
    by_cases ep : p = q.2
    · rw [if_pos ep, if_pos (by rw [e, ep])]
    · rw [if_neg ep, if_neg (by intro hc; exact ep (congrArg Prod.snd hc))]
  · rw [if_neg e, if_neg (by intro hc; exact e (congrArg Prod.fst hc))]
theorem put_cnt {z : Int} {M : List ByteArray} (hz : 3 ≤ z) (hz' : z ≤ 4000) (h : Good z M) {q : Nat × Nat} (hq : Val z q) (hb : bitOf (mp M q.1) q.2 = false) (i : Nat) : cnt (mp (put M q true) i) z.toNat = cnt (mp M i) z.toNat + if i = q.1 then 1 else 0 := by
  have hn := need_pos hz hz'
  rw [mp_put M q true (by rw [h.1]; exact hq.1)]
  by_cases e : i = q.1
  · rw [if_pos e, if_pos e]
    have hs := good_size h i (by rw [e]; exact hq.1)
    have hlt : q.2 < z.toNat := by have := hq.2.2; omega
    have := cnt_set (mp M i) q.2 true (by omega) z.toNat
    rw [e] at this ⊢
    rw [hb] at this
    simp [hlt] at this
    exact this
  · rw [if_neg e, if_neg e]; rfl
theorem put_free {z : Int} {M : List ByteArray} (hz : 3 ≤ z) (hz' : z ≤ 4000) (h : Good z M) {q : Nat × Nat} (hq : Val z q) (hb : bitOf (mp M q.1) q.2 = false) : freeOf z (put M q true) = freeOf z M - 1 := by
  rw [freeOf_four (by rw [put_len]; exact h.1), freeOf_four h.1, put_cnt hz hz' h hq hb, put_cnt hz hz' h hq hb, put_cnt hz hz' h hq hb, put_cnt hz hz' h hq hb]
  have := hq.1
  rcases (by omega : q.1 = 0 ∨ q.1 = 1 ∨ q.1 = 2 ∨ q.1 = 3) with e | e | e | e <;> rw [e] <;> simp <;> omega
/-- A sector by its zone and place. -/
def sec (f z : Int) (q : Nat × Nat) : Int := f + q.1 * z + q.2
theorem zone_sec {s n f z : Int} (h : IsL s n f z) {q : Nat × Nat} (hq : q.1 < 4) (hp : (q.2 : Int) < z) : zoneOf f z (sec f z q) = q.1 ∧ placeOf f z (sec f z q) = q.2 := by
  have e : zoneOf f z (sec f z q) = q.1 := by
    unfold zoneOf sec
    rcases (by omega : q.1 = 0 ∨ q.1 = 1 ∨ q.1 = 2 ∨ q.1 = 3) with e | e | e | e <;> rw [e] <;> simp <;> (repeat' split) <;> omega
  refine ⟨e, ?_⟩
  unfold placeOf
  rw [e, if_neg (by omega)]
  unfold sec
  omega
theorem sec_inj {s n f z : Int} (h : IsL s n f z) {q r : Nat × Nat} (hq : Val z q) (hr : Val z r) (e : sec f z q = sec f z r) : q = r := by
  have h1 := zone_sec h hq.1 hq.2.2
  have h2 := zone_sec h hr.1 hr.2.2
  rw [e] at h1
  have a : (q.1 : Int) = r.1 := h1.1.symm.trans h2.1
  have b : (q.2 : Int) = r.2 := h1.2.symm.trans h2.2
  exact Prod.ext (by omega) (by omega)
/-- A run of Take: each place is free when it is taken, and of the zone told, or that one is full. -/
def Ran (z : Int) (zone : Nat) : List ByteArray → List (Nat × Nat) → List ByteArray → Prop
  | M, [], x => x = M
  | M, q :: L, x => Val z q ∧ bitOf (mp M q.1) q.2 = false ∧ (q.1 = zone ∨ full z (mp M zone)) ∧ Ran z zone (put M q true) L x
theorem first_full {z : Int} {m : ByteArray} (hz : 3 ≤ z) (hf : full z m) : firstOf m 2 < 0 ∨ z ≤ firstOf m 2 := by
  rcases firstOf_is m 2 with ⟨h1, _⟩ | ⟨r, h1, h2, h3, h4, h5⟩
  · left; omega
  · right
    rw [h1]
    refine Classical.byContradiction fun hc => ?_
    rw [hf r (by omega)] at h4
    cases h4
theorem first_some {z : Int} {m : ByteArray} (hz : 3 ≤ z) (hz' : z ≤ 4000) (hg : goodM z m = true) (hf : ¬ full z m) : ∃ r : Nat, firstOf m 2 = r ∧ 2 ≤ r ∧ (r : Int) < z ∧ bitOf m r = false := by
  obtain ⟨h1, h3, h4, h5⟩ := goodM_size hg
  have hn := need_pos hz hz'
  rcases firstOf_is m 2 with ⟨e1, e2⟩ | ⟨r, e1, e2, e3, e4, e5⟩
  · refine absurd (fun p hp => ?_) hf
    by_cases p0 : p = 0
    · rw [p0]; exact h4
    · by_cases p1 : p = 1
      · rw [p1]; exact h5
      · exact e2 p (by simp; omega) (by omega)
  · refine ⟨r, e1, by simpa using e2, ?_, e4⟩
    refine Classical.byContradiction fun hc => hf (fun p hp => ?_)
    by_cases p0 : p = 0
    · rw [p0]; exact h4
    · by_cases p1 : p = 1
      · rw [p1]; exact h5
      · exact e5 p (by simp; omega) (by omega)
theorem next_zone (zc : Nat) (h : zc < 4) : Int.tmod (wrap64 ((zc : Int) + 1)) 4 = (((zc + 1) % 4 : Nat) : Int) := by
  rw [Bm.w64 (by omega) (by omega), Int.tmod_eq_emod_of_nonneg (by omega)]; omega
theorem take_move {s n f z : Int} (hL : IsL s n f z) (K : Int) (M : List ByteArray) (S : List Int) (hg : Good z M) (zone : Nat) (hK : (S.length : Int) < K) (i : Nat) : ∀ (k zc : Nat), zc < 4 → (zc = zone ∨ full z (mp M zone)) → ¬ full z (mp M ((zc + i) % 4)) → i + 4100 ≤ k →
    ∃ k' zc', k ≤ k' + i ∧ k' ≤ k ∧ zc' < 4 ∧ (zc' = zone ∨ full z (mp M zone)) ∧ ¬ full z (mp M zc') ∧ space_Take.l0 s n f z K k M S zc = space_Take.l0 s n f z K k' M S zc' := by
  have hz := hL.z3
  have hn := need_pos hz.1 hz.2.1
  induction i with
  | zero =>
    intro k zc h4 hzn hnf hk
    rw [Nat.add_zero, Nat.mod_eq_of_lt h4] at hnf
    exact ⟨k, zc, by omega, by omega, h4, hzn, hnf, rfl⟩
  | succ i ih =>
    intro k zc h4 hzn hnf hk
    by_cases hf : full z (mp M zc)
    · obtain ⟨k, rfl⟩ : ∃ j, k = j + 1 := ⟨k - 1, by omega⟩
      have hsz := good_size hg zc h4
      obtain ⟨k', zc', e1, e2, e3, e4, e5, e6⟩ := ih k ((zc + 1) % 4) (Nat.mod_lt _ (by omega)) (by
        rcases hzn with e | e
        · right; rw [← e]; exact hf
        · exact .inr e) (by rwa [show ((zc + 1) % 4 + i) % 4 = (zc + (i + 1)) % 4 by omega]) (by omega)
      refine ⟨k', zc', by omega, by omega, e3, e4, e5, ?_⟩
      rw [← e6, space_Take.l0, if_pos hK, if_pos (by omega), if_pos (by rw [hg.1]; omega), mp_rd, first_ok _ (by omega) 2 (by omega) k (by omega), Option.bind_some, next_zone zc h4]
      rcases first_full hz.1 hf with hc | hc
      · rw [if_pos hc]
      · by_cases hc' : firstOf (mp M zc) 2 < 0
        · rw [if_pos hc']
        · rw [if_neg hc', if_pos hc]
    · exact ⟨k, zc, by omega, by omega, h4, hzn, hf, rfl⟩
theorem take_loop {s n f z : Int} (hL : IsL s n f z) (K : Int) (zone : Nat) (r : Nat) : ∀ (k : Nat) (M : List ByteArray) (S : List Int) (zc : Nat), Good z M → zc < 4 → (S.length : Int) + r = K → K ≤ 100000 → (r : Int) ≤ freeOf z M → (zc = zone ∨ full z (mp M zone)) → 5 * r + 4200 ≤ k →
    ∃ L x, space_Take.l0 s n f z K k M S zc = some (x, S ++ L.map (sec f z), true) ∧ Ran z zone M L x ∧ L.length = r := by
  have hz := hL.z3
  have hn := need_pos hz.1 hz.2.1
  induction r with
  | zero =>
    intro k M S zc hg h4 hK hKb hfr hzn hk
    obtain ⟨k, rfl⟩ : ∃ j, k = j + 1 := ⟨k - 1, by omega⟩
    exact ⟨[], M, by rw [space_Take.l0, if_neg (by omega)]; simp, rfl, rfl⟩
  | succ r ih =>
    intro k M S zc hg h4 hK hKb hfr hzn hk
    obtain ⟨i0, hi0, hnf0⟩ := some_free (by omega) hg.1 (by omega : 0 < freeOf z M)
    obtain ⟨k1, zc1, e1, e2, e3, e4, e5, e6⟩ := take_move hL K M S hg zone (by omega) ((i0 + 4 - zc) % 4) k zc h4 hzn (by rwa [show (zc + (i0 + 4 - zc) % 4) % 4 = i0 by omega]) (by omega)
    obtain ⟨k2, rfl⟩ : ∃ j, k1 = j + 1 := ⟨k1 - 1, by omega⟩
    have hsz := good_size hg zc1 e3
    obtain ⟨p, p1, p2, p3, p4⟩ := first_some hz.1 hz.2.1 (hg.2 zc1 e3) e5
    have hq : Val z (zc1, p) := ⟨e3, p2, p3⟩
    have hfr' := put_free hz.1 hz.2.1 hg hq p4
    have hb := small_mul hL zc1 (by omega) (by omega)
    have hf := hL.hf
    have hn8 := hL.n8
    have hn1 := hL.n1
    obtain ⟨L, x, g1, g2, g3⟩ := ih k2 (put M (zc1, p) true) (S ++ [sec f z (zc1, p)]) zc1 (put_good hz.1 hz.2.1 hg hq true) e3 (by rw [List.length_append]; simp; omega) hKb (by rw [hfr']; omega) (by
      rcases e4 with e | e
      · exact .inl e
      · right
        intro p' hp'
        rw [put_bit hz.1 hz.2.1 hg hq]
        split
        · rfl
        · exact e p' hp') (by omega)
    refine ⟨(zc1, p) :: L, x, ?_, ⟨hq, p4, e4, g2⟩, by rw [List.length_cons, g3]⟩
    rw [e6, space_Take.l0, if_pos (by omega), if_pos (by omega), if_pos (by rw [hg.1]; omega), mp_rd, first_ok _ (by omega) 2 (by omega) k2 (by omega), Option.bind_some, p1, if_neg (by omega), if_neg (by omega), set_in _ (by omega) p (by omega) true, Option.bind_some, begin_ok hL zc1 (by omega) (by omega) k2 (by omega), Option.bind_some, if_pos (by omega)]
    rw [Bm.w64 (by omega) (by omega), Int.toNat_natCast]
    have := g1
    unfold put at this
    rw [show f + (zc1 : Int) * z + (p : Int) = sec f z (zc1, p) from rfl, this]
    simp
/-- What Take tells of right maps. -/
theorem take_val {s n f z : Int} (hL : IsL s n f z) (M : List ByteArray) (hg : Good z M) (zone : Nat) (h4 : zone < 4) (K : Int) (h0 : 0 ≤ K) : ∀ k, 300000 ≤ k →
    if freeOf z M < K then space_Take.f k s n f z M zone K = some (M, [], false)
    else ∃ L x, space_Take.f k s n f z M zone K = some (x, L.map (sec f z), true) ∧ Ran z zone M L x ∧ (L.length : Int) = K := by
  intro k hk
  have hz := hL.z3
  have hs0 : -9223372036854775808 ≤ s := by have := hL.hs; have := hL.hf; have := hL.n1; omega
  have hok := hg.ok hL
  have hfr : freeM s n f z M = freeOf z M := by unfold freeM; rw [if_pos hok]
  have hfl : freeOf z M ≤ 16000 := by rw [freeOf_four hg.1]; omega
  have hun : space_Take.f k s n f z M zone K = if freeOf z M < K then some (M, [], false) else space_Take.l0 s n f z K k M [] zone := by
    unfold space_Take.f
    rw [if_neg (by omega), if_neg (by omega), if_neg (by omega), right_val s n f z hs0 M hg.sizes k (by omega), Option.bind_some, hok, if_pos rfl, free_val s n f z hs0 M hg.sizes k (by omega), Option.bind_some, hfr]
    split
    · rfl
    · unfold slices_Clone_string_string.f
      rw [if_pos (by rw [hg.1]; omega), Option.bind_some]
  rw [hun]
  split
  · rfl
  · rename_i hn
    obtain ⟨r, hr⟩ : ∃ r : Nat, K = r := ⟨K.toNat, by omega⟩
    obtain ⟨L, x, g1, g2, g3⟩ := take_loop hL K zone r k M [] zone hg h4 (by simp; omega) (by omega) (by omega) (.inl rfl) (by omega)
    exact ⟨L, x, by rw [g1]; simp, g2, by omega⟩
theorem ran_good {z : Int} (hz : 3 ≤ z) (hz' : z ≤ 4000) {zone : Nat} : ∀ {L : List (Nat × Nat)} {M x : List ByteArray}, Good z M → Ran z zone M L x → Good z x
  | [], _, _, hg, h => by rw [show _ = _ from h]; exact hg
  | q :: L, M, x, hg, h => ran_good hz hz' (put_good hz hz' hg h.1 true) h.2.2.2
theorem ran_val {z : Int} {zone : Nat} : ∀ {L : List (Nat × Nat)} {M x : List ByteArray}, Ran z zone M L x → ∀ q ∈ L, Val z q
  | [], _, _, _ => fun _ h => by cases h
  | q :: L, M, x, h => fun r hr => by
    rcases List.mem_cons.1 hr with rfl | hr
    · exact h.1
    · exact ran_val h.2.2.2 r hr
theorem ran_bit {z : Int} (hz : 3 ≤ z) (hz' : z ≤ 4000) {zone : Nat} : ∀ {L : List (Nat × Nat)} {M x : List ByteArray}, Good z M → Ran z zone M L x → ∀ i p, bitOf (mp x i) p = (bitOf (mp M i) p || decide ((i, p) ∈ L))
  | [], M, x, hg, h => fun i p => by rw [show x = M from h]; simp
  | q :: L, M, x, hg, h => fun i p => by
    rw [ran_bit hz hz' (put_good hz hz' hg h.1 true) h.2.2.2 i p, put_bit hz hz' hg h.1]
    by_cases e : (i, p) = q
    · rw [if_pos e, e]; simp
    · rw [if_neg e]; simp [e]
theorem ran_free {z : Int} (hz : 3 ≤ z) (hz' : z ≤ 4000) {zone : Nat} : ∀ {L : List (Nat × Nat)} {M x : List ByteArray}, Good z M → Ran z zone M L x → (∀ q ∈ L, bitOf (mp M q.1) q.2 = false) ∧ L.Nodup
  | [], _, _, _, _ => ⟨fun _ h => (by cases h), List.nodup_nil⟩
  | q :: L, M, x, hg, h => by
    obtain ⟨h1, h2⟩ := ran_free hz hz' (put_good hz hz' hg h.1 true) h.2.2.2
    refine ⟨fun r hr => ?_, List.nodup_cons.2 ⟨fun hq => ?_, h2⟩⟩
    · rcases List.mem_cons.1 hr with rfl | hr
      · exact h.2.1
      · have := h1 r hr
        rw [put_bit hz hz' hg h.1] at this
        split at this
        · cases this
        · exact this
    · have := h1 q hq
      rw [put_bit hz hz' hg h.1, if_pos rfl] at this
      cases this
/-- What Give does with places that are taken. -/
theorem give_loop {s n f z : Int} (hL : IsL s n f z) (x1 : List ByteArray) (T : List (Nat × Nat)) (hT : T.length ≤ 100000) (d : Nat) : ∀ (k i : Nat) (M : List ByteArray), i + d = T.length → 2 * d + 9100 ≤ k → Good z M → (∀ q ∈ T.drop i, Val z q ∧ bitOf (mp M q.1) q.2 = true) → (T.drop i).Nodup →
    space_Give.l0 k x1 M (T.map (sec f z)) T.length i s n f z = some ((T.drop i).foldl (fun M q => put M q false) M, true) := by
  have hz := hL.z3
  have hn := need_pos hz.1 hz.2.1
  have hs0 : -9223372036854775808 ≤ s := by have := hL.hs; have := hL.hf; have := hL.n1; omega
  induction d with
  | zero =>
    intro k i M hi hk hg hv hd
    obtain ⟨k, rfl⟩ : ∃ j, k = j + 1 := ⟨k - 1, by omega⟩
    rw [space_Give.l0, if_neg (by omega), List.drop_eq_nil_of_le (by omega)]; rfl
  | succ d ih =>
    intro k i M hi hk hg hv hd
    obtain ⟨k, rfl⟩ : ∃ j, k = j + 2 := ⟨k - 2, by omega⟩
    have hlt : i < T.length := by omega
    rw [List.drop_eq_getElem_cons hlt] at hv hd ⊢
    obtain ⟨hq, hb⟩ := hv _ List.mem_cons_self
    obtain ⟨hz1, hz2⟩ := zone_sec hL hq.1 hq.2.2
    have hrd : rd (T.map (sec f z)) (i : Int) = sec f z T[i] := by
      unfold rd
      rw [Int.toNat_natCast, List.getD_eq_getElem?_getD, List.getElem?_map, List.getElem?_eq_getElem hlt]; rfl
    have hsz := good_size hg _ hq.1
    have htk : takenM s n f z M (sec f z T[i]) = true := by
      unfold takenM
      rw [hg.ok hL, hz1, hz2, decide_eq_true (by omega), mp_rd, Int.toNat_natCast, hb]; rfl
    rw [space_Give.l0, if_pos (by omega), if_pos (by omega), if_pos (by rw [List.length_map]; omega), hrd, place_val s n f z hs0 _ _ (by omega), Option.bind_some, if_pos hL, hz2, if_neg (by have := hq.2.1; omega), taken_val s n f z hs0 M hg.sizes _ _ (by omega), Option.bind_some, htk, space_Give.j1, if_neg (by decide), zone_val s n f z hs0 _ _ (by omega), Option.bind_some, if_pos hL, hz1, if_pos (by omega), if_pos (by rw [hg.1]; have := hq.1; omega), mp_rd, set_in _ (by omega) _ (by have := hq.2.2; omega) false, Option.bind_some, Int.toNat_natCast]
    rw [show wrap64 ((i : Int) + 1) = ((i + 1 : Nat) : Int) from by rw [Bm.w64 (by omega) (by omega)]; omega]
    have := ih k (i + 1) (put M T[i] false) (by omega) (by omega) (put_good hz.1 hz.2.1 hg hq false) (fun r hr => ?_) (List.nodup_cons.1 hd).2
    · unfold put at this
      exact this
    · obtain ⟨hr1, hr2⟩ := hv r (List.mem_cons_of_mem _ hr)
      refine ⟨hr1, ?_⟩
      rw [put_bit hz.1 hz.2.1 hg hq, if_neg, hr2]
      intro e
      exact (List.nodup_cons.1 hd).1 (by rw [← e]; exact hr)
theorem gave_bit {z : Int} (hz : 3 ≤ z) (hz' : z ≤ 4000) : ∀ (T : List (Nat × Nat)) (M : List ByteArray), Good z M → (∀ q ∈ T, Val z q) → Good z (T.foldl (fun M q => put M q false) M) ∧ ∀ i p, bitOf (mp (T.foldl (fun M q => put M q false) M) i) p = (bitOf (mp M i) p && !decide ((i, p) ∈ T))
  | [], M, hg, _ => ⟨hg, fun i p => by simp⟩
  | q :: T, M, hg, hv => by
    have hq := hv q List.mem_cons_self
    obtain ⟨h1, h2⟩ := gave_bit hz hz' T (put M q false) (put_good hz hz' hg hq false) (fun r hr => hv r (List.mem_cons_of_mem _ hr))
    refine ⟨h1, fun i p => ?_⟩
    rw [List.foldl_cons, h2, put_bit hz hz' hg hq]
    by_cases e : (i, p) = q
    · rw [if_pos e, e]; simp
    · rw [if_neg e]; simp [e]
theorem maps_ext {z : Int} {M N : List ByteArray} (hM : Good z M) (hN : Good z N) (h : ∀ i p, bitOf (mp M i) p = bitOf (mp N i) p) : M = N := by
  rw [list4 hM.1, list4 hN.1]
  have e : ∀ i, i < 4 → mp M i = mp N i := fun i hi => bits_ext (by rw [good_size hM i hi, good_size hN i hi]) (fun p _ => h i p)
  rw [e 0 (by omega), e 1 (by omega), e 2 (by omega), e 3 (by omega)]
theorem give_val {s n f z : Int} (hL : IsL s n f z) (M : List ByteArray) (hg : Good z M) (T : List (Nat × Nat)) (hT : T.length ≤ 100000) (hv : ∀ q ∈ T, Val z q ∧ bitOf (mp M q.1) q.2 = true) (hd : T.Nodup) : ∀ k, 300000 ≤ k →
    space_Give.f k s n f z M (T.map (sec f z)) = some (T.foldl (fun M q => put M q false) M, true) := by
  intro k hk
  have hs0 : -9223372036854775808 ≤ s := by have := hL.hs; have := hL.hf; have := hL.n1; omega
  unfold space_Give.f
  rw [right_val s n f z hs0 M hg.sizes k (by omega), Option.bind_some, hg.ok hL, if_pos rfl]
  unfold slices_Clone_string_string.f
  rw [if_pos (by rw [hg.1]; omega), Option.bind_some, List.length_map]
  exact give_loop hL M T hT T.length k 0 M (by omega) (by omega) hg (by simpa using hv) (by simpa using hd)
theorem same_loop (l : List ByteArray) (hl : l.length ≤ 100000) (d : Nat) : ∀ (k i : Nat), i + d = l.length → d < k → lockgateref15_SameNames.l0 k l l i = some true := by
  induction d with
  | zero =>
    intro k i hi hk
    obtain ⟨k, rfl⟩ : ∃ j, k = j + 1 := ⟨k - 1, by omega⟩
    rw [lockgateref15_SameNames.l0, if_neg (by omega)]
  | succ d ih =>
    intro k i hi hk
    obtain ⟨k, rfl⟩ : ∃ j, k = j + 1 := ⟨k - 1, by omega⟩
    rw [lockgateref15_SameNames.l0, if_pos (by omega), if_pos (by omega), if_pos (by omega)]
    simp only [↓reduceIte]
    rw [show wrap64 ((i : Int) + 1) = ((i + 1 : Nat) : Int) from by rw [Bm.w64 (by omega) (by omega)]; omega]
    exact ih k (i + 1) (by omega) (by omega)
theorem same_refl (l : List ByteArray) (hl : l.length ≤ 100000) : ∀ k, l.length < k → lockgateref15_SameNames.f k l l = some true := by
  intro k hk
  unfold lockgateref15_SameNames.f
  rw [if_pos rfl]
  exact same_loop l hl l.length k 0 (by omega) hk
end Go.Proofs.Ytehnbbabjnibkaa.Sp
