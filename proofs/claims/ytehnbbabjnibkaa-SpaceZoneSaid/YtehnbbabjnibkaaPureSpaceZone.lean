/- SpaceZone: sectors are taken from the zone that was told as long as it has any; no sector is told twice. No conditions beyond the row's. -/
import Derived.Test.YtehnbbabjnibkaaQx16
import Derived.Test.YtehnbbabjnibkaaSpC
import Derived.Test.YtehnbbabjnibkaaSaySpaceZone
namespace Go.Proofs.Ytehnbbabjnibkaa.Pure
open Go.RowKit Go.Proofs.Ytehnbbabjnibkaa.Q Go.Proofs.Ytehnbbabjnibkaa.Bm Go.Proofs.Ytehnbbabjnibkaa.Ly Go.Proofs.Ytehnbbabjnibkaa.Sp Go.Proofs.YtehnbbabjnibkaaW.PrintWords Go.Proofs.YtehnbbabjnibkaaW.PrintLast Go.Proofs.YtehnbbabjnibkaaW.PrintMore
set_option linter.unusedVariables false
theorem fresh_valz (s : Int) (h : 140 ≤ s) (h' : s ≤ 240) : ∀ k, 700 ≤ k → lockgatelaw17_fresh.f k s = some (s, 3, 122, (s - 122) / 4, four (mapOf ((s - 122) / 4))) := by
  intro k hk
  obtain ⟨e, hL⟩ := newL_fresh s h h'
  unfold lockgatelaw17_fresh.f
  rw [rnew_val s 3 (by omega) k (by omega), Option.bind_some, e]
  simp only
  rw [rmap_val s 3 122 _ (by omega) k (by omega), Option.bind_some, if_pos hL]
  rfl
theorem rd_sec (f z : Int) (L : List (Nat × Nat)) (i : Nat) (h : i < L.length) : rd (L.map (sec f z)) (i : Int) = sec f z L[i] := by
  unfold rd
  rw [Int.toNat_natCast, List.getD_eq_getElem?_getD, List.getElem?_map, List.getElem?_eq_getElem h]; rfl
/-- No sector is told twice. -/
theorem once_loop {s n f z : Int} (hL : IsL s n f z) (L : List (Nat × Nat)) (hv : ∀ q ∈ L, Val z q) (hd : L.Nodup) (hlen : L.length ≤ 1000) (zo K own c : Int) (j : Nat) (hj : j < L.length) (d : Nat) : ∀ (k i : Nat), i + d = j → d < k →
    lockgatelaw17_SpaceZone.l3 k true zo K own (L.map (sec f z)) c j i s n f z = lockgatelaw17_SpaceZone.l2 (k - d - 1) true zo K own (L.map (sec f z)) c ((j + 1 : Nat) : Int) s n f z := by
  induction d with
  | zero =>
    intro k i hi hk
    obtain ⟨k, rfl⟩ : ∃ m, k = m + 1 := ⟨k - 1, by omega⟩
    rw [lockgatelaw17_SpaceZone.l3, if_neg (by omega), Bm.w64 (by omega) (by omega)]
    rfl
  | succ d ih =>
    intro k i hi hk
    obtain ⟨k, rfl⟩ : ∃ m, k = m + 1 := ⟨k - 1, by omega⟩
    have hne : ¬ (rd (L.map (sec f z)) (i : Int) = rd (L.map (sec f z)) (j : Int)) := by
      rw [rd_sec f z L i (by omega), rd_sec f z L j hj]
      intro e
      have e2 := sec_inj hL (hv _ (List.getElem_mem (by omega))) (hv _ (List.getElem_mem hj)) e
      have := (List.getElem_inj hd).1 e2
      omega
    have hml : (L.map (sec f z)).length = L.length := List.length_map ..
    rw [lockgatelaw17_SpaceZone.l3, if_pos (by omega), if_pos (by omega), if_pos (by omega), if_pos (by omega), if_pos (by omega), if_neg hne]
    rw [show wrap64 ((i : Int) + 1) = ((i + 1 : Nat) : Int) from by rw [Bm.w64 (by omega) (by omega)]; omega, ih k (i + 1) (by omega) (by omega)]
    rw [show k + 1 - (d + 1) - 1 = k - d - 1 by omega]
theorem in_loop {s n f z : Int} (hL : IsL s n f z) (L : List (Nat × Nat)) (hv : ∀ q ∈ L, Val z q) (hd : L.Nodup) (hlen : L.length ≤ 1000) (zn : Nat) (K own : Int) (hK : (L.length : Int) = K) (hown : ((L.countP fun q => q.1 == zn : Nat) : Int) = if own < K then own else K) (d : Nat) : ∀ (k j : Nat), j + d = L.length → 2000 * d + 20 ≤ k →
    lockgatelaw17_SpaceZone.l2 k true zn K own (L.map (sec f z)) (((L.take j).countP fun q => q.1 == zn : Nat) : Int) j s n f z = some true := by
  have hs0 : -9223372036854775808 ≤ s := by have := hL.hs; have := hL.hf; have := hL.n1; omega
  have hml : (L.map (sec f z)).length = L.length := List.length_map ..
  induction d with
  | zero =>
    intro k j hj hk
    obtain ⟨k, rfl⟩ : ∃ m, k = m + 1 := ⟨k - 1, by omega⟩
    rw [lockgatelaw17_SpaceZone.l2, if_neg (by omega), List.take_of_length_le (by omega), hown, hml, hK]
    by_cases h : own < K
    · rw [if_pos h, if_pos h, if_pos rfl, if_pos rfl]; simp
    · rw [if_neg h, if_neg h, if_pos rfl, if_pos rfl]; simp
  | succ d ih =>
    intro k j hj hk
    obtain ⟨k, rfl⟩ : ∃ m, k = m + 2 := ⟨k - 2, by omega⟩
    have hlt : j < L.length := by omega
    obtain ⟨hz1, hz2⟩ := zone_sec hL (hv _ (List.getElem_mem hlt)).1 (hv _ (List.getElem_mem hlt)).2.2
    have hc : ((L.take (j + 1)).countP fun q => q.1 == zn) = ((L.take j).countP fun q => q.1 == zn) + if L[j].1 = zn then 1 else 0 := by
      rw [List.take_succ_eq_append_getElem hlt, List.countP_append, List.countP_singleton]
      by_cases e : L[j].1 = zn
      · rw [if_pos e, if_pos (beq_iff_eq.2 e)]
      · rw [if_neg e, if_neg (fun h => e (beq_iff_eq.1 h))]
    have hle : ((L.take j).countP fun q => q.1 == zn) ≤ 1000 := Nat.le_trans List.countP_le_length (by rw [List.length_take]; omega)
    have key : ∀ c : Int, c = (((L.take (j + 1)).countP fun q => q.1 == zn : Nat) : Int) → lockgatelaw17_SpaceZone.j6 (k + 1) true zn K own (L.map (sec f z)) c j s n f z = some true := by
      intro c hcc
      rw [lockgatelaw17_SpaceZone.j6, show (0 : Int) = ((0 : Nat) : Int) from rfl, once_loop hL L hv hd hlen zn K own c j hlt j k 0 (by omega) (by omega), hcc]
      exact ih (k - j - 1) (j + 1) (by omega) (by omega)
    rw [lockgatelaw17_SpaceZone.l2, if_pos (by omega), if_pos (by omega), rd_sec f z L j hlt, zone_val s n f z hs0 _ _ (by omega), Option.bind_some, if_pos hL, hz1]
    by_cases e : L[j].1 = zn
    · rw [if_pos (by omega), Bm.w64 (by omega) (by omega)]
      exact key _ (by rw [hc, if_pos e]; omega)
    · rw [if_neg (by omega)]
      exact key _ (by rw [hc, if_neg e]; omega)
theorem own_loop {s n f z : Int} (hL : IsL s n f z) (M : List ByteArray) (hg : Sp.Good z M) (zn : Nat) (h4 : zn < 4) (K : Int) (K0 : 0 ≤ K) (K1 : K ≤ 19) (d : Nat) : ∀ (k p : Nat), p + d = z.toNat → 340000 + d ≤ k →
    lockgatelaw17_SpaceZone.l1 k true M zn K ((p : Int) - cnt (mp M zn) p) p s n f z = some true := by
  have hz := hL.z3
  have hs0 : -9223372036854775808 ≤ s := by have := hL.hs; have := hL.hf; have := hL.n1; omega
  induction d with
  | zero =>
    intro k p hp hk
    obtain ⟨k, rfl⟩ : ∃ m, k = m + 1 := ⟨k - 1, by omega⟩
    obtain rfl : p = z.toNat := by omega
    have ht := take_val hL M hg zn h4 K K0 k (by omega)
    rw [lockgatelaw17_SpaceZone.l1, if_neg (by omega)]
    split at ht
    · rename_i hf
      rw [ht, Option.bind_some]
      simp only
      rw [if_neg (by decide), if_pos trivial, free_val _ _ _ _ hs0 _ hg.sizes k (by omega), Option.bind_some]
      unfold freeM
      rw [if_pos (hg.ok hL), decide_eq_true hf]
    · obtain ⟨L, x, e1, e2, e3⟩ := ht
      rw [e1, Option.bind_some]
      simp only
      rw [if_pos trivial]
      have hle := cnt_le (mp M zn) z.toNat
      have hin := ran_in hz.1 hz.2.1 hg e2
      have := in_loop hL L (ran_val e2) (ran_free hz.1 hz.2.1 hg e2).2 (by omega) zn K (((z.toNat : Nat) : Int) - cnt (mp M zn) z.toNat) e3 (by
        rw [hin]
        split <;> omega) L.length k 0 (by omega) (by omega)
      rw [List.take_zero] at this
      exact this
  | succ d ih =>
    intro k p hp hk
    obtain ⟨k, rfl⟩ : ∃ m, k = m + 1 := ⟨k - 1, by omega⟩
    have hb := small_mul hL zn (by omega) (by omega)
    have hf := hL.hf
    have hn8 := hL.n8
    have hn1 := hL.n1
    have hq : (((zn, p) : Nat × Nat).2 : Int) < z := by show (p : Int) < z; omega
    obtain ⟨hz1, hz2⟩ := zone_sec (q := (zn, p)) hL h4 hq
    have hle := cnt_le (mp M zn) p
    have hsu := cnt_succ (mp M zn) p
    have htk : takenM s n f z M (sec f z (zn, p)) = bitOf (mp M zn) p := by
      unfold takenM
      rw [hg.ok hL, hz1, hz2, decide_eq_true (by omega), mp_rd, Int.toNat_natCast]; rfl
    rw [lockgatelaw17_SpaceZone.l1, if_pos (by omega), begin_ok hL zn (by omega) (by omega) k (by omega), Option.bind_some, Bm.w64 (by omega) (by omega), show f + (zn : Int) * z + (p : Int) = sec f z (zn, p) from rfl, taken_val s n f z hs0 M hg.sizes _ k (by omega), Option.bind_some, htk]
    rw [show wrap64 ((p : Int) + 1) = ((p + 1 : Nat) : Int) from by rw [Bm.w64 (by omega) (by omega)]; omega]
    have := ih k (p + 1) (by omega) (by omega)
    cases hb : bitOf (mp M zn) p with
    | true =>
      rw [hb, if_pos rfl] at hsu
      rw [if_pos rfl]
      rw [hsu] at this
      rw [show (((p + 1 : Nat) : Int) - ((cnt (mp M zn) p + 1 : Nat) : Int)) = (p : Int) - cnt (mp M zn) p by omega] at this
      exact this
    | false =>
      rw [hb, if_neg (by decide)] at hsu
      rw [if_neg (by decide), Bm.w64 (x := _ + 1) (by omega) (by omega)]
      rw [hsu] at this
      rw [show (((p + 1 : Nat) : Int) - ((cnt (mp M zn) p + 0 : Nat) : Int)) = (p : Int) - cnt (mp M zn) p + 1 by omega] at this
      exact this
theorem ahead_loop {s n f z : Int} (hL : IsL s n f z) (zone N : Int) (l2 : List Int) (l : List S32) (hl : l.length ≤ 140737488351232) (d : Nat) : ∀ (k i : Nat) (M : List ByteArray), i + d = min l.length 6 → 350000 + 2 * d ≤ k → Sp.Good z M →
    lockgatelaw17_SpaceZone.l0 k l true M i zone N l2 s n f z = some true := by
  have hz := hL.z3
  have hend : ∀ (k : Nat) (M : List ByteArray) (i : Int), 349000 ≤ k → Sp.Good z M → lockgatelaw17_SpaceZone.j2 k l true M i false zone N l2 s n f z = some true := by
    intro k M i hk hg
    obtain ⟨k, rfl⟩ : ∃ m, k = m + 2 := ⟨k - 2, by omega⟩
    obtain ⟨zn, ez⟩ : ∃ zn : Nat, zone % 4 = (zn : Int) := ⟨(zone % 4).toNat, by omega⟩
    have hN := tmod_bound N 20 (by omega)
    have key : ∀ K : Int, 0 ≤ K → K ≤ 19 → lockgatelaw17_SpaceZone.j3 (k + 1) true M zn K s n f z = some true := by
      intro K K0 K1
      rw [lockgatelaw17_SpaceZone.j3]
      exact own_loop hL M hg zn (by omega) K K0 K1 z.toNat k 0 (by omega) (by omega)
    rw [lockgatelaw17_SpaceZone.j2, if_neg (by decide), and3, ez]
    split
    · rw [Bm.w64 (by omega) (by omega)]; exact key _ (by omega) (by omega)
    · exact key _ (by omega) (by omega)
  induction d with
  | zero =>
    intro k i M hi hk hg
    obtain ⟨k, rfl⟩ : ∃ m, k = m + 1 := ⟨k - 1, by omega⟩
    rw [lockgatelaw17_SpaceZone.l0]
    by_cases h : (i : Int) < (l.length : Int)
    · rw [if_pos h, decide_eq_false (by omega)]; exact hend k M _ (by omega) hg
    · rw [if_neg h]; exact hend k M _ (by omega) hg
  | succ d ih =>
    intro k i M hi hk hg
    obtain ⟨k, rfl⟩ : ∃ m, k = m + 2 := ⟨k - 2, by omega⟩
    rw [lockgatelaw17_SpaceZone.l0, if_pos (by omega), decide_eq_true (by omega), lockgatelaw17_SpaceZone.j2, if_pos rfl, if_pos (by omega), if_pos (by omega), and3, and7]
    generalize (rd_T32 l (i : Int)).f0 = a
    generalize (rd_T32 l (i : Int)).f1 = b
    obtain ⟨zn, ez⟩ : ∃ zn : Nat, a % 4 = (zn : Int) := ⟨(a % 4).toNat, by omega⟩
    have ht := take_val hL M hg zn (by omega) (b % 8) (by omega) k (by omega)
    rw [ez, show wrap64 ((i : Int) + 1) = ((i + 1 : Nat) : Int) from by rw [Bm.w64 (by omega) (by omega)]; omega]
    split at ht
    · rw [ht, Option.bind_some]
      simp only
      rw [if_neg (by decide)]
      exact ih k (i + 1) M (by omega) (by omega) hg
    · obtain ⟨L, x, e1, e2, e3⟩ := ht
      rw [e1, Option.bind_some]
      simp only
      rw [if_pos trivial]
      exact ih k (i + 1) x (by omega) (by omega) (ran_good hz.1 hz.2.1 hg e2)
theorem SpaceZone : lockgatelaw17_SpaceZone.Pure := by
  intro c l zone N l2 h0 h1 h2 h3 h4
  refine ⟨400000, ?_⟩
  have hc := tmod_bound c 101 (by omega)
  have hl : l.length ≤ 140737488351232 := by omega
  have key : ∀ (q : Int), 0 ≤ q → q ≤ 100 → ∀ k, 390001 ≤ k → lockgatelaw17_SpaceZone.j0 k l true q zone N l2 = some true := by
    intro q q0 q1 k hk
    obtain ⟨k, rfl⟩ : ∃ j, k = j + 1 := ⟨k - 1, by omega⟩
    obtain ⟨_, hL⟩ := newL_fresh (140 + q) (by omega) (by omega)
    have hz := hL.z3
    rw [lockgatelaw17_SpaceZone.j0, Bm.w64 (by omega) (by omega), fresh_valz _ (by omega) (by omega) _ (by omega), Option.bind_some]
    exact ahead_loop hL zone N l2 l hl (min l.length 6) k 0 _ (by omega) (by omega) (four_good hz.1 hz.2.1)
  unfold lockgatelaw17_SpaceZone.f
  rw [Sp.awake_ok _ (by omega), Option.bind_some]
  by_cases h : Int.tmod c 101 < 0
  · rw [if_pos h, Bm.w64 (by omega) (by omega)]
    exact key _ (by omega) (by omega) _ (by omega)
  · rw [if_neg h]
    exact key _ (by omega) (by omega) _ (by omega)
end Go.Proofs.Ytehnbbabjnibkaa.Pure
