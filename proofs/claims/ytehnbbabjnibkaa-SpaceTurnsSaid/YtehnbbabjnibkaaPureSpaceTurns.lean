/- SpaceTurns: what is taken was free, and is taken then; given back all is as it was. No conditions beyond the row's. -/
import Derived.Test.YtehnbbabjnibkaaQx16
import Derived.Test.YtehnbbabjnibkaaSpC
import Derived.Test.YtehnbbabjnibkaaSaySpaceTurns
namespace Go.Proofs.Ytehnbbabjnibkaa.Pure
open Go.RowKit Go.Proofs.Ytehnbbabjnibkaa.Q Go.Proofs.Ytehnbbabjnibkaa.Bm Go.Proofs.Ytehnbbabjnibkaa.Ly Go.Proofs.Ytehnbbabjnibkaa.Sp Go.Proofs.YtehnbbabjnibkaaW.PrintWords Go.Proofs.YtehnbbabjnibkaaW.PrintLast Go.Proofs.YtehnbbabjnibkaaW.PrintMore
set_option linter.unusedVariables false
theorem fresh_valt (s : Int) (h : 140 ≤ s) (h' : s ≤ 240) : ∀ k, 700 ≤ k → lockgatelaw17_fresh.f k s = some (s, 3, 122, (s - 122) / 4, four (mapOf ((s - 122) / 4))) := by
  intro k hk
  obtain ⟨e, hL⟩ := newL_fresh s h h'
  unfold lockgatelaw17_fresh.f
  rw [rnew_val s 3 (by omega) k (by omega), Option.bind_some, e]
  simp only
  rw [rmap_val s 3 122 _ (by omega) k (by omega), Option.bind_some, if_pos hL]
  rfl
theorem rd_sect (f z : Int) (L : List (Nat × Nat)) (i : Nat) (h : i < L.length) : rd (L.map (sec f z)) (i : Int) = sec f z L[i] := by
  unfold rd
  rw [Int.toNat_natCast, List.getD_eq_getElem?_getD, List.getElem?_map, List.getElem?_eq_getElem h]; rfl
theorem ran_freeOf {z : Int} (hz : 3 ≤ z) (hz' : z ≤ 4000) {zone : Nat} : ∀ {L : List (Nat × Nat)} {M x : List ByteArray}, Sp.Good z M → Ran z zone M L x → freeOf z x = freeOf z M - (L.length : Int)
  | [], M, x, _, h => by rw [show x = M from h]; simp
  | q :: L, M, x, hg, h => by
    rw [ran_freeOf hz hz' (put_good hz hz' hg h.1 true) h.2.2.2, put_free hz hz' hg h.1 h.2.1, List.length_cons]
    omega
theorem gave_cnt {z : Int} (hz : 3 ≤ z) (hz' : z ≤ 4000) {M : List ByteArray} (h : Sp.Good z M) {q : Nat × Nat} (hq : Val z q) (hb : bitOf (mp M q.1) q.2 = true) (i : Nat) : cnt (mp (put M q false) i) z.toNat + (if i = q.1 then 1 else 0) = cnt (mp M i) z.toNat := by
  have hn := need_pos hz hz'
  rw [mp_put M q false (by rw [h.1]; exact hq.1)]
  by_cases e : i = q.1
  · rw [if_pos e, if_pos e]
    have hs := good_size h i (by rw [e]; exact hq.1)
    have hlt : q.2 < z.toNat := by have := hq.2.2; omega
    have := cnt_set (mp M i) q.2 false (by omega) z.toNat
    rw [e] at this ⊢
    rw [hb] at this
    simp [hlt] at this
    exact this
  · rw [if_neg e, if_neg e]; rfl
theorem gave_free {z : Int} (hz : 3 ≤ z) (hz' : z ≤ 4000) {M : List ByteArray} (h : Sp.Good z M) {q : Nat × Nat} (hq : Val z q) (hb : bitOf (mp M q.1) q.2 = true) : freeOf z (put M q false) = freeOf z M + 1 := by
  rw [freeOf_four (by rw [put_len]; exact h.1), freeOf_four h.1]
  have c0 := gave_cnt hz hz' h hq hb 0
  have c1 := gave_cnt hz hz' h hq hb 1
  have c2 := gave_cnt hz hz' h hq hb 2
  have c3 := gave_cnt hz hz' h hq hb 3
  have := hq.1
  rcases (by omega : q.1 = 0 ∨ q.1 = 1 ∨ q.1 = 2 ∨ q.1 = 3) with e | e | e | e <;> rw [e] at c0 c1 c2 c3 <;> simp at c0 c1 c2 c3 <;> omega
theorem free_range {z : Int} (hz : 3 ≤ z) (hz' : z ≤ 4000) {M : List ByteArray} (h : Sp.Good z M) : 0 ≤ freeOf z M ∧ freeOf z M ≤ 16000 := by
  rw [freeOf_four h.1]
  have a := cnt_le (mp M 0) z.toNat
  have b := cnt_le (mp M 1) z.toNat
  have c := cnt_le (mp M 2) z.toNat
  have d := cnt_le (mp M 3) z.toNat
  omega
theorem taken_sec {s n f z : Int} (hL : IsL s n f z) {M : List ByteArray} (hg : Sp.Good z M) {q : Nat × Nat} (hq : Val z q) : takenM s n f z M (sec f z q) = bitOf (mp M q.1) q.2 := by
  obtain ⟨hz1, hz2⟩ := zone_sec hL hq.1 hq.2.2
  unfold takenM
  rw [hg.ok hL, hz1, hz2, decide_eq_true (by omega), mp_rd, Int.toNat_natCast]; rfl
/-- What stands taken beside the first maps: these places. -/
structure Out (z : Int) (F M : List ByteArray) (A : List (Nat × Nat)) : Prop where
  good : Sp.Good z M
  val : ∀ q ∈ A, Val z q
  nd : A.Nodup
  was : ∀ q ∈ A, bitOf (mp F q.1) q.2 = false
  bit : ∀ i p, bitOf (mp M i) p = (bitOf (mp F i) p || decide ((i, p) ∈ A))
set_option maxRecDepth 100000 in
theorem back_loop {s n f z : Int} (hL : IsL s n f z) (F : List ByteArray) (hF : Sp.Good z F) (A : List (Nat × Nat)) (hA : A.length ≤ 1000) (d : Nat) : ∀ (k : Nat) (M : List ByteArray), d ≤ A.length → 310000 + d ≤ k → Out z F M (A.take d) →
    lockgatelaw17_SpaceTurns.l2 k true M F (freeOf z M) (A.map (sec f z)) ((d : Int) - 1) s n f z = some true := by
  have hz := hL.z3
  have hs0 : -9223372036854775808 ≤ s := by have := hL.hs; have := hL.hf; have := hL.n1; omega
  induction d with
  | zero =>
    intro k M hd hk O
    obtain ⟨k, rfl⟩ : ∃ j, k = j + 1 := ⟨k - 1, by omega⟩
    have e : M = F := maps_ext O.good hF (fun i p => by rw [O.bit]; simp)
    rw [lockgatelaw17_SpaceTurns.l2, if_neg (by omega), e, same_refl F (by rw [hF.1]; omega) k (by rw [hF.1]; omega), Option.bind_some, if_pos rfl]
  | succ d ih =>
    intro k M hd hk O
    obtain ⟨k, rfl⟩ : ∃ j, k = j + 1 := ⟨k - 1, by omega⟩
    have hlt : d < A.length := by omega
    have ht : A.take (d + 1) = A.take d ++ [A[d]] := List.take_succ_eq_append_getElem hlt
    have hmem : A[d] ∈ A.take (d + 1) := by rw [ht]; exact List.mem_append_right _ (List.mem_singleton.2 rfl)
    have hq := O.val _ hmem
    have hb : bitOf (mp M A[d].1) A[d].2 = true := by
      rw [O.bit, decide_eq_true (show (A[d].1, A[d].2) ∈ A.take (d + 1) from hmem), Bool.or_true]
    have hnd := O.nd
    rw [ht] at hnd
    have hnot : A[d] ∉ A.take d := fun h => (List.nodup_append.1 hnd).2.2 _ h _ (List.mem_singleton.2 rfl) rfl
    have hr := free_range hz.1 hz.2.1 O.good
    have hg2 := put_good hz.1 hz.2.1 O.good hq false
    have hf2 := gave_free hz.1 hz.2.1 O.good hq hb
    have hfm : freeM s n f z (put M A[d] false) = freeOf z M + 1 := by unfold freeM; rw [if_pos (hg2.ok hL), hf2]
    have hml : (A.map (sec f z)).length = A.length := List.length_map ..
    have hgv := give_val hL M O.good [A[d]] (by simp) (fun q hq' => by rw [List.mem_singleton.1 hq']; exact ⟨hq, hb⟩) (by simp) k (by omega)
    rw [lockgatelaw17_SpaceTurns.l2, show ((d + 1 : Nat) : Int) - 1 = (d : Int) by omega, if_pos (by omega), if_pos (by omega), if_pos (by omega), rd_sect f z A d hlt]
    rw [show ([sec f z A[d]] : List Int) = [A[d]].map (sec f z) from rfl, hgv, Option.bind_some]
    simp only [List.foldl_cons, List.foldl_nil]
    rw [if_pos trivial, free_val s n f z hs0 _ hg2.sizes k (by omega), Option.bind_some, hfm, Bm.w64 (x := freeOf z M + 1) (by omega) (by omega), if_pos rfl, Bm.w64 (by omega) (by omega), ← hf2]
    refine ih k _ (by omega) (by omega) ⟨hg2, fun q hq' => O.val q (by rw [ht]; exact List.mem_append_left _ hq'), (List.nodup_append.1 hnd).1, fun q hq' => O.was q (by rw [ht]; exact List.mem_append_left _ hq'), fun i p => ?_⟩
    rw [put_bit hz.1 hz.2.1 O.good hq, O.bit, ht]
    by_cases e : (i, p) = A[d]
    · rw [if_pos e]
      have h1 : bitOf (mp F i) p = false := by have := O.was _ hmem; rw [← e] at this; exact this
      have h2 : (i, p) ∉ A.take d := by rw [e]; exact hnot
      rw [h1, decide_eq_false h2]; rfl
    · have hm : ((i, p) ∈ A.take d ++ [A[d]]) ↔ ((i, p) ∈ A.take d) := by
        rw [List.mem_append, List.mem_singleton]
        exact ⟨fun h => h.resolve_right e, .inl⟩
      rw [if_neg e, decide_eq_decide.2 hm]
theorem look_loop {s n f z : Int} (hL : IsL s n f z) (l : List S32) (F M x : List ByteArray) (fr : Int) (all : List Int) (i : Int) (hg : Sp.Good z M) (hgx : Sp.Good z x) (L : List (Nat × Nat)) (hlen : L.length ≤ 1000) (hv : ∀ q ∈ L, Val z q) (h0 : ∀ q ∈ L, bitOf (mp M q.1) q.2 = false) (h1 : ∀ q ∈ L, bitOf (mp x q.1) q.2 = true) (Z : Option Bool) (K0 : Nat)
    (hend : ∀ k, K0 ≤ k → (if all.length + (L.map (sec f z)).length < 17592186044416 then ((space_Free.f k s n f z x).bind fun t349 => (if t349 = (wrap64 (fr - ((L.map (sec f z)).length : Int))) then ((space_Right.f k s n f z x).bind fun t350 => (if t350 = true then (lockgatelaw17_SpaceTurns.l0 k l true x F (wrap64 (fr - ((L.map (sec f z)).length : Int))) (all ++ L.map (sec f z)) (wrap64 (i + 1)) s n f z) else (some false))) else (some false))) else (none)) = Z) (d : Nat) : ∀ (k j : Nat), j + d = L.length → K0 + 10000 + d + 1 ≤ k →
    lockgatelaw17_SpaceTurns.l1 k l true M F fr all i x (L.map (sec f z)) j s n f z = Z := by
  have hs0 : -9223372036854775808 ≤ s := by have := hL.hs; have := hL.hf; have := hL.n1; omega
  have hml : (L.map (sec f z)).length = L.length := List.length_map ..
  induction d with
  | zero =>
    intro k j hj hk
    obtain ⟨k, rfl⟩ : ∃ q, k = q + 1 := ⟨k - 1, by omega⟩
    rw [lockgatelaw17_SpaceTurns.l1, if_neg (by omega)]
    exact hend k (by omega)
  | succ d ih =>
    intro k j hj hk
    obtain ⟨k, rfl⟩ : ∃ q, k = q + 1 := ⟨k - 1, by omega⟩
    have hlt : j < L.length := by omega
    have hm := List.getElem_mem hlt
    rw [lockgatelaw17_SpaceTurns.l1, if_pos (by omega), if_pos (by omega), rd_sect f z L j hlt, taken_val s n f z hs0 M hg.sizes _ k (by omega), Option.bind_some, taken_sec hL hg (hv _ hm), h0 _ hm, if_neg (by decide), taken_val s n f z hs0 x hgx.sizes _ k (by omega), Option.bind_some, taken_sec hL hgx (hv _ hm), h1 _ hm, if_pos rfl]
    rw [show wrap64 ((j : Int) + 1) = ((j + 1 : Nat) : Int) from by rw [Bm.w64 (by omega) (by omega)]; omega]
    exact ih k (j + 1) (by omega) (by omega)
set_option maxRecDepth 100000 in
theorem turns_loop {s n f z : Int} (hL : IsL s n f z) (F : List ByteArray) (hF : Sp.Good z F) (l : List S32) (hl : l.length ≤ 140737488351232) (d : Nat) : ∀ (k i : Nat) (M : List ByteArray) (A : List (Nat × Nat)), i + d = min l.length 12 → 350000 + 20000 * d ≤ k → A.length ≤ 19 * i → Out z F M A →
    lockgatelaw17_SpaceTurns.l0 k l true M F (freeOf z M) (A.map (sec f z)) i s n f z = some true := by
  have hz := hL.z3
  have hs0 : -9223372036854775808 ≤ s := by have := hL.hs; have := hL.hf; have := hL.n1; omega
  have hend : ∀ (k : Nat) (M : List ByteArray) (A : List (Nat × Nat)) (i : Int), 340000 ≤ k → A.length ≤ 1000 → Out z F M A → lockgatelaw17_SpaceTurns.j2 k l true M F (freeOf z M) (A.map (sec f z)) i false s n f z = some true := by
    intro k M A i hk hA O
    obtain ⟨k, rfl⟩ : ∃ m, k = m + 1 := ⟨k - 1, by omega⟩
    rw [lockgatelaw17_SpaceTurns.j2, if_neg (by decide), List.length_map, Bm.w64 (by omega) (by omega)]
    exact back_loop hL F hF A hA A.length k M (Nat.le_refl _) (by omega) (by rw [List.take_length]; exact O)
  induction d with
  | zero =>
    intro k i M A hi hk hA O
    obtain ⟨k, rfl⟩ : ∃ m, k = m + 1 := ⟨k - 1, by omega⟩
    rw [lockgatelaw17_SpaceTurns.l0]
    by_cases h : (i : Int) < (l.length : Int)
    · rw [if_pos h, decide_eq_false (by omega)]; exact hend k M A _ (by omega) (by omega) O
    · rw [if_neg h]; exact hend k M A _ (by omega) (by omega) O
  | succ d ih =>
    intro k i M A hi hk hA O
    obtain ⟨k, rfl⟩ : ∃ m, k = m + 3 := ⟨k - 3, by omega⟩
    have hwi : wrap64 ((i : Int) + 1) = ((i + 1 : Nat) : Int) := by rw [Bm.w64 (by omega) (by omega)]; omega
    have hr := free_range hz.1 hz.2.1 O.good
    rw [lockgatelaw17_SpaceTurns.l0, if_pos (by omega), decide_eq_true (by omega), lockgatelaw17_SpaceTurns.j2, if_pos rfl, if_pos (by omega), if_pos (by omega)]
    have hN := tmod_bound (rd_T32 l (i : Int)).f1 20 (by omega)
    have key : ∀ K : Int, 0 ≤ K → K ≤ 19 → lockgatelaw17_SpaceTurns.j3 (k + 1) l true M F (freeOf z M) (A.map (sec f z)) i K s n f z = some true := by
      intro K K0 K1
      rw [lockgatelaw17_SpaceTurns.j3, if_pos (by omega), if_pos (by omega), and3]
      generalize (rd_T32 l (i : Int)).f0 = a
      obtain ⟨zn, ez⟩ : ∃ zn : Nat, a % 4 = (zn : Int) := ⟨(a % 4).toNat, by omega⟩
      obtain ⟨k, rfl⟩ : ∃ m, k = m + 1 := ⟨k - 1, by omega⟩
      have ht := take_val hL M O.good zn (by omega) K K0 (k + 1) (by omega)
      rw [ez]
      split at ht
      · rename_i hlt
        rw [ht, Option.bind_some]
        simp only
        rw [show (false != decide (K ≤ freeOf z M)) = false by rw [decide_eq_false (by omega)]; rfl, if_neg (by decide), if_neg (by decide), show ((([] : List Int).length : Int) != 0) = false from rfl, lockgatelaw17_SpaceTurns.j4, if_neg (by decide)]
        refine look_loop hL l F M M (freeOf z M) (A.map (sec f z)) i O.good O.good [] (by simp) (fun _ h => by cases h) (fun _ h => by cases h) (fun _ h => by cases h) (some true) (350000 + 20000 * d) (fun q hq => ?_) 0 k 0 rfl (by omega)
        rw [if_pos (by rw [List.length_map]; simp; omega), free_val s n f z hs0 M O.good.sizes q (by omega), Option.bind_some]
        unfold freeM
        rw [if_pos (O.good.ok hL)]
        simp only [List.map_nil, List.length_nil, List.append_nil]
        rw [show wrap64 (freeOf z M - ((0 : Nat) : Int)) = freeOf z M from by rw [Bm.w64 (by omega) (by omega)]; omega, if_pos rfl, right_val s n f z hs0 M O.good.sizes q (by omega), Option.bind_some, O.good.ok hL, if_pos rfl, hwi]
        exact ih q (i + 1) M A (by omega) (by omega) (by omega) O
      · rename_i hge
        obtain ⟨L, x, e1, e2, e3⟩ := ht
        have hgx := ran_good hz.1 hz.2.1 O.good e2
        have hrx := free_range hz.1 hz.2.1 hgx
        obtain ⟨f1, f2⟩ := ran_free hz.1 hz.2.1 O.good e2
        have hfx := ran_freeOf hz.1 hz.2.1 O.good e2
        rw [e1, Option.bind_some]
        simp only
        rw [show (true != decide (K ≤ freeOf z M)) = false by rw [decide_eq_true (by omega)]; rfl, if_neg (by decide), if_pos trivial, if_pos (by rw [List.length_map]; exact e3), lockgatelaw17_SpaceTurns.j4, if_neg (by decide)]
        refine look_loop hL l F M x (freeOf z M) (A.map (sec f z)) i O.good hgx L (by omega) (ran_val e2) f1 (fun q hq => (ran_taken hz.1 hz.2.1 O.good e2 q hq).2) (some true) (350000 + 20000 * d) (fun q hq => ?_) L.length k 0 (by omega) (by omega)
        rw [if_pos (by rw [List.length_map, List.length_map]; omega), free_val s n f z hs0 x hgx.sizes q (by omega), Option.bind_some]
        unfold freeM
        rw [if_pos (hgx.ok hL), List.length_map, show wrap64 (freeOf z M - (L.length : Int)) = freeOf z x from by rw [Bm.w64 (by omega) (by omega)]; omega, if_pos rfl, right_val s n f z hs0 x hgx.sizes q (by omega), Option.bind_some, hgx.ok hL, if_pos rfl, hwi, ← List.map_append]
        refine ih q (i + 1) x (A ++ L) (by omega) (by omega) (by rw [List.length_append]; omega) ⟨hgx, fun r hr => ?_, ?_, fun r hr => ?_, fun a p => ?_⟩
        · rcases List.mem_append.1 hr with h | h
          · exact O.val r h
          · exact ran_val e2 r h
        · refine List.nodup_append.2 ⟨O.nd, f2, fun a ha b hb e => ?_⟩
          subst e
          have h1 := f1 a hb
          have h2 := O.bit a.1 a.2
          rw [h1] at h2
          simp [ha] at h2
        · rcases List.mem_append.1 hr with h | h
          · exact O.was r h
          · have h1 := f1 r h
            rw [O.bit] at h1
            simp only [Bool.or_eq_false_iff] at h1
            exact h1.1
        · rw [ran_bit hz.1 hz.2.1 O.good e2, O.bit]
          simp [Bool.or_assoc]
    split
    · rw [Bm.w64 (by omega) (by omega)]; exact key _ (by omega) (by omega)
    · exact key _ (by omega) (by omega)
set_option maxRecDepth 100000 in
theorem SpaceTurns : lockgatelaw17_SpaceTurns.Pure := by
  intro c l h0 h1
  refine ⟨800000, ?_⟩
  have hc := tmod_bound c 101 (by omega)
  have hl : l.length ≤ 140737488351232 := by omega
  have key : ∀ (q : Int), 0 ≤ q → q ≤ 100 → ∀ k, 790001 ≤ k → lockgatelaw17_SpaceTurns.j0 k l true q = some true := by
    intro q q0 q1 k hk
    obtain ⟨k, rfl⟩ : ∃ j, k = j + 1 := ⟨k - 1, by omega⟩
    obtain ⟨_, hL⟩ := newL_fresh (140 + q) (by omega) (by omega)
    have hz := hL.z3
    have hg := four_good hz.1 hz.2.1
    rw [lockgatelaw17_SpaceTurns.j0, Bm.w64 (by omega) (by omega), fresh_valt _ (by omega) (by omega) _ (by omega), Option.bind_some]
    simp only
    rw [free_val _ _ _ _ (by omega) _ hg.sizes k (by omega), Option.bind_some]
    unfold freeM
    rw [if_pos (hg.ok hL)]
    exact turns_loop hL _ hg l hl (min l.length 12) k 0 _ [] (by omega) (by omega) (by simp) ⟨hg, (fun _ h => by cases h), List.nodup_nil, (fun _ h => by cases h), fun i p => by simp⟩
  unfold lockgatelaw17_SpaceTurns.f
  rw [Sp.awake_ok _ (by omega), Option.bind_some]
  by_cases h : Int.tmod c 101 < 0
  · rw [if_pos h, Bm.w64 (by omega) (by omega)]
    exact key _ (by omega) (by omega) _ (by omega)
  · rw [if_neg h]
    exact key _ (by omega) (by omega) _ (by omega)
end Go.Proofs.Ytehnbbabjnibkaa.Pure
