/- SpaceOrder: in whatever order sectors are given back, the maps are the same, and those that were. No conditions beyond the row's. -/
import Derived.Test.YtehnbbabjnibkaaQx17
import Derived.Test.YtehnbbabjnibkaaSpC
import Derived.Test.YtehnbbabjnibkaaSaySpaceOrder
namespace Go.Proofs.Ytehnbbabjnibkaa.Pure
open Go.RowKit Go.Proofs.Ytehnbbabjnibkaa.Q Go.Proofs.Ytehnbbabjnibkaa.Bm Go.Proofs.Ytehnbbabjnibkaa.Ly Go.Proofs.Ytehnbbabjnibkaa.Sp Go.Proofs.YtehnbbabjnibkaaW.PrintWords Go.Proofs.YtehnbbabjnibkaaW.PrintLast Go.Proofs.YtehnbbabjnibkaaW.PrintMore
theorem fresh_val (s : Int) (h : 140 ≤ s) (h' : s ≤ 240) : ∀ k, 700 ≤ k → lockgatelaw17_fresh.f k s = some (s, 3, 122, (s - 122) / 4, four (mapOf ((s - 122) / 4))) := by
  intro k hk
  obtain ⟨e, hL⟩ := newL_fresh s h h'
  unfold lockgatelaw17_fresh.f
  rw [rnew_val s 3 (by omega) k (by omega), Option.bind_some, e]
  simp only
  rw [rmap_val s 3 122 _ (by omega) k (by omega), Option.bind_some, if_pos hL]
  rfl
theorem turn_loop {s n f z : Int} (hL : IsL s n f z) (M x : List ByteArray) (hg : Sp.Good z M) (zone : Nat) (L : List (Nat × Nat)) (hr : Ran z zone M L x) (hlen : L.length ≤ 1000) (d : Nat) : ∀ (k : Nat), d ≤ L.length → 301000 + d ≤ k →
    lockgatelaw17_SpaceOrder.l0 k true M x (L.map (sec f z)) ((L.drop d).reverse.map (sec f z)) ((d : Int) - 1) s n f z = some true := by
  have hz := hL.z3
  induction d with
  | zero =>
    intro k hd hk
    obtain ⟨k, rfl⟩ : ∃ j, k = j + 1 := ⟨k - 1, by omega⟩
    have hgx := ran_good hz.1 hz.2.1 hg hr
    have ht := ran_taken hz.1 hz.2.1 hg hr
    have hnd := (ran_free hz.1 hz.2.1 hg hr).2
    rw [lockgatelaw17_SpaceOrder.l0, if_neg (by omega), List.drop_zero, give_val hL x hgx L (by omega) ht hnd k (by omega), Option.bind_some, give_val hL x hgx L.reverse (by rw [List.length_reverse]; omega) (fun q hq => ht q (List.mem_reverse.1 hq)) ((List.reverse_perm L).nodup_iff.2 hnd) k (by omega), Option.bind_some]
    simp only
    rw [back hz.1 hz.2.1 hg hr (fun q => Iff.rfl), back hz.1 hz.2.1 hg hr (fun q => List.mem_reverse), same_refl M (by rw [hg.1]; omega) k (by rw [hg.1]; omega), Option.bind_some, Option.bind_some]
    simp
  | succ d ih =>
    intro k hd hk
    obtain ⟨k, rfl⟩ : ∃ j, k = j + 1 := ⟨k - 1, by omega⟩
    have hlt : d < L.length := by omega
    have e : (L.drop d).reverse.map (sec f z) = (L.drop (d + 1)).reverse.map (sec f z) ++ [rd (L.map (sec f z)) (d : Int)] := by
      rw [List.drop_eq_getElem_cons hlt, List.reverse_cons, List.map_append]
      unfold rd
      rw [Int.toNat_natCast, List.getD_eq_getElem?_getD, List.getElem?_map, List.getElem?_eq_getElem hlt]; rfl
    rw [lockgatelaw17_SpaceOrder.l0, show (((d + 1 : Nat) : Int) - 1) = (d : Int) by omega, if_pos (by omega), if_pos (by omega), if_pos (by rw [List.length_map]; omega), if_pos (by rw [List.length_map, List.length_reverse, List.length_drop]; omega), Bm.w64 (by omega) (by omega), ← e]
    exact ih k (by omega) (by omega)
theorem SpaceOrder : lockgatelaw17_SpaceOrder.Pure := by
  intro c zone N l h0 h1 h2 h3
  refine ⟨400000, ?_⟩
  have key : ∀ (q K : Int), 0 ≤ q → q ≤ 100 → 0 ≤ K → K ≤ 19 → ∀ k, 390000 ≤ k → (lockgatelaw17_fresh.f k (wrap64 (140 + q))).bind (fun b => lockgatelaw17_SpaceOrder.j1 k true b.2.2.2.2 K zone N l b.1 b.2.1 b.2.2.1 b.2.2.2.1) = some true := by
    intro q K q0 q1 K0 K1 k hk
    obtain ⟨k, rfl⟩ : ∃ j, k = j + 1 := ⟨k - 1, by omega⟩
    rw [Bm.w64 (by omega) (by omega), fresh_val _ (by omega) (by omega) _ (by omega), Option.bind_some]
    simp only
    obtain ⟨_, hL⟩ := newL_fresh (140 + q) (by omega) (by omega)
    have hz := hL.z3
    have hg := four_good hz.1 hz.2.1
    obtain ⟨zn, ez⟩ : ∃ zn : Nat, zone % 4 = (zn : Int) := ⟨(zone % 4).toNat, by omega⟩
    have ht := take_val hL _ hg zn (by omega) K K0 k (by omega)
    rw [lockgatelaw17_SpaceOrder.j1, and3, ez]
    split at ht
    · rename_i hf
      rw [ht, Option.bind_some]
      simp only
      rw [if_neg (by decide), if_pos trivial, free_val _ _ _ _ (by omega) _ hg.sizes k (by omega), Option.bind_some]
      unfold freeM
      rw [if_pos (hg.ok hL), decide_eq_true hf]
    · obtain ⟨L, x, e1, e2, e3⟩ := ht
      rw [e1, Option.bind_some]
      simp only
      rw [if_pos trivial, List.length_map, Bm.w64 (by omega) (by omega)]
      have := turn_loop hL _ x hg zn L e2 (by omega) L.length k (Nat.le_refl _) (by omega)
      rw [List.drop_length] at this
      exact this
  have hN := tmod_bound N 20 (by omega)
  have hc := tmod_bound c 101 (by omega)
  have key2 : ∀ (q : Int), 0 ≤ q → q ≤ 100 → ∀ k, 390001 ≤ k → lockgatelaw17_SpaceOrder.j0 k true q zone N l = some true := by
    intro q q0 q1 k hk
    obtain ⟨k, rfl⟩ : ∃ j, k = j + 1 := ⟨k - 1, by omega⟩
    rw [lockgatelaw17_SpaceOrder.j0]
    by_cases h : Int.tmod N 20 < 0
    · have := key q (-(Int.tmod N 20)) q0 q1 (by omega) (by omega) k (by omega)
      simp only [if_pos h]
      rw [Bm.w64 (x := -(Int.tmod N 20)) (by omega) (by omega)]
      exact this
    · simp only [if_neg h]
      exact key q (Int.tmod N 20) q0 q1 (by omega) (by omega) k (by omega)
  unfold lockgatelaw17_SpaceOrder.f
  rw [Sp.awake_ok _ (by omega), Option.bind_some]
  by_cases h : Int.tmod c 101 < 0
  · rw [if_pos h, Bm.w64 (by omega) (by omega)]
    exact key2 _ (by omega) (by omega) _ (by omega)
  · rw [if_neg h]
    exact key2 _ (by omega) (by omega) _ (by omega)
end Go.Proofs.Ytehnbbabjnibkaa.Pure
