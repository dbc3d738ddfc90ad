-- Written by mp.py (a program of this repo, over the print) for this seat: functions, contracts, walks.
import Derived.Test.YtgmbmkjdfmoanaaDoorQx0
import Derived.Test.YtgmbmkjdfmoanaaDoorQx17
namespace Go.Proofs.YtgmbmkjdfmoanaaDoor.Q
open Go.RowKit Go.Proofs.YtgmbmkjdfmoanaaDoorW.PrintWords Go.Proofs.YtgmbmkjdfmoanaaDoorW.PrintLast Go.Proofs.YtgmbmkjdfmoanaaDoorW.PrintMore
attribute [local go_sem] max2_int min2_int max_two min_two max_three min_three max_four min_four   -- for this text's walks alone
set_option linter.unusedVariables false
set_option linter.unusedSimpArgs false

/-! ### entry_Drop: function 29: by hand -/
set_option maxHeartbeats 8000000 in
set_option maxRecDepth 100000 in
theorem entry_Drop.delete (g c i : Nat) (xs : List S43) (W w0 : World) (base : Nat) (ok : Nat → Prop) (hO : Kd.R k43 43 W base ok (.slice (some ⟨g, 0, none⟩) xs.length c) xs) (hi : i < xs.length) (hbase : base ≤ W.heap.size) (hB : Below base w0 W) :
    Calls Tryd.prog 54 #[.slice (some ⟨g, 0, none⟩) xs.length c, .int .i64 (i : Int), .int .i64 ((i : Int) + 1)] W fun e w' => e = .returned (.slice (some ⟨g, 0, none⟩) (xs.length - 1) c) ∧ Kd.R k43 43 w' base ok (.slice (some ⟨g, 0, none⟩) (xs.length - 1) c) (xs.eraseIdx i) ∧ Below base w0 w' := by
  obtain ⟨_, _, _, _, _, hnc, hcm, _, _⟩ := own_open hO
  have HO := Aside0.mk hO
  have HB := Aside0.mk hB
  clear hO hB
  have hcm' : (c : Int) ≤ 9223372036854775807 := by have : maxLen ≤ 9223372036854775807 := by decide
                                                    omega
  generalize hn : xs.length = n at hi hnc HO ⊢
  have HN := Aside0.mk hn
  clear hn
  have d1 : decide ((i : Int) = (i : Int) + 1) = false := decide_eq_false (by omega)
  have e1 : ((i : Int) + 1).toNat = i + 1 := by omega
  have l1 : (0 : Int) ≤ (i : Int) := by omega
  have l2 : (i : Int) ≤ (i : Int) + 1 := by omega
  have l3 : (i : Int) + 1 ≤ (n : Int) := by omega
  have l4 : (n : Int) ≤ (c : Int) := by omega
  go_enter Tryd.func54, Tryd.ntmps54
  go_wp2
  have hbase1 : base ≤ W.drew.heap.size := hbase
  have n0_ := Aside0.mk (Kd.R_drew HO.out)
  have n1_ := Aside0.mk (below_drew1 HB.out)
  clear HO HB
  have HO := n0_; have HB := n1_
  clear n0_ n1_
  refine start_ (n := 8) (S := fun _ => True) (ds := []) #[false, false, false, false, false, false, false, false] (by kernel_rfl) rfl rfl trivial (fun _ => ?_)
  generalize W.drew = W1 at HO HB hbase1 ⊢
  refine pure_ (i := 0) (N := some 20) (v := ?_) (a' := ?_) #[true, false, false, false, false, false, false, false] rfl rfl (by kernel_rfl) (fun _ _ _ h => h) (Or.inl ⟨by rfl, ?_⟩) ?_ ?_
  rotate_left
  · intro w'; go_simp; first | with_reducible rfl | ((repeat rw [if_pos (by omega)]); all_goals (with_reducible rfl))
  rotate_left
  · simp only [Act.put, List.setIfInBounds_toArray, List.set_cons_zero, List.set_cons_succ, i64_w, i32_w]; rfl
  refine pure_ (i := 1) (N := some 21) (v := ?_) (a' := ?_) #[true, true, false, false, false, false, false, false] rfl rfl (by kernel_rfl) (fun _ _ _ h => h) (Or.inl ⟨by rfl, ?_⟩) ?_ ?_
  rotate_left
  · intro w'; go_simp; first | with_reducible rfl | ((repeat rw [if_pos (by omega)]); all_goals (with_reducible rfl))
  rotate_left
  · simp only [Act.put, List.setIfInBounds_toArray, List.set_cons_zero, List.set_cons_succ, i64_w, i32_w]; rfl
  refine pure_ (i := 2) (N := some 22) (v := ?_) (a' := ?_) #[true, true, true, false, false, false, false, false] rfl rfl (by kernel_rfl) (fun _ _ _ h => h) (Or.inl ⟨by rfl, ?_⟩) ?_ ?_
  rotate_left
  · intro w'; go_simp; first | with_reducible rfl | ((repeat rw [if_pos (by omega)]); all_goals (with_reducible rfl))
  rotate_left
  · simp only [Act.put, List.setIfInBounds_toArray, List.set_cons_zero, List.set_cons_succ, i64_w, i32_w]; rfl
  refine pure_ (i := 3) (N := some 23) (v := ?_) (a' := ?_) #[true, true, true, true, false, false, false, false] rfl rfl (by kernel_rfl) (fun _ _ _ h => h) (Or.inl ⟨by rfl, ?_⟩) ?_ ?_
  rotate_left
  · intro w'; go_simp; first | with_reducible rfl | ((repeat rw [if_pos (by omega)]); all_goals (with_reducible rfl))
  rotate_left
  · simp only [Act.put, List.setIfInBounds_toArray, List.set_cons_zero, List.set_cons_succ, i64_w, i32_w]; rfl
  refine pure_ (i := 4) (N := some 24) (v := ?_) (a' := ?_) #[true, true, true, true, true, false, false, false] rfl rfl (by kernel_rfl) (fun _ _ _ h => h) (Or.inl ⟨by rfl, ?_⟩) ?_ ?_
  rotate_left
  · intro w'; go_simp; first | with_reducible rfl | ((repeat rw [if_pos (by omega)]); all_goals (with_reducible rfl))
  rotate_left
  · simp only [Act.put, List.setIfInBounds_toArray, List.set_cons_zero, List.set_cons_succ, i64_w, i32_w]; rfl
  refine pure_ (i := 5) (N := some 25) (v := ?_) (a' := ?_) #[true, true, true, true, true, true, false, false] rfl rfl (by kernel_rfl) (fun _ _ _ h => h) (Or.inl ⟨by rfl, ?_⟩) ?_ ?_
  rotate_left
  · intro w'; go_simp; first | with_reducible rfl | ((repeat rw [if_pos (by omega)]); all_goals (with_reducible rfl))
  rotate_left
  · simp only [Act.put, List.setIfInBounds_toArray, List.set_cons_zero, List.set_cons_succ, i64_w, i32_w]; rfl
  refine one_ (i := 6) (N := some 26) #[true, true, true, true, true, true, true, false] rfl rfl (by kernel_rfl) (by decide) (fun K hK => ?_)
  refine Kd.R_delete_step k43 (w0 := w0) base (by rfl) (.tmp 22) (.tmp 25) 32 43 rfl Tryd.underlying32 (by kernel_rfl) rfl rfl ?aA rfl HO.out hi HB.out hbase1 ?_
  case aA =>
    by_cases h : c = i + 1
    · rw [if_pos h, if_pos h]
    · rw [if_neg h, if_neg h, Option.map_some]; simp [Addr.add, show k43.sz = 2 from rfl]
  intro w2 ho hb hg
  have hbase2 : base ≤ w2.heap.size := Nat.le_trans hbase1 hg.size
  have HO2 := Aside0.mk ho
  have HB2 := Aside0.mk hb
  clear ho hb hg HO HB hbase1
  refine hK.out _ _ trivial (fun _ => ?_)
  clear hK K
  refine norm_ (a' := ?_) ?_ ?_
  rotate_left
  · show Act.put _ (some 26) _ = _
    simp only [Act.put, List.setIfInBounds_toArray, List.set_cons_zero, List.set_cons_succ, i64_w, i32_w]; rfl
  refine pure_ (i := 7) (N := some 0) (v := ?_) (a' := ?_) #[true, true, true, true, true, true, true, true] rfl rfl (by kernel_rfl) (fun _ _ _ h => h) (Or.inl ⟨by rfl, ?_⟩) ?_ ?_
  rotate_left
  · intro w'; go_simp; first | with_reducible rfl | ((repeat rw [if_pos (by omega)]); all_goals (with_reducible rfl))
  rotate_left
  · simp only [Act.put, List.setIfInBounds_toArray, List.set_cons_zero, List.set_cons_succ, i64_w, i32_w]; rfl
  refine done_ (by kernel_rfl) ?_
  generalize (if c = i + 1 then (some ⟨g, 0, none⟩ : Option Addr) else some ⟨g, (i + 1) * 2, none⟩) = A25
  have m1 : (0 : Int) ≤ ((n - 1 : Nat) : Int) := by omega
  have m2 : ((n - 1 : Nat) : Int) ≤ (n : Int) := by omega
  have m3 : ¬ (c = n - 1) := by omega
  have hyl : (xs.eraseIdx i).length = n - 1 := by rw [List.length_eraseIdx_of_lt (by have := HN.out; omega), HN.out]
  obtain ⟨zs, hzs⟩ : ∃ zs : List Value, zs = (Builtin.zeroCells (Value.agg #[.string ⟨#[]⟩, .int .i64 0]).cells 1).toList := ⟨_, rfl⟩
  have hzl : (Builtin.zeroCells (Value.agg #[.string ⟨#[]⟩, .int .i64 0]).cells 1).size = 2 := by kernel_rfl
  have hsz : k43.sz = 2 := rfl
  have hcl : ∀ ty, (Builtin.clear_ #[32] ty #[.slice (some ⟨g, (n - 1) * 2, none⟩) (n - (n - 1)) (c - (n - 1))]).run Tryd.prog w2 = .ok (.tuple #[]) (w2.setCells g ((n - 1) * 2) zs) := fun ty => by
    rw [hzs, show n - (n - 1) = 1 by omega]
    exact clear_run 32 43 ty (.agg #[.string ⟨#[]⟩, .int .i64 0]) Tryd.underlying32 (by kernel_rfl) g _ 1 _ (by omega) (fun j hj => (own_cells HO2.out _ (by rw [hsz]; omega)).1) (fun j hj => (own_cells HO2.out _ (by rw [hsz]; omega)).2) (List.all_eq_true.1 (by kernel_rfl))
  have hzn : zs.length = 2 := by rw [hzs, Array.length_toList, hzl]
  have hO3 := own_seg (ys := xs.eraseIdx i) HO2.out ((n - 1) * 2) zs (by rw [hsz, hzn]; omega) (by omega) (fun l hl hr => by
    rw [hyl, hsz, List.append_assoc, List.take_left' (by rw [List.length_take, hl, hsz]; omega)]
    exact hr)
  rw [hyl] at hO3
  generalize w2.setCells g ((n - 1) * 2) zs = w3 at hcl hO3
  have HO3 := Aside0.mk hO3.1
  have HB3 := Aside0.mk (HB2.out.grown hO3.2 hbase2 (fun k hk => by injection hk with hk; subst hk; exact Kd.R_base HO2.out _ (by simp [Value.ownBlock])))
  clear hO3 HO2 HB2 hzs hzl hzn hyl
  go_wp2
  all_goals (go_ret; exact ⟨rfl, HO3.out, HB3.out⟩)
def entry_Drop.f (l0 : List S43) (a1 : ByteArray) : Option (List S43 × Bool) :=
  if entry_place.at (entry_place.is a1) 0 l0 < 0 then some (l0, false)
  else (api_Entry.f l0).bind fun m => some (m.eraseIdx (entry_place.at (entry_place.is a1) 0 l0).toNat, true)
set_option maxHeartbeats 8000000 in
theorem entry_Drop.calls (P0_ : Nat → Prop) (A0 : Option Addr) (c0 : Nat) (l0 : List S43) (a1 : ByteArray) (r1 : List S43) (r2 : Bool) (w : World) (hs0 : Kd.V k43 43 w w.heap.size (fun k_ => P0_ k_) (.slice A0 l0.length c0) l0) (h : entry_Drop.f l0 a1 = some (r1, r2)) :
    Calls Tryd.prog 29 #[.slice A0 l0.length c0, .string a1] w fun e w' => ∃ v0_ : Value, e = .returned (.tuple #[v0_, .bool r2]) ∧ Kd.V k43 43 w' w.heap.size (fun k_ => P0_ k_ ∨ w.heap.size ≤ k_) v0_ r1 ∧ Below w.heap.size w w' := by
  have HO := Aside0.mk hs0
  have H := Aside0.mk h
  clear hs0 h
  go_enter Tryd.func29, Tryd.ntmps29
  go_wp2_with fail
  refine (entry_place.calls A0 c0 l0 a1 _ _ (Kd.V_reads' HO.out).2.2 (Kd.V_reads' HO.out).2.1 rfl).mono ?_
  rintro e w1 ⟨rfl, hb⟩
  have n0_ := Aside0.mk (Kd.V_below HO.out hb)
  have HB := Aside0.mk hb
  clear HO hb
  have HO := n0_
  clear n0_
  have h := H.out
  clear H
  unfold entry_Drop.f at h
  by_cases c1 : entry_place.at (entry_place.is a1) 0 l0 < 0
  · rw [if_pos c1] at h
    have b1 := decide_eq_true c1
    simp only [Option.some.injEq, Prod.mk.injEq] at h
    obtain ⟨rfl, rfl⟩ := h
    go_wp2
    (try rw [Exit.noGoto_ret])
    go_ret2
    exact ⟨_, rfl, Kd.V_mono HO.out (fun _ hk => .inl hk), HB.out⟩
  · rw [if_neg c1] at h
    have b1 := decide_eq_false c1
    obtain ⟨i, hi, hlt⟩ := entry_place.at_lt (entry_place.is a1) 0 l0 (by omega) c1
    rw [Int.zero_add] at hi
    rw [hi] at h b1
    rw [hi]
    obtain ⟨m, hm, h⟩ := Option.bind_eq_some_iff.mp h
    simp only [Option.some.injEq, Prod.mk.injEq] at h
    obtain ⟨rfl, rfl⟩ := h
    obtain rfl : l0 = m := by
      unfold api_Entry.f at hm
      split at hm
      · exact Option.some.inj hm
      · cases hm
    have HM := Aside0.mk hm
    clear hm
    have hlm : (l0.length : Int) ≤ 9223372036854775807 := by have := Kd.C_max (Kd.V_reads' HO.out).2.2; omega
    have hw : IntKind.i64.wrap ((i : Int) + 1) = (i : Int) + 1 := by rw [i64_w]; unfold wrap64; omega
    go_wp2_with fail
    refine (api_Entry.calls A0 c0 l0 l0 _ (Kd.V_reads' HO.out).2.2 (Kd.V_reads' HO.out).2.1 HM.out).mono ?_
    rintro e w2 ⟨v, rfl, hR, hb⟩
    obtain ⟨g, c, rfl⟩ : ∃ g c, v = .slice (some ⟨g, 0, none⟩) l0.length c := by
      obtain ⟨_, inner, hown, _⟩ := hR
      rcases hown.2 with ⟨_, h0⟩ | ⟨g, c, cur, hv, _⟩
      · omega
      · exact ⟨g, c, hv⟩
    have HR := Aside0.mk hR
    have HB2 := Aside0.mk (below_step HB.out hb)
    have hs1 := below_size HB.out
    have hs2 := below_size hb
    have HBa := Aside0.mk hb
    clear hR hb HO
    go_wp2_with fail
    refine (entry_Drop.delete g c i l0 w2 w1 w1.heap.size _ HR.out hlt hs2 HBa.out).mono ?_
    rintro e w3 ⟨rfl, hO, hb⟩
    have HO := Aside0.mk hO
    have HB3 := Aside0.mk (below_step HB.out hb)
    clear hO hb HR HB2
    have hel : (l0.eraseIdx i).length = l0.length - 1 := List.length_eraseIdx_of_lt hlt
    go_wp2
    (try rw [Exit.noGoto_ret])
    go_ret2
    exact ⟨_, rfl, Kd.R_V (Kd.R_mono (Kd.R_bound HO.out) (fun k hk => .inr (Nat.le_trans hs1 hk.2.1))), HB3.out⟩

end Go.Proofs.YtgmbmkjdfmoanaaDoor.Q
