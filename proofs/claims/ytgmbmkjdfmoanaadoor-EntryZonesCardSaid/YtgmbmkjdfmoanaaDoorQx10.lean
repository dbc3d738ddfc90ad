-- Written by mp.py (a program of this repo, over the print) for this seat: functions, contracts, walks.
import Derived.Test.YtgmbmkjdfmoanaaDoorQx0
import Derived.Test.YtgmbmkjdfmoanaaDoorQx3
import Derived.Test.YtgmbmkjdfmoanaaDoorQx5
namespace Go.Proofs.YtgmbmkjdfmoanaaDoor.Q
open Go.RowKit Go.Proofs.YtgmbmkjdfmoanaaDoorW.PrintWords Go.Proofs.YtgmbmkjdfmoanaaDoorW.PrintLast Go.Proofs.YtgmbmkjdfmoanaaDoorW.PrintMore
attribute [local go_sem] max2_int min2_int max_two min_two max_three min_three max_four min_four   -- for this text's walks alone
set_option linter.unusedVariables false
set_option linter.unusedSimpArgs false

/-! ### lockgatelaw15_EntryZones: function 5 -/
def lockgatelaw15_EntryZones.f (k : Nat) (a0 : ByteArray) (a1 : ByteArray) : Option (Bool) := (lockgatelaw15_awake.f k).bind fun t192 => ((lockgatelaw15_short.f a0 100).bind fun t193 => ((lockgatelaw15_short.f a1 100).bind fun t194 => (if t193.size + t194.size ≤ 9223372036854775807 then ((entry_Zone.f k (t193 ++ t194)).bind fun t195 => (if t192 = true then ((entry_Zone.f k t193).bind fun t196 => ((entry_Zone.f k t194).bind fun t197 => (if t195 = (Int.tmod (wrap64 (t196 + t197)) 4) then (if t195 ≥ 0 then (if t195 < 4 then (if t194.size + t193.size ≤ 9223372036854775807 then ((entry_Zone.f k (t194 ++ t193)).bind fun t198 => (some (t198 == t195))) else (none)) else (some false)) else (some false)) else (some false)))) else (some false))) else (none))))
theorem lockgatelaw15_EntryZones.mono : ∀ a0 a1 k, LeO (lockgatelaw15_EntryZones.f k a0 a1) (lockgatelaw15_EntryZones.f (k + 1) a0 a1) := by
  intro a0 a1 k
  unfold lockgatelaw15_EntryZones.f
  repeat' first
      | (with_reducible exact entry_Zone.mono _ _)
      | (with_reducible exact lockgatelaw15_awake.mono _)
      | (with_reducible exact LeO.refl _)
      | (with_reducible exact LeO.none _)
      | (with_reducible refine LeO.ite ?_ ?_)
      | (with_reducible refine LeO.bind ?_ (fun _ => ?_))
      | exact entry_Zone.mono _ _
      | exact lockgatelaw15_awake.mono _
      | exact LeO.none _
      | refine LeO.ite ?_ ?_
      | refine LeO.bind ?_ (fun _ => ?_)
set_option maxHeartbeats 8000000 in
set_option maxRecDepth 100000 in
theorem lockgatelaw15_EntryZones.calls (k : Nat) (a0 : ByteArray) (a1 : ByteArray) (r : Bool) (w : World) (h : lockgatelaw15_EntryZones.f k a0 a1 = some r) :
    Calls Tryd.prog 5 #[.string a0, .string a1] w fun e w' => e = .returned (.bool r) ∧ Below w.heap.size w w' := by
  have HB := Aside0.mk (Below.refl w.heap.size w)
  have H : ((lockgatelaw15_awake.f k).bind fun t192 => ((lockgatelaw15_short.f a0 100).bind fun t193 => ((lockgatelaw15_short.f a1 100).bind fun t194 => (if t193.size + t194.size ≤ 9223372036854775807 then ((entry_Zone.f k (t193 ++ t194)).bind fun t195 => (if t192 = true then ((entry_Zone.f k t193).bind fun t196 => ((entry_Zone.f k t194).bind fun t197 => (if t195 = (Int.tmod (wrap64 (t196 + t197)) 4) then (if t195 ≥ 0 then (if t195 < 4 then (if t194.size + t193.size ≤ 9223372036854775807 then ((entry_Zone.f k (t194 ++ t193)).bind fun t198 => (some (t198 == t195))) else (none)) else (some false)) else (some false)) else (some false)))) else (some false))) else (none))))) = some r := h
  clear h
  replace H := Option.bind_eq_some_iff.mp H
  obtain ⟨t192, A30, H⟩ := H
  replace H : ((lockgatelaw15_short.f a0 100).bind fun t193 => ((lockgatelaw15_short.f a1 100).bind fun t194 => (if t193.size + t194.size ≤ 9223372036854775807 then ((entry_Zone.f k (t193 ++ t194)).bind fun t195 => (if t192 = true then ((entry_Zone.f k t193).bind fun t196 => ((entry_Zone.f k t194).bind fun t197 => (if t195 = (Int.tmod (wrap64 (t196 + t197)) 4) then (if t195 ≥ 0 then (if t195 < 4 then (if t194.size + t193.size ≤ 9223372036854775807 then ((entry_Zone.f k (t194 ++ t193)).bind fun t198 => (some (t198 == t195))) else (none)) else (some false)) else (some false)) else (some false)))) else (some false))) else (none)))) = some r := H
  have A3 := Aside0.mk A30
  clear A30
  replace H := Option.bind_eq_some_iff.mp H
  obtain ⟨t193, A40, H⟩ := H
  replace H : ((lockgatelaw15_short.f a1 100).bind fun t194 => (if t193.size + t194.size ≤ 9223372036854775807 then ((entry_Zone.f k (t193 ++ t194)).bind fun t195 => (if t192 = true then ((entry_Zone.f k t193).bind fun t196 => ((entry_Zone.f k t194).bind fun t197 => (if t195 = (Int.tmod (wrap64 (t196 + t197)) 4) then (if t195 ≥ 0 then (if t195 < 4 then (if t194.size + t193.size ≤ 9223372036854775807 then ((entry_Zone.f k (t194 ++ t193)).bind fun t198 => (some (t198 == t195))) else (none)) else (some false)) else (some false)) else (some false)))) else (some false))) else (none))) = some r := H
  have A4 := Aside0.mk A40
  clear A40
  replace H := Option.bind_eq_some_iff.mp H
  obtain ⟨t194, A50, H⟩ := H
  replace H : (if t193.size + t194.size ≤ 9223372036854775807 then ((entry_Zone.f k (t193 ++ t194)).bind fun t195 => (if t192 = true then ((entry_Zone.f k t193).bind fun t196 => ((entry_Zone.f k t194).bind fun t197 => (if t195 = (Int.tmod (wrap64 (t196 + t197)) 4) then (if t195 ≥ 0 then (if t195 < 4 then (if t194.size + t193.size ≤ 9223372036854775807 then ((entry_Zone.f k (t194 ++ t193)).bind fun t198 => (some (t198 == t195))) else (none)) else (some false)) else (some false)) else (some false)))) else (some false))) else (none)) = some r := H
  have A5 := Aside0.mk A50
  clear A50
  by_cases c6 : t193.size + t194.size ≤ 9223372036854775807
  · rw [if_pos c6] at H
    have c6b0 := eq_true c6
    have c6b1 : decide (t193.size + t194.size ≤ 9223372036854775807) = true := decide_eq_true c6
    try have c6b2 : (9223372036854775807 < t193.size + t194.size) = False := eq_false (Nat.not_lt.2 c6)
    replace H := Option.bind_eq_some_iff.mp H
    obtain ⟨t195, A70, H⟩ := H
    replace H : (if t192 = true then ((entry_Zone.f k t193).bind fun t196 => ((entry_Zone.f k t194).bind fun t197 => (if t195 = (Int.tmod (wrap64 (t196 + t197)) 4) then (if t195 ≥ 0 then (if t195 < 4 then (if t194.size + t193.size ≤ 9223372036854775807 then ((entry_Zone.f k (t194 ++ t193)).bind fun t198 => (some (t198 == t195))) else (none)) else (some false)) else (some false)) else (some false)))) else (some false)) = some r := H
    have A7 := Aside0.mk A70
    clear A70
    by_cases c8 : t192 = true
    · subst c8
      have H1 : ((entry_Zone.f k t193).bind fun t196 => ((entry_Zone.f k t194).bind fun t197 => (if t195 = (Int.tmod (wrap64 (t196 + t197)) 4) then (if t195 ≥ 0 then (if t195 < 4 then (if t194.size + t193.size ≤ 9223372036854775807 then ((entry_Zone.f k (t194 ++ t193)).bind fun t198 => (some (t198 == t195))) else (none)) else (some false)) else (some false)) else (some false)))) = some r := by rw [if_pos rfl] at H; exact H
      clear H
      have H := H1
      clear H1
      replace H := Option.bind_eq_some_iff.mp H
      obtain ⟨t196, A90, H⟩ := H
      replace H : ((entry_Zone.f k t194).bind fun t197 => (if t195 = (Int.tmod (wrap64 (t196 + t197)) 4) then (if t195 ≥ 0 then (if t195 < 4 then (if t194.size + t193.size ≤ 9223372036854775807 then ((entry_Zone.f k (t194 ++ t193)).bind fun t198 => (some (t198 == t195))) else (none)) else (some false)) else (some false)) else (some false))) = some r := H
      have A9 := Aside0.mk A90
      clear A90
      replace H := Option.bind_eq_some_iff.mp H
      obtain ⟨t197, A100, H⟩ := H
      replace H : (if t195 = (Int.tmod (wrap64 (t196 + t197)) 4) then (if t195 ≥ 0 then (if t195 < 4 then (if t194.size + t193.size ≤ 9223372036854775807 then ((entry_Zone.f k (t194 ++ t193)).bind fun t198 => (some (t198 == t195))) else (none)) else (some false)) else (some false)) else (some false)) = some r := H
      have A10 := Aside0.mk A100
      clear A100
      by_cases c11 : t195 = (Int.tmod (wrap64 (t196 + t197)) 4)
      · rw [if_pos c11] at H
        have c11b0 : (t195 == (Int.tmod (wrap64 (t196 + t197)) 4)) = true := beq_iff_eq.mpr c11
        have c11b1 : (t195 != (Int.tmod (wrap64 (t196 + t197)) 4)) = false := bne_eq_false_iff_eq.mpr c11
        clear c11
        by_cases c12 : t195 ≥ 0
        · rw [if_pos c12] at H
          have c12b0 : decide (0 ≤ t195) = true := decide_eq_true c12
          clear c12
          by_cases c13 : t195 < 4
          · rw [if_pos c13] at H
            have c13b0 : decide (t195 < 4) = true := decide_eq_true c13
            clear c13
            by_cases c14 : t194.size + t193.size ≤ 9223372036854775807
            · rw [if_pos c14] at H
              have c14b0 := eq_true c14
              have c14b1 : decide (t194.size + t193.size ≤ 9223372036854775807) = true := decide_eq_true c14
              try have c14b2 : (9223372036854775807 < t194.size + t193.size) = False := eq_false (Nat.not_lt.2 c14)
              replace H := Option.bind_eq_some_iff.mp H
              obtain ⟨t198, A150, H⟩ := H
              replace H : (some (t198 == t195)) = some r := H
              have A15 := Aside0.mk A150
              clear A150
              obtain rfl := Option.some.inj H
              go_enter Tryd.func5, Tryd.ntmps5
              go_wp2_with (first | ((with_reducible refine gate_callee (f := 10) rfl ?_); refine goesL_ (some 7) rfl rfl Tryd.func10 (by kernel_rfl) rfl #[] rfl (by (try simp only [List.map_toArray, List.map_cons, List.map_nil]); first | done | rfl | (simp only [List.length_drop, List.length_take]; rfl)) ?_; (with_reducible refine (lockgatelaw15_awake.calls k  true _ A3.out).mono ?_); rintro e w16 ⟨rfl, hb⟩; refine ⟨_, rfl, ?_⟩; have n0_ := Aside0.mk (below_step (by repeat (first | (with_reducible first | exact HB.out | apply below_alloc | apply pw_below_drewN | apply below_drew1) | exact HB.out)) hb); clear HB; have HB := n0_; clear n0_; (try clear hb); (try clear hb2); (try clear hk); (try clear hi)) | ((with_reducible refine gate_callee (f := 11) rfl ?_); refine goesL_ (some 9) rfl rfl Tryd.func11 (by kernel_rfl) rfl #[.string a0, .int .i64 100] rfl (by (try simp only [List.map_toArray, List.map_cons, List.map_nil]); first | done | rfl | (simp only [List.length_drop, List.length_take]; rfl)) ?_; (with_reducible refine (lockgatelaw15_short.calls a0 100 t193 _ A4.out).mono ?_); rintro e w' ⟨rfl, ⟨nd, rfl⟩⟩; refine ⟨_, rfl, ?_⟩) | ((with_reducible refine gate_callee (f := 11) rfl ?_); refine goesL_ (some 11) rfl rfl Tryd.func11 (by kernel_rfl) rfl #[.string a1, .int .i64 100] rfl (by (try simp only [List.map_toArray, List.map_cons, List.map_nil]); first | done | rfl | (simp only [List.length_drop, List.length_take]; rfl)) ?_; (with_reducible refine (lockgatelaw15_short.calls a1 100 t194 _ A5.out).mono ?_); rintro e w' ⟨rfl, ⟨nd, rfl⟩⟩; refine ⟨_, rfl, ?_⟩) | ((with_reducible refine gate_callee (f := 17) rfl ?_); refine goesL_ (some 15) rfl rfl Tryd.func17 (by kernel_rfl) rfl #[.string (t193 ++ t194)] rfl (by (try simp only [List.map_toArray, List.map_cons, List.map_nil]); first | done | rfl | (simp only [List.length_drop, List.length_take]; rfl)) ?_; (with_reducible refine (entry_Zone.calls k (t193 ++ t194) t195 _ A7.out).mono ?_); rintro e w' ⟨rfl, ⟨nd, rfl⟩⟩; refine ⟨_, rfl, ?_⟩) | (go_at_call 17; (with_reducible refine (entry_Zone.calls k t193 t196 _ A9.out).mono ?_); rintro e w' ⟨rfl, ⟨nd, rfl⟩⟩) | (go_at_call 17; (with_reducible refine (entry_Zone.calls k t194 t197 _ A10.out).mono ?_); rintro e w' ⟨rfl, ⟨nd, rfl⟩⟩) | (go_at_call 17; (with_reducible refine (entry_Zone.calls k (t194 ++ t193) t198 _ A15.out).mono ?_); rintro e w' ⟨rfl, ⟨nd, rfl⟩⟩))
              go_ret
              exact ⟨by first | rfl | (simp [errW_none, errW_some] <;> rfl) | (simp [*, errW_none, errW_some] <;> rfl), by repeat (first | (with_reducible first | exact HB.out | apply below_alloc | apply pw_below_drewN | apply below_drew1) | exact HB.out)⟩
            · rw [if_neg c14] at H
              exact absurd H (by simp)
          · rw [if_neg c13] at H
            have c13b0 : decide (t195 < 4) = false := decide_eq_false c13
            clear c13
            obtain rfl := Option.some.inj H
            go_enter Tryd.func5, Tryd.ntmps5
            go_wp2_with (first | ((with_reducible refine gate_callee (f := 10) rfl ?_); refine goesL_ (some 7) rfl rfl Tryd.func10 (by kernel_rfl) rfl #[] rfl (by (try simp only [List.map_toArray, List.map_cons, List.map_nil]); first | done | rfl | (simp only [List.length_drop, List.length_take]; rfl)) ?_; (with_reducible refine (lockgatelaw15_awake.calls k  true _ A3.out).mono ?_); rintro e w17 ⟨rfl, hb⟩; refine ⟨_, rfl, ?_⟩; have n0_ := Aside0.mk (below_step (by repeat (first | (with_reducible first | exact HB.out | apply below_alloc | apply pw_below_drewN | apply below_drew1) | exact HB.out)) hb); clear HB; have HB := n0_; clear n0_; (try clear hb); (try clear hb2); (try clear hk); (try clear hi)) | ((with_reducible refine gate_callee (f := 11) rfl ?_); refine goesL_ (some 9) rfl rfl Tryd.func11 (by kernel_rfl) rfl #[.string a0, .int .i64 100] rfl (by (try simp only [List.map_toArray, List.map_cons, List.map_nil]); first | done | rfl | (simp only [List.length_drop, List.length_take]; rfl)) ?_; (with_reducible refine (lockgatelaw15_short.calls a0 100 t193 _ A4.out).mono ?_); rintro e w' ⟨rfl, ⟨nd, rfl⟩⟩; refine ⟨_, rfl, ?_⟩) | ((with_reducible refine gate_callee (f := 11) rfl ?_); refine goesL_ (some 11) rfl rfl Tryd.func11 (by kernel_rfl) rfl #[.string a1, .int .i64 100] rfl (by (try simp only [List.map_toArray, List.map_cons, List.map_nil]); first | done | rfl | (simp only [List.length_drop, List.length_take]; rfl)) ?_; (with_reducible refine (lockgatelaw15_short.calls a1 100 t194 _ A5.out).mono ?_); rintro e w' ⟨rfl, ⟨nd, rfl⟩⟩; refine ⟨_, rfl, ?_⟩) | ((with_reducible refine gate_callee (f := 17) rfl ?_); refine goesL_ (some 15) rfl rfl Tryd.func17 (by kernel_rfl) rfl #[.string (t193 ++ t194)] rfl (by (try simp only [List.map_toArray, List.map_cons, List.map_nil]); first | done | rfl | (simp only [List.length_drop, List.length_take]; rfl)) ?_; (with_reducible refine (entry_Zone.calls k (t193 ++ t194) t195 _ A7.out).mono ?_); rintro e w' ⟨rfl, ⟨nd, rfl⟩⟩; refine ⟨_, rfl, ?_⟩) | (go_at_call 17; (with_reducible refine (entry_Zone.calls k t193 t196 _ A9.out).mono ?_); rintro e w' ⟨rfl, ⟨nd, rfl⟩⟩) | (go_at_call 17; (with_reducible refine (entry_Zone.calls k t194 t197 _ A10.out).mono ?_); rintro e w' ⟨rfl, ⟨nd, rfl⟩⟩))
            go_ret
            exact ⟨by first | rfl | (simp [errW_none, errW_some] <;> rfl) | (simp [*, errW_none, errW_some] <;> rfl), by repeat (first | (with_reducible first | exact HB.out | apply below_alloc | apply pw_below_drewN | apply below_drew1) | exact HB.out)⟩
        · rw [if_neg c12] at H
          have c12b0 : decide (0 ≤ t195) = false := decide_eq_false c12
          clear c12
          obtain rfl := Option.some.inj H
          go_enter Tryd.func5, Tryd.ntmps5
          go_wp2_with (first | ((with_reducible refine gate_callee (f := 10) rfl ?_); refine goesL_ (some 7) rfl rfl Tryd.func10 (by kernel_rfl) rfl #[] rfl (by (try simp only [List.map_toArray, List.map_cons, List.map_nil]); first | done | rfl | (simp only [List.length_drop, List.length_take]; rfl)) ?_; (with_reducible refine (lockgatelaw15_awake.calls k  true _ A3.out).mono ?_); rintro e w18 ⟨rfl, hb⟩; refine ⟨_, rfl, ?_⟩; have n0_ := Aside0.mk (below_step (by repeat (first | (with_reducible first | exact HB.out | apply below_alloc | apply pw_below_drewN | apply below_drew1) | exact HB.out)) hb); clear HB; have HB := n0_; clear n0_; (try clear hb); (try clear hb2); (try clear hk); (try clear hi)) | ((with_reducible refine gate_callee (f := 11) rfl ?_); refine goesL_ (some 9) rfl rfl Tryd.func11 (by kernel_rfl) rfl #[.string a0, .int .i64 100] rfl (by (try simp only [List.map_toArray, List.map_cons, List.map_nil]); first | done | rfl | (simp only [List.length_drop, List.length_take]; rfl)) ?_; (with_reducible refine (lockgatelaw15_short.calls a0 100 t193 _ A4.out).mono ?_); rintro e w' ⟨rfl, ⟨nd, rfl⟩⟩; refine ⟨_, rfl, ?_⟩) | ((with_reducible refine gate_callee (f := 11) rfl ?_); refine goesL_ (some 11) rfl rfl Tryd.func11 (by kernel_rfl) rfl #[.string a1, .int .i64 100] rfl (by (try simp only [List.map_toArray, List.map_cons, List.map_nil]); first | done | rfl | (simp only [List.length_drop, List.length_take]; rfl)) ?_; (with_reducible refine (lockgatelaw15_short.calls a1 100 t194 _ A5.out).mono ?_); rintro e w' ⟨rfl, ⟨nd, rfl⟩⟩; refine ⟨_, rfl, ?_⟩) | ((with_reducible refine gate_callee (f := 17) rfl ?_); refine goesL_ (some 15) rfl rfl Tryd.func17 (by kernel_rfl) rfl #[.string (t193 ++ t194)] rfl (by (try simp only [List.map_toArray, List.map_cons, List.map_nil]); first | done | rfl | (simp only [List.length_drop, List.length_take]; rfl)) ?_; (with_reducible refine (entry_Zone.calls k (t193 ++ t194) t195 _ A7.out).mono ?_); rintro e w' ⟨rfl, ⟨nd, rfl⟩⟩; refine ⟨_, rfl, ?_⟩) | (go_at_call 17; (with_reducible refine (entry_Zone.calls k t193 t196 _ A9.out).mono ?_); rintro e w' ⟨rfl, ⟨nd, rfl⟩⟩) | (go_at_call 17; (with_reducible refine (entry_Zone.calls k t194 t197 _ A10.out).mono ?_); rintro e w' ⟨rfl, ⟨nd, rfl⟩⟩))
          go_ret
          exact ⟨by first | rfl | (simp [errW_none, errW_some] <;> rfl) | (simp [*, errW_none, errW_some] <;> rfl), by repeat (first | (with_reducible first | exact HB.out | apply below_alloc | apply pw_below_drewN | apply below_drew1) | exact HB.out)⟩
      · rw [if_neg c11] at H
        have c11b0 : (t195 == (Int.tmod (wrap64 (t196 + t197)) 4)) = false := beq_eq_false_iff_ne.mpr c11
        have c11b1 : (t195 != (Int.tmod (wrap64 (t196 + t197)) 4)) = true := bne_iff_ne.mpr c11
        obtain rfl := Option.some.inj H
        go_enter Tryd.func5, Tryd.ntmps5
        go_wp2_with (first | ((with_reducible refine gate_callee (f := 10) rfl ?_); refine goesL_ (some 7) rfl rfl Tryd.func10 (by kernel_rfl) rfl #[] rfl (by (try simp only [List.map_toArray, List.map_cons, List.map_nil]); first | done | rfl | (simp only [List.length_drop, List.length_take]; rfl)) ?_; (with_reducible refine (lockgatelaw15_awake.calls k  true _ A3.out).mono ?_); rintro e w19 ⟨rfl, hb⟩; refine ⟨_, rfl, ?_⟩; have n0_ := Aside0.mk (below_step (by repeat (first | (with_reducible first | exact HB.out | apply below_alloc | apply pw_below_drewN | apply below_drew1) | exact HB.out)) hb); clear HB; have HB := n0_; clear n0_; (try clear hb); (try clear hb2); (try clear hk); (try clear hi)) | ((with_reducible refine gate_callee (f := 11) rfl ?_); refine goesL_ (some 9) rfl rfl Tryd.func11 (by kernel_rfl) rfl #[.string a0, .int .i64 100] rfl (by (try simp only [List.map_toArray, List.map_cons, List.map_nil]); first | done | rfl | (simp only [List.length_drop, List.length_take]; rfl)) ?_; (with_reducible refine (lockgatelaw15_short.calls a0 100 t193 _ A4.out).mono ?_); rintro e w' ⟨rfl, ⟨nd, rfl⟩⟩; refine ⟨_, rfl, ?_⟩) | ((with_reducible refine gate_callee (f := 11) rfl ?_); refine goesL_ (some 11) rfl rfl Tryd.func11 (by kernel_rfl) rfl #[.string a1, .int .i64 100] rfl (by (try simp only [List.map_toArray, List.map_cons, List.map_nil]); first | done | rfl | (simp only [List.length_drop, List.length_take]; rfl)) ?_; (with_reducible refine (lockgatelaw15_short.calls a1 100 t194 _ A5.out).mono ?_); rintro e w' ⟨rfl, ⟨nd, rfl⟩⟩; refine ⟨_, rfl, ?_⟩) | ((with_reducible refine gate_callee (f := 17) rfl ?_); refine goesL_ (some 15) rfl rfl Tryd.func17 (by kernel_rfl) rfl #[.string (t193 ++ t194)] rfl (by (try simp only [List.map_toArray, List.map_cons, List.map_nil]); first | done | rfl | (simp only [List.length_drop, List.length_take]; rfl)) ?_; (with_reducible refine (entry_Zone.calls k (t193 ++ t194) t195 _ A7.out).mono ?_); rintro e w' ⟨rfl, ⟨nd, rfl⟩⟩; refine ⟨_, rfl, ?_⟩) | (go_at_call 17; (with_reducible refine (entry_Zone.calls k t193 t196 _ A9.out).mono ?_); rintro e w' ⟨rfl, ⟨nd, rfl⟩⟩) | (go_at_call 17; (with_reducible refine (entry_Zone.calls k t194 t197 _ A10.out).mono ?_); rintro e w' ⟨rfl, ⟨nd, rfl⟩⟩))
        go_ret
        exact ⟨by first | rfl | (simp [errW_none, errW_some] <;> rfl) | (simp [*, errW_none, errW_some] <;> rfl), by repeat (first | (with_reducible first | exact HB.out | apply below_alloc | apply pw_below_drewN | apply below_drew1) | exact HB.out)⟩
    · replace c8 := Bool.eq_false_iff.mpr c8
      subst c8
      have H1 : (some false) = some r := by rw [if_neg (show ¬ (false = true) by decide)] at H; exact H
      clear H
      have H := H1
      clear H1
      obtain rfl := Option.some.inj H
      go_enter Tryd.func5, Tryd.ntmps5
      go_wp2_with (first | ((with_reducible refine gate_callee (f := 10) rfl ?_); refine goesL_ (some 7) rfl rfl Tryd.func10 (by kernel_rfl) rfl #[] rfl (by (try simp only [List.map_toArray, List.map_cons, List.map_nil]); first | done | rfl | (simp only [List.length_drop, List.length_take]; rfl)) ?_; (with_reducible refine (lockgatelaw15_awake.calls k  false _ A3.out).mono ?_); rintro e w20 ⟨rfl, hb⟩; refine ⟨_, rfl, ?_⟩; have n0_ := Aside0.mk (below_step (by repeat (first | (with_reducible first | exact HB.out | apply below_alloc | apply pw_below_drewN | apply below_drew1) | exact HB.out)) hb); clear HB; have HB := n0_; clear n0_; (try clear hb); (try clear hb2); (try clear hk); (try clear hi)) | ((with_reducible refine gate_callee (f := 11) rfl ?_); refine goesL_ (some 9) rfl rfl Tryd.func11 (by kernel_rfl) rfl #[.string a0, .int .i64 100] rfl (by (try simp only [List.map_toArray, List.map_cons, List.map_nil]); first | done | rfl | (simp only [List.length_drop, List.length_take]; rfl)) ?_; (with_reducible refine (lockgatelaw15_short.calls a0 100 t193 _ A4.out).mono ?_); rintro e w' ⟨rfl, ⟨nd, rfl⟩⟩; refine ⟨_, rfl, ?_⟩) | ((with_reducible refine gate_callee (f := 11) rfl ?_); refine goesL_ (some 11) rfl rfl Tryd.func11 (by kernel_rfl) rfl #[.string a1, .int .i64 100] rfl (by (try simp only [List.map_toArray, List.map_cons, List.map_nil]); first | done | rfl | (simp only [List.length_drop, List.length_take]; rfl)) ?_; (with_reducible refine (lockgatelaw15_short.calls a1 100 t194 _ A5.out).mono ?_); rintro e w' ⟨rfl, ⟨nd, rfl⟩⟩; refine ⟨_, rfl, ?_⟩) | ((with_reducible refine gate_callee (f := 17) rfl ?_); refine goesL_ (some 15) rfl rfl Tryd.func17 (by kernel_rfl) rfl #[.string (t193 ++ t194)] rfl (by (try simp only [List.map_toArray, List.map_cons, List.map_nil]); first | done | rfl | (simp only [List.length_drop, List.length_take]; rfl)) ?_; (with_reducible refine (entry_Zone.calls k (t193 ++ t194) t195 _ A7.out).mono ?_); rintro e w' ⟨rfl, ⟨nd, rfl⟩⟩; refine ⟨_, rfl, ?_⟩))
      go_ret
      exact ⟨by first | rfl | (simp [errW_none, errW_some] <;> rfl) | (simp [*, errW_none, errW_some] <;> rfl), by repeat (first | (with_reducible first | exact HB.out | apply below_alloc | apply pw_below_drewN | apply below_drew1) | exact HB.out)⟩
  · rw [if_neg c6] at H
    exact absurd H (by simp)

/-- THE ONE PURE STATEMENT of lockgatelaw15_EntryZones: yours. -/
def lockgatelaw15_EntryZones.Pure : Prop := ∀ (a0 : ByteArray) (a1 : ByteArray), a0.size ≤ 140737488351232 → a1.size ≤ 140737488351232 → ∃ k, lockgatelaw15_EntryZones.f k a0 a1 = some true
theorem lockgatelaw15_EntryZones.walk (P : lockgatelaw15_EntryZones.Pure) (a0 : ByteArray) (a1 : ByteArray) (w : World) (w0 : a0.size ≤ 140737488351232) (w1 : a1.size ≤ 140737488351232) :
    Calls Tryd.prog 5 #[.string a0, .string a1] w fun e w' => e = .returned (.bool true) ∧ Below w.heap.size w w' := by
  obtain ⟨k, h⟩ := P a0 a1 w0 w1
  refine (lockgatelaw15_EntryZones.calls k a0 a1 true w h).mono ?_
  rintro e w' ⟨rfl, hd⟩
  exact ⟨rfl, hd⟩

end Go.Proofs.YtgmbmkjdfmoanaaDoor.Q
