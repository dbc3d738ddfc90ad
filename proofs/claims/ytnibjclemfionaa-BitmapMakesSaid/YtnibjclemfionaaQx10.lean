-- Written by mp.py (a program of this repo, over the print) for this seat: functions, contracts, walks.
import Derived.Test.YtnibjclemfionaaQx0
import Derived.Test.YtnibjclemfionaaQx1
import Derived.Test.YtnibjclemfionaaQx9
namespace Go.Proofs.Ytnibjclemfionaa.Q
open Go.RowKit Go.Proofs.YtnibjclemfionaaW.PrintWords Go.Proofs.YtnibjclemfionaaW.PrintLast Go.Proofs.YtnibjclemfionaaW.PrintMore
attribute [local go_sem] max2_int min2_int max_two min_two max_three min_three max_four min_four   -- for this text's walks alone
set_option linter.unusedVariables false
set_option linter.unusedSimpArgs false

/-! ### lockgatelaw03_BitmapMakes: function 9 -/
def lockgatelaw03_BitmapMakes.f (k : Nat) (a0 : Int) (a1 : ByteArray) : Option (Bool) := (lockgatelaw03_awake.f k).bind fun t194 => ((lockgatelaw03_short.f a1).bind fun t195 => (if t194 = true then ((bitmap_New.f a0).bind fun t196 => ((lockgateref03_New.f k a0).bind fun t197 => (if t196.toList = t197.toList then ((bitmap_Len.f t195).bind fun t198 => (if t198 = (wrap64 (8 * (t195.size : Int))) then ((bitmap_Right.f k t195 a0).bind fun t199 => ((lockgateref03_Right.f k t195 a0).bind fun t200 => (if (t199 == t200) = true then ((bitmap_New.f a0).bind fun t201 => ((bitmap_Right.f k t201 a0).bind fun t202 => (if a0 ≥ 0 then (some (t202 == (decide (a0 ≤ 4000)))) else (some (t202 == false))))) else (some false)))) else (some false))) else (some false)))) else (some false)))
theorem lockgatelaw03_BitmapMakes.mono : ∀ a0 a1 k, LeO (lockgatelaw03_BitmapMakes.f k a0 a1) (lockgatelaw03_BitmapMakes.f (k + 1) a0 a1) := by
  intro a0 a1 k
  unfold lockgatelaw03_BitmapMakes.f
  repeat' first
      | (with_reducible exact bitmap_Right.mono _ _ _)
      | (with_reducible exact lockgatelaw03_awake.mono _)
      | (with_reducible exact lockgateref03_New.mono _ _)
      | (with_reducible exact lockgateref03_Right.mono _ _ _)
      | (with_reducible exact LeO.refl _)
      | (with_reducible exact LeO.none _)
      | (with_reducible refine LeO.ite ?_ ?_)
      | (with_reducible refine LeO.bind ?_ (fun _ => ?_))
      | exact bitmap_Right.mono _ _ _
      | exact lockgatelaw03_awake.mono _
      | exact lockgateref03_New.mono _ _
      | exact lockgateref03_Right.mono _ _ _
      | exact LeO.none _
      | refine LeO.ite ?_ ?_
      | refine LeO.bind ?_ (fun _ => ?_)
set_option maxHeartbeats 8000000 in
set_option maxRecDepth 100000 in
theorem lockgatelaw03_BitmapMakes.calls (k : Nat) (a0 : Int) (a1 : ByteArray) (r : Bool) (w : World) (h : lockgatelaw03_BitmapMakes.f k a0 a1 = some r) :
    Calls Try.prog 9 #[.int .i64 a0, .string a1] w fun e w' => e = .returned (.bool r) ∧ Below w.heap.size w w' := by
  have HB := Aside0.mk (Below.refl w.heap.size w)
  have H : ((lockgatelaw03_awake.f k).bind fun t194 => ((lockgatelaw03_short.f a1).bind fun t195 => (if t194 = true then ((bitmap_New.f a0).bind fun t196 => ((lockgateref03_New.f k a0).bind fun t197 => (if t196.toList = t197.toList then ((bitmap_Len.f t195).bind fun t198 => (if t198 = (wrap64 (8 * (t195.size : Int))) then ((bitmap_Right.f k t195 a0).bind fun t199 => ((lockgateref03_Right.f k t195 a0).bind fun t200 => (if (t199 == t200) = true then ((bitmap_New.f a0).bind fun t201 => ((bitmap_Right.f k t201 a0).bind fun t202 => (if a0 ≥ 0 then (some (t202 == (decide (a0 ≤ 4000)))) else (some (t202 == false))))) else (some false)))) else (some false))) else (some false)))) else (some false)))) = some r := h
  clear h
  replace H := Option.bind_eq_some_iff.mp H
  obtain ⟨t194, A30, H⟩ := H
  replace H : ((lockgatelaw03_short.f a1).bind fun t195 => (if t194 = true then ((bitmap_New.f a0).bind fun t196 => ((lockgateref03_New.f k a0).bind fun t197 => (if t196.toList = t197.toList then ((bitmap_Len.f t195).bind fun t198 => (if t198 = (wrap64 (8 * (t195.size : Int))) then ((bitmap_Right.f k t195 a0).bind fun t199 => ((lockgateref03_Right.f k t195 a0).bind fun t200 => (if (t199 == t200) = true then ((bitmap_New.f a0).bind fun t201 => ((bitmap_Right.f k t201 a0).bind fun t202 => (if a0 ≥ 0 then (some (t202 == (decide (a0 ≤ 4000)))) else (some (t202 == false))))) else (some false)))) else (some false))) else (some false)))) else (some false))) = some r := H
  have A3 := Aside0.mk A30
  clear A30
  replace H := Option.bind_eq_some_iff.mp H
  obtain ⟨t195, A40, H⟩ := H
  replace H : (if t194 = true then ((bitmap_New.f a0).bind fun t196 => ((lockgateref03_New.f k a0).bind fun t197 => (if t196.toList = t197.toList then ((bitmap_Len.f t195).bind fun t198 => (if t198 = (wrap64 (8 * (t195.size : Int))) then ((bitmap_Right.f k t195 a0).bind fun t199 => ((lockgateref03_Right.f k t195 a0).bind fun t200 => (if (t199 == t200) = true then ((bitmap_New.f a0).bind fun t201 => ((bitmap_Right.f k t201 a0).bind fun t202 => (if a0 ≥ 0 then (some (t202 == (decide (a0 ≤ 4000)))) else (some (t202 == false))))) else (some false)))) else (some false))) else (some false)))) else (some false)) = some r := H
  have A4 := Aside0.mk A40
  clear A40
  by_cases c5 : t194 = true
  · subst c5
    have H1 : ((bitmap_New.f a0).bind fun t196 => ((lockgateref03_New.f k a0).bind fun t197 => (if t196.toList = t197.toList then ((bitmap_Len.f t195).bind fun t198 => (if t198 = (wrap64 (8 * (t195.size : Int))) then ((bitmap_Right.f k t195 a0).bind fun t199 => ((lockgateref03_Right.f k t195 a0).bind fun t200 => (if (t199 == t200) = true then ((bitmap_New.f a0).bind fun t201 => ((bitmap_Right.f k t201 a0).bind fun t202 => (if a0 ≥ 0 then (some (t202 == (decide (a0 ≤ 4000)))) else (some (t202 == false))))) else (some false)))) else (some false))) else (some false)))) = some r := by rw [if_pos rfl] at H; exact H
    clear H
    have H := H1
    clear H1
    replace H := Option.bind_eq_some_iff.mp H
    obtain ⟨t196, A60, H⟩ := H
    replace H : ((lockgateref03_New.f k a0).bind fun t197 => (if t196.toList = t197.toList then ((bitmap_Len.f t195).bind fun t198 => (if t198 = (wrap64 (8 * (t195.size : Int))) then ((bitmap_Right.f k t195 a0).bind fun t199 => ((lockgateref03_Right.f k t195 a0).bind fun t200 => (if (t199 == t200) = true then ((bitmap_New.f a0).bind fun t201 => ((bitmap_Right.f k t201 a0).bind fun t202 => (if a0 ≥ 0 then (some (t202 == (decide (a0 ≤ 4000)))) else (some (t202 == false))))) else (some false)))) else (some false))) else (some false))) = some r := H
    have A6 := Aside0.mk A60
    clear A60
    replace H := Option.bind_eq_some_iff.mp H
    obtain ⟨t197, A70, H⟩ := H
    replace H : (if t196.toList = t197.toList then ((bitmap_Len.f t195).bind fun t198 => (if t198 = (wrap64 (8 * (t195.size : Int))) then ((bitmap_Right.f k t195 a0).bind fun t199 => ((lockgateref03_Right.f k t195 a0).bind fun t200 => (if (t199 == t200) = true then ((bitmap_New.f a0).bind fun t201 => ((bitmap_Right.f k t201 a0).bind fun t202 => (if a0 ≥ 0 then (some (t202 == (decide (a0 ≤ 4000)))) else (some (t202 == false))))) else (some false)))) else (some false))) else (some false)) = some r := H
    have A7 := Aside0.mk A70
    clear A70
    by_cases c8 : t196.toList = t197.toList
    · rw [if_pos c8] at H
      have c8b0 : (t196.toList == t197.toList) = true := beq_iff_eq.mpr c8
      have c8b1 : (t196.toList != t197.toList) = false := bne_eq_false_iff_eq.mpr c8
      clear c8
      replace H := Option.bind_eq_some_iff.mp H
      obtain ⟨t198, A90, H⟩ := H
      replace H : (if t198 = (wrap64 (8 * (t195.size : Int))) then ((bitmap_Right.f k t195 a0).bind fun t199 => ((lockgateref03_Right.f k t195 a0).bind fun t200 => (if (t199 == t200) = true then ((bitmap_New.f a0).bind fun t201 => ((bitmap_Right.f k t201 a0).bind fun t202 => (if a0 ≥ 0 then (some (t202 == (decide (a0 ≤ 4000)))) else (some (t202 == false))))) else (some false)))) else (some false)) = some r := H
      have A9 := Aside0.mk A90
      clear A90
      by_cases c10 : t198 = (wrap64 (8 * (t195.size : Int)))
      · rw [if_pos c10] at H
        have c10b0 : (t198 == (wrap64 (8 * (t195.size : Int)))) = true := beq_iff_eq.mpr c10
        have c10b1 : (t198 != (wrap64 (8 * (t195.size : Int)))) = false := bne_eq_false_iff_eq.mpr c10
        clear c10
        replace H := Option.bind_eq_some_iff.mp H
        obtain ⟨t199, A110, H⟩ := H
        replace H : ((lockgateref03_Right.f k t195 a0).bind fun t200 => (if (t199 == t200) = true then ((bitmap_New.f a0).bind fun t201 => ((bitmap_Right.f k t201 a0).bind fun t202 => (if a0 ≥ 0 then (some (t202 == (decide (a0 ≤ 4000)))) else (some (t202 == false))))) else (some false))) = some r := H
        have A11 := Aside0.mk A110
        clear A110
        replace H := Option.bind_eq_some_iff.mp H
        obtain ⟨t200, A120, H⟩ := H
        replace H : (if (t199 == t200) = true then ((bitmap_New.f a0).bind fun t201 => ((bitmap_Right.f k t201 a0).bind fun t202 => (if a0 ≥ 0 then (some (t202 == (decide (a0 ≤ 4000)))) else (some (t202 == false))))) else (some false)) = some r := H
        have A12 := Aside0.mk A120
        clear A120
        by_cases c13 : (t199 == t200) = true
        · rw [if_pos c13] at H
          have c13b0 : (t199 == t200) = true := c13
          (try (have c13b1 : decide (t199 = t200) = true := by simpa using c13))
          (try (have c13b2 : (t199 == t200) = true := by simpa using c13))
          clear c13
          replace H := Option.bind_eq_some_iff.mp H
          obtain ⟨t201, A140, H⟩ := H
          have e_t201 : t196 = t201 := Option.some.inj (A6.out.symm.trans A140)
          subst e_t201
          replace H : ((bitmap_Right.f k t196 a0).bind fun t202 => (if a0 ≥ 0 then (some (t202 == (decide (a0 ≤ 4000)))) else (some (t202 == false)))) = some r := H
          have A14 := Aside0.mk A140
          clear A140
          replace H := Option.bind_eq_some_iff.mp H
          obtain ⟨t202, A150, H⟩ := H
          replace H : (if a0 ≥ 0 then (some (t202 == (decide (a0 ≤ 4000)))) else (some (t202 == false))) = some r := H
          have A15 := Aside0.mk A150
          clear A150
          by_cases c16 : a0 ≥ 0
          · rw [if_pos c16] at H
            have c16b0 : decide (0 ≤ a0) = true := decide_eq_true c16
            clear c16
            obtain rfl := Option.some.inj H
            go_enter Try.func9, Try.ntmps9
            go_wp2_with (first | ((with_reducible refine gate_callee (f := 11) rfl ?_); refine goesL_ (some 6) rfl rfl Try.func11 (by kernel_rfl) rfl #[] rfl (by (try simp only [List.map_toArray, List.map_cons, List.map_nil]); first | done | rfl | (simp only [List.length_drop, List.length_take]; rfl)) ?_; (with_reducible refine (lockgatelaw03_awake.calls k  true _ A3.out).mono ?_); rintro e w17 ⟨rfl, hb⟩; refine ⟨_, rfl, ?_⟩; have n0_ := Aside0.mk (below_step (by repeat (first | (with_reducible first | exact HB.out | apply below_alloc | apply pw_below_drewN | apply below_drew1) | exact HB.out)) hb); clear HB; have HB := n0_; clear n0_; (try clear hb); (try clear hb2); (try clear hk); (try clear hi)) | ((with_reducible refine gate_callee (f := 12) rfl ?_); refine goesL_ (some 8) rfl rfl Try.func12 (by kernel_rfl) rfl #[.string a1] rfl (by (try simp only [List.map_toArray, List.map_cons, List.map_nil]); first | done | rfl | (simp only [List.length_drop, List.length_take]; rfl)) ?_; (with_reducible refine (lockgatelaw03_short.calls a1 t195 _ A4.out).mono ?_); rintro e w' ⟨rfl, ⟨nd, rfl⟩⟩; refine ⟨_, rfl, ?_⟩) | (go_at_call 23; (with_reducible refine (bitmap_New.calls a0 t196 _ A6.out).mono ?_); rintro e w18 ⟨rfl, hb⟩; have n0_ := Aside0.mk (below_step (by repeat (first | (with_reducible first | exact HB.out | apply below_alloc | apply pw_below_drewN | apply below_drew1) | exact HB.out)) hb); clear HB; have HB := n0_; clear n0_; (try clear hb); (try clear hb2); (try clear hk); (try clear hi)) | (go_at_call 24; (with_reducible refine (lockgateref03_New.calls k a0 t197 _ A7.out).mono ?_); rintro e w' ⟨rfl, ⟨nd, rfl⟩⟩) | (go_at_call 25; (with_reducible refine (bitmap_Len.calls t195 t198 _ A9.out).mono ?_); rintro e w' ⟨rfl, ⟨nd, rfl⟩⟩) | (go_at_call 26; (with_reducible refine (bitmap_Right.calls k t195 a0 t199 _ A11.out).mono ?_); rintro e w19 ⟨rfl, hb⟩; have n0_ := Aside0.mk (below_step (by repeat (first | (with_reducible first | exact HB.out | apply below_alloc | apply pw_below_drewN | apply below_drew1) | exact HB.out)) hb); clear HB; have HB := n0_; clear n0_; (try clear hb); (try clear hb2); (try clear hk); (try clear hi)) | (go_at_call 27; (with_reducible refine (lockgateref03_Right.calls k t195 a0 t200 _ A12.out).mono ?_); rintro e w' ⟨rfl, ⟨nd, rfl⟩⟩) | (go_at_call 23; (with_reducible refine (bitmap_New.calls a0 t196 _ A14.out).mono ?_); rintro e w20 ⟨rfl, hb⟩; have n0_ := Aside0.mk (below_step (by repeat (first | (with_reducible first | exact HB.out | apply below_alloc | apply pw_below_drewN | apply below_drew1) | exact HB.out)) hb); clear HB; have HB := n0_; clear n0_; (try clear hb); (try clear hb2); (try clear hk); (try clear hi)) | (go_at_call 26; (with_reducible refine (bitmap_Right.calls k t196 a0 t202 _ A15.out).mono ?_); rintro e w21 ⟨rfl, hb⟩; have n0_ := Aside0.mk (below_step (by repeat (first | (with_reducible first | exact HB.out | apply below_alloc | apply pw_below_drewN | apply below_drew1) | exact HB.out)) hb); clear HB; have HB := n0_; clear n0_; (try clear hb); (try clear hb2); (try clear hk); (try clear hi)))
            go_ret
            exact ⟨by first | rfl | (simp [errW_none, errW_some] <;> rfl) | (simp [*, errW_none, errW_some] <;> rfl), by repeat (first | (with_reducible first | exact HB.out | apply below_alloc | apply pw_below_drewN | apply below_drew1) | exact HB.out)⟩
          · rw [if_neg c16] at H
            have c16b0 : decide (0 ≤ a0) = false := decide_eq_false c16
            clear c16
            obtain rfl := Option.some.inj H
            go_enter Try.func9, Try.ntmps9
            go_wp2_with (first | ((with_reducible refine gate_callee (f := 11) rfl ?_); refine goesL_ (some 6) rfl rfl Try.func11 (by kernel_rfl) rfl #[] rfl (by (try simp only [List.map_toArray, List.map_cons, List.map_nil]); first | done | rfl | (simp only [List.length_drop, List.length_take]; rfl)) ?_; (with_reducible refine (lockgatelaw03_awake.calls k  true _ A3.out).mono ?_); rintro e w22 ⟨rfl, hb⟩; refine ⟨_, rfl, ?_⟩; have n0_ := Aside0.mk (below_step (by repeat (first | (with_reducible first | exact HB.out | apply below_alloc | apply pw_below_drewN | apply below_drew1) | exact HB.out)) hb); clear HB; have HB := n0_; clear n0_; (try clear hb); (try clear hb2); (try clear hk); (try clear hi)) | ((with_reducible refine gate_callee (f := 12) rfl ?_); refine goesL_ (some 8) rfl rfl Try.func12 (by kernel_rfl) rfl #[.string a1] rfl (by (try simp only [List.map_toArray, List.map_cons, List.map_nil]); first | done | rfl | (simp only [List.length_drop, List.length_take]; rfl)) ?_; (with_reducible refine (lockgatelaw03_short.calls a1 t195 _ A4.out).mono ?_); rintro e w' ⟨rfl, ⟨nd, rfl⟩⟩; refine ⟨_, rfl, ?_⟩) | (go_at_call 23; (with_reducible refine (bitmap_New.calls a0 t196 _ A6.out).mono ?_); rintro e w23 ⟨rfl, hb⟩; have n0_ := Aside0.mk (below_step (by repeat (first | (with_reducible first | exact HB.out | apply below_alloc | apply pw_below_drewN | apply below_drew1) | exact HB.out)) hb); clear HB; have HB := n0_; clear n0_; (try clear hb); (try clear hb2); (try clear hk); (try clear hi)) | (go_at_call 24; (with_reducible refine (lockgateref03_New.calls k a0 t197 _ A7.out).mono ?_); rintro e w' ⟨rfl, ⟨nd, rfl⟩⟩) | (go_at_call 25; (with_reducible refine (bitmap_Len.calls t195 t198 _ A9.out).mono ?_); rintro e w' ⟨rfl, ⟨nd, rfl⟩⟩) | (go_at_call 26; (with_reducible refine (bitmap_Right.calls k t195 a0 t199 _ A11.out).mono ?_); rintro e w24 ⟨rfl, hb⟩; have n0_ := Aside0.mk (below_step (by repeat (first | (with_reducible first | exact HB.out | apply below_alloc | apply pw_below_drewN | apply below_drew1) | exact HB.out)) hb); clear HB; have HB := n0_; clear n0_; (try clear hb); (try clear hb2); (try clear hk); (try clear hi)) | (go_at_call 27; (with_reducible refine (lockgateref03_Right.calls k t195 a0 t200 _ A12.out).mono ?_); rintro e w' ⟨rfl, ⟨nd, rfl⟩⟩) | (go_at_call 23; (with_reducible refine (bitmap_New.calls a0 t196 _ A14.out).mono ?_); rintro e w25 ⟨rfl, hb⟩; have n0_ := Aside0.mk (below_step (by repeat (first | (with_reducible first | exact HB.out | apply below_alloc | apply pw_below_drewN | apply below_drew1) | exact HB.out)) hb); clear HB; have HB := n0_; clear n0_; (try clear hb); (try clear hb2); (try clear hk); (try clear hi)) | (go_at_call 26; (with_reducible refine (bitmap_Right.calls k t196 a0 t202 _ A15.out).mono ?_); rintro e w26 ⟨rfl, hb⟩; have n0_ := Aside0.mk (below_step (by repeat (first | (with_reducible first | exact HB.out | apply below_alloc | apply pw_below_drewN | apply below_drew1) | exact HB.out)) hb); clear HB; have HB := n0_; clear n0_; (try clear hb); (try clear hb2); (try clear hk); (try clear hi)))
            go_ret
            exact ⟨by first | rfl | (simp [errW_none, errW_some] <;> rfl) | (simp [*, errW_none, errW_some] <;> rfl), by repeat (first | (with_reducible first | exact HB.out | apply below_alloc | apply pw_below_drewN | apply below_drew1) | exact HB.out)⟩
        · rw [if_neg c13] at H
          have c13b0 : (t199 == t200) = false := by simpa using c13
          (try (have c13b1 : decide (t199 = t200) = false := by simpa using c13))
          (try (have c13b2 : (t199 == t200) = false := by simpa using c13))
          (try (have c13b3 : ¬ (t199 = t200) := by simpa using c13))
          clear c13
          obtain rfl := Option.some.inj H
          go_enter Try.func9, Try.ntmps9
          go_wp2_with (first | ((with_reducible refine gate_callee (f := 11) rfl ?_); refine goesL_ (some 6) rfl rfl Try.func11 (by kernel_rfl) rfl #[] rfl (by (try simp only [List.map_toArray, List.map_cons, List.map_nil]); first | done | rfl | (simp only [List.length_drop, List.length_take]; rfl)) ?_; (with_reducible refine (lockgatelaw03_awake.calls k  true _ A3.out).mono ?_); rintro e w27 ⟨rfl, hb⟩; refine ⟨_, rfl, ?_⟩; have n0_ := Aside0.mk (below_step (by repeat (first | (with_reducible first | exact HB.out | apply below_alloc | apply pw_below_drewN | apply below_drew1) | exact HB.out)) hb); clear HB; have HB := n0_; clear n0_; (try clear hb); (try clear hb2); (try clear hk); (try clear hi)) | ((with_reducible refine gate_callee (f := 12) rfl ?_); refine goesL_ (some 8) rfl rfl Try.func12 (by kernel_rfl) rfl #[.string a1] rfl (by (try simp only [List.map_toArray, List.map_cons, List.map_nil]); first | done | rfl | (simp only [List.length_drop, List.length_take]; rfl)) ?_; (with_reducible refine (lockgatelaw03_short.calls a1 t195 _ A4.out).mono ?_); rintro e w' ⟨rfl, ⟨nd, rfl⟩⟩; refine ⟨_, rfl, ?_⟩) | (go_at_call 23; (with_reducible refine (bitmap_New.calls a0 t196 _ A6.out).mono ?_); rintro e w28 ⟨rfl, hb⟩; have n0_ := Aside0.mk (below_step (by repeat (first | (with_reducible first | exact HB.out | apply below_alloc | apply pw_below_drewN | apply below_drew1) | exact HB.out)) hb); clear HB; have HB := n0_; clear n0_; (try clear hb); (try clear hb2); (try clear hk); (try clear hi)) | (go_at_call 24; (with_reducible refine (lockgateref03_New.calls k a0 t197 _ A7.out).mono ?_); rintro e w' ⟨rfl, ⟨nd, rfl⟩⟩) | (go_at_call 25; (with_reducible refine (bitmap_Len.calls t195 t198 _ A9.out).mono ?_); rintro e w' ⟨rfl, ⟨nd, rfl⟩⟩) | (go_at_call 26; (with_reducible refine (bitmap_Right.calls k t195 a0 t199 _ A11.out).mono ?_); rintro e w29 ⟨rfl, hb⟩; have n0_ := Aside0.mk (below_step (by repeat (first | (with_reducible first | exact HB.out | apply below_alloc | apply pw_below_drewN | apply below_drew1) | exact HB.out)) hb); clear HB; have HB := n0_; clear n0_; (try clear hb); (try clear hb2); (try clear hk); (try clear hi)) | (go_at_call 27; (with_reducible refine (lockgateref03_Right.calls k t195 a0 t200 _ A12.out).mono ?_); rintro e w' ⟨rfl, ⟨nd, rfl⟩⟩))
          go_ret
          exact ⟨by first | rfl | (simp [errW_none, errW_some] <;> rfl) | (simp [*, errW_none, errW_some] <;> rfl), by repeat (first | (with_reducible first | exact HB.out | apply below_alloc | apply pw_below_drewN | apply below_drew1) | exact HB.out)⟩
      · rw [if_neg c10] at H
        have c10b0 : (t198 == (wrap64 (8 * (t195.size : Int)))) = false := beq_eq_false_iff_ne.mpr c10
        have c10b1 : (t198 != (wrap64 (8 * (t195.size : Int)))) = true := bne_iff_ne.mpr c10
        obtain rfl := Option.some.inj H
        go_enter Try.func9, Try.ntmps9
        go_wp2_with (first | ((with_reducible refine gate_callee (f := 11) rfl ?_); refine goesL_ (some 6) rfl rfl Try.func11 (by kernel_rfl) rfl #[] rfl (by (try simp only [List.map_toArray, List.map_cons, List.map_nil]); first | done | rfl | (simp only [List.length_drop, List.length_take]; rfl)) ?_; (with_reducible refine (lockgatelaw03_awake.calls k  true _ A3.out).mono ?_); rintro e w30 ⟨rfl, hb⟩; refine ⟨_, rfl, ?_⟩; have n0_ := Aside0.mk (below_step (by repeat (first | (with_reducible first | exact HB.out | apply below_alloc | apply pw_below_drewN | apply below_drew1) | exact HB.out)) hb); clear HB; have HB := n0_; clear n0_; (try clear hb); (try clear hb2); (try clear hk); (try clear hi)) | ((with_reducible refine gate_callee (f := 12) rfl ?_); refine goesL_ (some 8) rfl rfl Try.func12 (by kernel_rfl) rfl #[.string a1] rfl (by (try simp only [List.map_toArray, List.map_cons, List.map_nil]); first | done | rfl | (simp only [List.length_drop, List.length_take]; rfl)) ?_; (with_reducible refine (lockgatelaw03_short.calls a1 t195 _ A4.out).mono ?_); rintro e w' ⟨rfl, ⟨nd, rfl⟩⟩; refine ⟨_, rfl, ?_⟩) | (go_at_call 23; (with_reducible refine (bitmap_New.calls a0 t196 _ A6.out).mono ?_); rintro e w31 ⟨rfl, hb⟩; have n0_ := Aside0.mk (below_step (by repeat (first | (with_reducible first | exact HB.out | apply below_alloc | apply pw_below_drewN | apply below_drew1) | exact HB.out)) hb); clear HB; have HB := n0_; clear n0_; (try clear hb); (try clear hb2); (try clear hk); (try clear hi)) | (go_at_call 24; (with_reducible refine (lockgateref03_New.calls k a0 t197 _ A7.out).mono ?_); rintro e w' ⟨rfl, ⟨nd, rfl⟩⟩) | (go_at_call 25; (with_reducible refine (bitmap_Len.calls t195 t198 _ A9.out).mono ?_); rintro e w' ⟨rfl, ⟨nd, rfl⟩⟩))
        go_ret
        exact ⟨by first | rfl | (simp [errW_none, errW_some] <;> rfl) | (simp [*, errW_none, errW_some] <;> rfl), by repeat (first | (with_reducible first | exact HB.out | apply below_alloc | apply pw_below_drewN | apply below_drew1) | exact HB.out)⟩
    · rw [if_neg c8] at H
      have c8b0 : (t196.toList == t197.toList) = false := beq_eq_false_iff_ne.mpr c8
      have c8b1 : (t196.toList != t197.toList) = true := bne_iff_ne.mpr c8
      obtain rfl := Option.some.inj H
      go_enter Try.func9, Try.ntmps9
      go_wp2_with (first | ((with_reducible refine gate_callee (f := 11) rfl ?_); refine goesL_ (some 6) rfl rfl Try.func11 (by kernel_rfl) rfl #[] rfl (by (try simp only [List.map_toArray, List.map_cons, List.map_nil]); first | done | rfl | (simp only [List.length_drop, List.length_take]; rfl)) ?_; (with_reducible refine (lockgatelaw03_awake.calls k  true _ A3.out).mono ?_); rintro e w32 ⟨rfl, hb⟩; refine ⟨_, rfl, ?_⟩; have n0_ := Aside0.mk (below_step (by repeat (first | (with_reducible first | exact HB.out | apply below_alloc | apply pw_below_drewN | apply below_drew1) | exact HB.out)) hb); clear HB; have HB := n0_; clear n0_; (try clear hb); (try clear hb2); (try clear hk); (try clear hi)) | ((with_reducible refine gate_callee (f := 12) rfl ?_); refine goesL_ (some 8) rfl rfl Try.func12 (by kernel_rfl) rfl #[.string a1] rfl (by (try simp only [List.map_toArray, List.map_cons, List.map_nil]); first | done | rfl | (simp only [List.length_drop, List.length_take]; rfl)) ?_; (with_reducible refine (lockgatelaw03_short.calls a1 t195 _ A4.out).mono ?_); rintro e w' ⟨rfl, ⟨nd, rfl⟩⟩; refine ⟨_, rfl, ?_⟩) | (go_at_call 23; (with_reducible refine (bitmap_New.calls a0 t196 _ A6.out).mono ?_); rintro e w33 ⟨rfl, hb⟩; have n0_ := Aside0.mk (below_step (by repeat (first | (with_reducible first | exact HB.out | apply below_alloc | apply pw_below_drewN | apply below_drew1) | exact HB.out)) hb); clear HB; have HB := n0_; clear n0_; (try clear hb); (try clear hb2); (try clear hk); (try clear hi)) | (go_at_call 24; (with_reducible refine (lockgateref03_New.calls k a0 t197 _ A7.out).mono ?_); rintro e w' ⟨rfl, ⟨nd, rfl⟩⟩))
      go_ret
      exact ⟨by first | rfl | (simp [errW_none, errW_some] <;> rfl) | (simp [*, errW_none, errW_some] <;> rfl), by repeat (first | (with_reducible first | exact HB.out | apply below_alloc | apply pw_below_drewN | apply below_drew1) | exact HB.out)⟩
  · replace c5 := Bool.eq_false_iff.mpr c5
    subst c5
    have H1 : (some false) = some r := by rw [if_neg (show ¬ (false = true) by decide)] at H; exact H
    clear H
    have H := H1
    clear H1
    obtain rfl := Option.some.inj H
    go_enter Try.func9, Try.ntmps9
    go_wp2_with (first | ((with_reducible refine gate_callee (f := 11) rfl ?_); refine goesL_ (some 6) rfl rfl Try.func11 (by kernel_rfl) rfl #[] rfl (by (try simp only [List.map_toArray, List.map_cons, List.map_nil]); first | done | rfl | (simp only [List.length_drop, List.length_take]; rfl)) ?_; (with_reducible refine (lockgatelaw03_awake.calls k  false _ A3.out).mono ?_); rintro e w34 ⟨rfl, hb⟩; refine ⟨_, rfl, ?_⟩; have n0_ := Aside0.mk (below_step (by repeat (first | (with_reducible first | exact HB.out | apply below_alloc | apply pw_below_drewN | apply below_drew1) | exact HB.out)) hb); clear HB; have HB := n0_; clear n0_; (try clear hb); (try clear hb2); (try clear hk); (try clear hi)) | ((with_reducible refine gate_callee (f := 12) rfl ?_); refine goesL_ (some 8) rfl rfl Try.func12 (by kernel_rfl) rfl #[.string a1] rfl (by (try simp only [List.map_toArray, List.map_cons, List.map_nil]); first | done | rfl | (simp only [List.length_drop, List.length_take]; rfl)) ?_; (with_reducible refine (lockgatelaw03_short.calls a1 t195 _ A4.out).mono ?_); rintro e w' ⟨rfl, ⟨nd, rfl⟩⟩; refine ⟨_, rfl, ?_⟩))
    go_ret
    exact ⟨by first | rfl | (simp [errW_none, errW_some] <;> rfl) | (simp [*, errW_none, errW_some] <;> rfl), by repeat (first | (with_reducible first | exact HB.out | apply below_alloc | apply pw_below_drewN | apply below_drew1) | exact HB.out)⟩

/-- THE ONE PURE STATEMENT of lockgatelaw03_BitmapMakes: yours. -/
def lockgatelaw03_BitmapMakes.Pure : Prop := ∀ (a0 : Int) (a1 : ByteArray), (Lit.int .i64 a0).wf = true → a1.size ≤ 140737488351232 → ∃ k, lockgatelaw03_BitmapMakes.f k a0 a1 = some true
theorem lockgatelaw03_BitmapMakes.walk (P : lockgatelaw03_BitmapMakes.Pure) (a0 : Int) (a1 : ByteArray) (w : World) (w0 : (Lit.int .i64 a0).wf = true) (w1 : a1.size ≤ 140737488351232) :
    Calls Try.prog 9 #[.int .i64 a0, .string a1] w fun e w' => e = .returned (.bool true) ∧ Below w.heap.size w w' := by
  obtain ⟨k, h⟩ := P a0 a1 w0 w1
  refine (lockgatelaw03_BitmapMakes.calls k a0 a1 true w h).mono ?_
  rintro e w' ⟨rfl, hd⟩
  exact ⟨rfl, hd⟩

end Go.Proofs.Ytnibjclemfionaa.Q
