-- Written by mp.py (a program of this repo, over the print) for this seat: functions, contracts, walks.
import Derived.Test.YtfphaiobbpjpkaaQx0
import Derived.Test.YtfphaiobbpjpkaaQx1
import Derived.Test.YtfphaiobbpjpkaaQx2
import Derived.Test.YtfphaiobbpjpkaaQx5
namespace Go.Proofs.Ytfphaiobbpjpkaa.Q
open Go.RowKit Go.Proofs.YtfphaiobbpjpkaaW.PrintWords Go.Proofs.YtfphaiobbpjpkaaW.PrintLast Go.Proofs.YtfphaiobbpjpkaaW.PrintMore
attribute [local go_sem] max2_int min2_int max_two min_two max_three min_three max_four min_four   -- for this text's walks alone
set_option linter.unusedVariables false
set_option linter.unusedSimpArgs false

/-! ### lockgatelaw01_PackOrder: function 6 -/
def lockgatelaw01_PackOrder.f (a0 : Int) (a1 : Int) : Option (Bool) := (lockgatelaw01_awake.f).bind fun t198 => (if t198 = true then ((pack_Eight.f a0).bind fun t199 => ((pack_Eight.f a1).bind fun t200 => (if ((Op.bytesLess t199.toList t200.toList) == (decide (a0 < a1))) = true then ((pack_Four.f ((a0) % 4294967296)).bind fun t201 => ((pack_Four.f ((a1) % 4294967296)).bind fun t202 => (if ((Op.bytesLess t201.toList t202.toList) == (decide (((a0) % 4294967296) < ((a1) % 4294967296)))) = true then ((pack_Two.f (IntKind.u16.wrap (a0))).bind fun t203 => ((pack_Two.f (IntKind.u16.wrap (a1))).bind fun t204 => (if ((t203.toList == t204.toList) == ((IntKind.u16.wrap (a0)) == (IntKind.u16.wrap (a1)))) = true then ((pack_Eight.f a0).bind fun t205 => (some ((t205.size : Int) == 8))) else (some false)))) else (some false)))) else (some false)))) else (some false))
set_option maxHeartbeats 8000000 in
set_option maxRecDepth 100000 in
theorem lockgatelaw01_PackOrder.calls (a0 : Int) (a1 : Int) (r : Bool) (w : World) (h : lockgatelaw01_PackOrder.f a0 a1 = some r) :
    Calls Try.prog 6 #[.int .u64 a0, .int .u64 a1] w fun e w' => e = .returned (.bool r) ∧ Below w.heap.size w w' := by
  have HB := Aside0.mk (Below.refl w.heap.size w)
  have H : ((lockgatelaw01_awake.f).bind fun t198 => (if t198 = true then ((pack_Eight.f a0).bind fun t199 => ((pack_Eight.f a1).bind fun t200 => (if ((Op.bytesLess t199.toList t200.toList) == (decide (a0 < a1))) = true then ((pack_Four.f ((a0) % 4294967296)).bind fun t201 => ((pack_Four.f ((a1) % 4294967296)).bind fun t202 => (if ((Op.bytesLess t201.toList t202.toList) == (decide (((a0) % 4294967296) < ((a1) % 4294967296)))) = true then ((pack_Two.f (IntKind.u16.wrap (a0))).bind fun t203 => ((pack_Two.f (IntKind.u16.wrap (a1))).bind fun t204 => (if ((t203.toList == t204.toList) == ((IntKind.u16.wrap (a0)) == (IntKind.u16.wrap (a1)))) = true then ((pack_Eight.f a0).bind fun t205 => (some ((t205.size : Int) == 8))) else (some false)))) else (some false)))) else (some false)))) else (some false))) = some r := h
  clear h
  replace H := Option.bind_eq_some_iff.mp H
  obtain ⟨t198, A30, H⟩ := H
  replace H : (if t198 = true then ((pack_Eight.f a0).bind fun t199 => ((pack_Eight.f a1).bind fun t200 => (if ((Op.bytesLess t199.toList t200.toList) == (decide (a0 < a1))) = true then ((pack_Four.f ((a0) % 4294967296)).bind fun t201 => ((pack_Four.f ((a1) % 4294967296)).bind fun t202 => (if ((Op.bytesLess t201.toList t202.toList) == (decide (((a0) % 4294967296) < ((a1) % 4294967296)))) = true then ((pack_Two.f (IntKind.u16.wrap (a0))).bind fun t203 => ((pack_Two.f (IntKind.u16.wrap (a1))).bind fun t204 => (if ((t203.toList == t204.toList) == ((IntKind.u16.wrap (a0)) == (IntKind.u16.wrap (a1)))) = true then ((pack_Eight.f a0).bind fun t205 => (some ((t205.size : Int) == 8))) else (some false)))) else (some false)))) else (some false)))) else (some false)) = some r := H
  have A3 := Aside0.mk A30
  clear A30
  by_cases c4 : t198 = true
  · subst c4
    have H1 : ((pack_Eight.f a0).bind fun t199 => ((pack_Eight.f a1).bind fun t200 => (if ((Op.bytesLess t199.toList t200.toList) == (decide (a0 < a1))) = true then ((pack_Four.f ((a0) % 4294967296)).bind fun t201 => ((pack_Four.f ((a1) % 4294967296)).bind fun t202 => (if ((Op.bytesLess t201.toList t202.toList) == (decide (((a0) % 4294967296) < ((a1) % 4294967296)))) = true then ((pack_Two.f (IntKind.u16.wrap (a0))).bind fun t203 => ((pack_Two.f (IntKind.u16.wrap (a1))).bind fun t204 => (if ((t203.toList == t204.toList) == ((IntKind.u16.wrap (a0)) == (IntKind.u16.wrap (a1)))) = true then ((pack_Eight.f a0).bind fun t205 => (some ((t205.size : Int) == 8))) else (some false)))) else (some false)))) else (some false)))) = some r := by rw [if_pos rfl] at H; exact H
    clear H
    have H := H1
    clear H1
    replace H := Option.bind_eq_some_iff.mp H
    obtain ⟨t199, A50, H⟩ := H
    replace H : ((pack_Eight.f a1).bind fun t200 => (if ((Op.bytesLess t199.toList t200.toList) == (decide (a0 < a1))) = true then ((pack_Four.f ((a0) % 4294967296)).bind fun t201 => ((pack_Four.f ((a1) % 4294967296)).bind fun t202 => (if ((Op.bytesLess t201.toList t202.toList) == (decide (((a0) % 4294967296) < ((a1) % 4294967296)))) = true then ((pack_Two.f (IntKind.u16.wrap (a0))).bind fun t203 => ((pack_Two.f (IntKind.u16.wrap (a1))).bind fun t204 => (if ((t203.toList == t204.toList) == ((IntKind.u16.wrap (a0)) == (IntKind.u16.wrap (a1)))) = true then ((pack_Eight.f a0).bind fun t205 => (some ((t205.size : Int) == 8))) else (some false)))) else (some false)))) else (some false))) = some r := H
    have A5 := Aside0.mk A50
    clear A50
    replace H := Option.bind_eq_some_iff.mp H
    obtain ⟨t200, A60, H⟩ := H
    replace H : (if ((Op.bytesLess t199.toList t200.toList) == (decide (a0 < a1))) = true then ((pack_Four.f ((a0) % 4294967296)).bind fun t201 => ((pack_Four.f ((a1) % 4294967296)).bind fun t202 => (if ((Op.bytesLess t201.toList t202.toList) == (decide (((a0) % 4294967296) < ((a1) % 4294967296)))) = true then ((pack_Two.f (IntKind.u16.wrap (a0))).bind fun t203 => ((pack_Two.f (IntKind.u16.wrap (a1))).bind fun t204 => (if ((t203.toList == t204.toList) == ((IntKind.u16.wrap (a0)) == (IntKind.u16.wrap (a1)))) = true then ((pack_Eight.f a0).bind fun t205 => (some ((t205.size : Int) == 8))) else (some false)))) else (some false)))) else (some false)) = some r := H
    have A6 := Aside0.mk A60
    clear A60
    by_cases c7 : ((Op.bytesLess t199.toList t200.toList) == (decide (a0 < a1))) = true
    · rw [if_pos c7] at H
      have c7b0 : ((Op.bytesLess t199.toList t200.toList) == (decide (a0 < a1))) = true := c7
      (try (have c7b1 : decide ((Op.bytesLess t199.toList t200.toList) = (decide (a0 < a1))) = true := by simpa using c7))
      (try (have c7b2 : ((Op.bytesLess t199.toList t200.toList) == (decide (a0 < a1))) = true := by simpa using c7))
      clear c7
      replace H := Option.bind_eq_some_iff.mp H
      obtain ⟨t201, A80, H⟩ := H
      replace H : ((pack_Four.f ((a1) % 4294967296)).bind fun t202 => (if ((Op.bytesLess t201.toList t202.toList) == (decide (((a0) % 4294967296) < ((a1) % 4294967296)))) = true then ((pack_Two.f (IntKind.u16.wrap (a0))).bind fun t203 => ((pack_Two.f (IntKind.u16.wrap (a1))).bind fun t204 => (if ((t203.toList == t204.toList) == ((IntKind.u16.wrap (a0)) == (IntKind.u16.wrap (a1)))) = true then ((pack_Eight.f a0).bind fun t205 => (some ((t205.size : Int) == 8))) else (some false)))) else (some false))) = some r := H
      have A8 := Aside0.mk A80
      clear A80
      replace H := Option.bind_eq_some_iff.mp H
      obtain ⟨t202, A90, H⟩ := H
      replace H : (if ((Op.bytesLess t201.toList t202.toList) == (decide (((a0) % 4294967296) < ((a1) % 4294967296)))) = true then ((pack_Two.f (IntKind.u16.wrap (a0))).bind fun t203 => ((pack_Two.f (IntKind.u16.wrap (a1))).bind fun t204 => (if ((t203.toList == t204.toList) == ((IntKind.u16.wrap (a0)) == (IntKind.u16.wrap (a1)))) = true then ((pack_Eight.f a0).bind fun t205 => (some ((t205.size : Int) == 8))) else (some false)))) else (some false)) = some r := H
      have A9 := Aside0.mk A90
      clear A90
      by_cases c10 : ((Op.bytesLess t201.toList t202.toList) == (decide (((a0) % 4294967296) < ((a1) % 4294967296)))) = true
      · rw [if_pos c10] at H
        have c10b0 : ((Op.bytesLess t201.toList t202.toList) == (decide (((a0) % 4294967296) < ((a1) % 4294967296)))) = true := c10
        (try (have c10b1 : decide ((Op.bytesLess t201.toList t202.toList) = (decide (((a0) % 4294967296) < ((a1) % 4294967296)))) = true := by simpa using c10))
        (try (have c10b2 : ((Op.bytesLess t201.toList t202.toList) == (decide (((a0) % 4294967296) < ((a1) % 4294967296)))) = true := by simpa using c10))
        clear c10
        replace H := Option.bind_eq_some_iff.mp H
        obtain ⟨t203, A110, H⟩ := H
        replace H : ((pack_Two.f (IntKind.u16.wrap (a1))).bind fun t204 => (if ((t203.toList == t204.toList) == ((IntKind.u16.wrap (a0)) == (IntKind.u16.wrap (a1)))) = true then ((pack_Eight.f a0).bind fun t205 => (some ((t205.size : Int) == 8))) else (some false))) = some r := H
        have A11 := Aside0.mk A110
        clear A110
        replace H := Option.bind_eq_some_iff.mp H
        obtain ⟨t204, A120, H⟩ := H
        replace H : (if ((t203.toList == t204.toList) == ((IntKind.u16.wrap (a0)) == (IntKind.u16.wrap (a1)))) = true then ((pack_Eight.f a0).bind fun t205 => (some ((t205.size : Int) == 8))) else (some false)) = some r := H
        have A12 := Aside0.mk A120
        clear A120
        by_cases c13 : ((t203.toList == t204.toList) == ((IntKind.u16.wrap (a0)) == (IntKind.u16.wrap (a1)))) = true
        · rw [if_pos c13] at H
          have c13b0 : ((t203.toList == t204.toList) == ((IntKind.u16.wrap (a0)) == (IntKind.u16.wrap (a1)))) = true := c13
          (try (have c13b1 : decide ((t203.toList == t204.toList) = ((IntKind.u16.wrap (a0)) == (IntKind.u16.wrap (a1)))) = true := by simpa using c13))
          (try (have c13b2 : ((t203.toList == t204.toList) == ((IntKind.u16.wrap (a0)) == (IntKind.u16.wrap (a1)))) = true := by simpa using c13))
          clear c13
          replace H := Option.bind_eq_some_iff.mp H
          obtain ⟨t205, A140, H⟩ := H
          have e_t205 : t199 = t205 := Option.some.inj (A5.out.symm.trans A140)
          subst e_t205
          replace H : (some ((t199.size : Int) == 8)) = some r := H
          have A14 := Aside0.mk A140
          clear A140
          obtain rfl := Option.some.inj H
          go_enter Try.func6, Try.ntmps6
          go_wp2_with (first | ((with_reducible refine gate_callee (f := 11) rfl ?_); refine goesL_ (some 8) rfl rfl Try.func11 (by kernel_rfl) rfl #[] rfl (by (try simp only [List.map_toArray, List.map_cons, List.map_nil]); first | done | rfl | (simp only [List.length_drop, List.length_take]; rfl)) ?_; (with_reducible refine (lockgatelaw01_awake.calls  true _ A3.out).mono ?_); rintro e w15 ⟨rfl, hb⟩; refine ⟨_, rfl, ?_⟩; have n0_ := Aside0.mk (below_step (by repeat (first | (with_reducible first | exact HB.out | apply below_alloc | apply pw_below_drewN | apply below_drew1) | exact HB.out)) hb); clear HB; have HB := n0_; clear n0_; (try clear hb); (try clear hb2); (try clear hk); (try clear hi)) | (go_at_call 22; (with_reducible refine (pack_Eight.calls a0 t199 _ A5.out).mono ?_); rintro e w16 ⟨rfl, hb⟩; have n0_ := Aside0.mk (below_step (by repeat (first | (with_reducible first | exact HB.out | apply below_alloc | apply pw_below_drewN | apply below_drew1) | exact HB.out)) hb); clear HB; have HB := n0_; clear n0_; (try clear hb); (try clear hb2); (try clear hk); (try clear hi)) | (go_at_call 22; (with_reducible refine (pack_Eight.calls a1 t200 _ A6.out).mono ?_); rintro e w17 ⟨rfl, hb⟩; have n0_ := Aside0.mk (below_step (by repeat (first | (with_reducible first | exact HB.out | apply below_alloc | apply pw_below_drewN | apply below_drew1) | exact HB.out)) hb); clear HB; have HB := n0_; clear n0_; (try clear hb); (try clear hb2); (try clear hk); (try clear hi)) | (go_at_call 21; (with_reducible refine (pack_Four.calls ((a0) % 4294967296) t201 _ A8.out).mono ?_); rintro e w18 ⟨rfl, hb⟩; have n0_ := Aside0.mk (below_step (by repeat (first | (with_reducible first | exact HB.out | apply below_alloc | apply pw_below_drewN | apply below_drew1) | exact HB.out)) hb); clear HB; have HB := n0_; clear n0_; (try clear hb); (try clear hb2); (try clear hk); (try clear hi)) | (go_at_call 21; (with_reducible refine (pack_Four.calls ((a1) % 4294967296) t202 _ A9.out).mono ?_); rintro e w19 ⟨rfl, hb⟩; have n0_ := Aside0.mk (below_step (by repeat (first | (with_reducible first | exact HB.out | apply below_alloc | apply pw_below_drewN | apply below_drew1) | exact HB.out)) hb); clear HB; have HB := n0_; clear n0_; (try clear hb); (try clear hb2); (try clear hk); (try clear hi)) | (go_at_call 19; (with_reducible refine (pack_Two.calls (IntKind.u16.wrap (a0)) t203 _ A11.out).mono ?_); rintro e w20 ⟨rfl, hb⟩; have n0_ := Aside0.mk (below_step (by repeat (first | (with_reducible first | exact HB.out | apply below_alloc | apply pw_below_drewN | apply below_drew1) | exact HB.out)) hb); clear HB; have HB := n0_; clear n0_; (try clear hb); (try clear hb2); (try clear hk); (try clear hi)) | (go_at_call 19; (have h_ := A11.out); (repeat (first | rw [IntWalk.u16_in _ ⟨by (try simp only [decide_eq_true_eq, decide_eq_false_iff_not] at *); omega, by (try simp only [decide_eq_true_eq, decide_eq_false_iff_not] at *); omega⟩] at h_)); (with_reducible refine (pack_Two.calls (a0) t203 _ h_).mono ?_); clear h_; rintro e w20 ⟨rfl, hb⟩; have n0_ := Aside0.mk (below_step (by repeat (first | (with_reducible first | exact HB.out | apply below_alloc | apply pw_below_drewN | apply below_drew1) | exact HB.out)) hb); clear HB; have HB := n0_; clear n0_; (try clear hb); (try clear hb2); (try clear hk); (try clear hi)) | (go_at_call 19; (with_reducible refine (pack_Two.calls (IntKind.u16.wrap (a1)) t204 _ A12.out).mono ?_); rintro e w21 ⟨rfl, hb⟩; have n0_ := Aside0.mk (below_step (by repeat (first | (with_reducible first | exact HB.out | apply below_alloc | apply pw_below_drewN | apply below_drew1) | exact HB.out)) hb); clear HB; have HB := n0_; clear n0_; (try clear hb); (try clear hb2); (try clear hk); (try clear hi)) | (go_at_call 19; (have h_ := A12.out); (repeat (first | rw [IntWalk.u16_in _ ⟨by (try simp only [decide_eq_true_eq, decide_eq_false_iff_not] at *); omega, by (try simp only [decide_eq_true_eq, decide_eq_false_iff_not] at *); omega⟩] at h_)); (with_reducible refine (pack_Two.calls (a1) t204 _ h_).mono ?_); clear h_; rintro e w21 ⟨rfl, hb⟩; have n0_ := Aside0.mk (below_step (by repeat (first | (with_reducible first | exact HB.out | apply below_alloc | apply pw_below_drewN | apply below_drew1) | exact HB.out)) hb); clear HB; have HB := n0_; clear n0_; (try clear hb); (try clear hb2); (try clear hk); (try clear hi)) | (go_at_call 22; (with_reducible refine (pack_Eight.calls a0 t199 _ A14.out).mono ?_); rintro e w22 ⟨rfl, hb⟩; have n0_ := Aside0.mk (below_step (by repeat (first | (with_reducible first | exact HB.out | apply below_alloc | apply pw_below_drewN | apply below_drew1) | exact HB.out)) hb); clear HB; have HB := n0_; clear n0_; (try clear hb); (try clear hb2); (try clear hk); (try clear hi)))
          go_ret
          exact ⟨by first | rfl | (simp [errW_none, errW_some] <;> rfl) | (simp [*, errW_none, errW_some] <;> rfl), by repeat (first | (with_reducible first | exact HB.out | apply below_alloc | apply pw_below_drewN | apply below_drew1) | exact HB.out)⟩
        · rw [if_neg c13] at H
          have c13b0 : ((t203.toList == t204.toList) == ((IntKind.u16.wrap (a0)) == (IntKind.u16.wrap (a1)))) = false := by simpa using c13
          (try (have c13b1 : decide ((t203.toList == t204.toList) = ((IntKind.u16.wrap (a0)) == (IntKind.u16.wrap (a1)))) = false := by simpa using c13))
          (try (have c13b2 : ((t203.toList == t204.toList) == ((IntKind.u16.wrap (a0)) == (IntKind.u16.wrap (a1)))) = false := by simpa using c13))
          (try (have c13b3 : ¬ ((t203.toList == t204.toList) = ((IntKind.u16.wrap (a0)) == (IntKind.u16.wrap (a1)))) := by simpa using c13))
          clear c13
          obtain rfl := Option.some.inj H
          go_enter Try.func6, Try.ntmps6
          go_wp2_with (first | ((with_reducible refine gate_callee (f := 11) rfl ?_); refine goesL_ (some 8) rfl rfl Try.func11 (by kernel_rfl) rfl #[] rfl (by (try simp only [List.map_toArray, List.map_cons, List.map_nil]); first | done | rfl | (simp only [List.length_drop, List.length_take]; rfl)) ?_; (with_reducible refine (lockgatelaw01_awake.calls  true _ A3.out).mono ?_); rintro e w23 ⟨rfl, hb⟩; refine ⟨_, rfl, ?_⟩; have n0_ := Aside0.mk (below_step (by repeat (first | (with_reducible first | exact HB.out | apply below_alloc | apply pw_below_drewN | apply below_drew1) | exact HB.out)) hb); clear HB; have HB := n0_; clear n0_; (try clear hb); (try clear hb2); (try clear hk); (try clear hi)) | (go_at_call 22; (with_reducible refine (pack_Eight.calls a0 t199 _ A5.out).mono ?_); rintro e w24 ⟨rfl, hb⟩; have n0_ := Aside0.mk (below_step (by repeat (first | (with_reducible first | exact HB.out | apply below_alloc | apply pw_below_drewN | apply below_drew1) | exact HB.out)) hb); clear HB; have HB := n0_; clear n0_; (try clear hb); (try clear hb2); (try clear hk); (try clear hi)) | (go_at_call 22; (with_reducible refine (pack_Eight.calls a1 t200 _ A6.out).mono ?_); rintro e w25 ⟨rfl, hb⟩; have n0_ := Aside0.mk (below_step (by repeat (first | (with_reducible first | exact HB.out | apply below_alloc | apply pw_below_drewN | apply below_drew1) | exact HB.out)) hb); clear HB; have HB := n0_; clear n0_; (try clear hb); (try clear hb2); (try clear hk); (try clear hi)) | (go_at_call 21; (with_reducible refine (pack_Four.calls ((a0) % 4294967296) t201 _ A8.out).mono ?_); rintro e w26 ⟨rfl, hb⟩; have n0_ := Aside0.mk (below_step (by repeat (first | (with_reducible first | exact HB.out | apply below_alloc | apply pw_below_drewN | apply below_drew1) | exact HB.out)) hb); clear HB; have HB := n0_; clear n0_; (try clear hb); (try clear hb2); (try clear hk); (try clear hi)) | (go_at_call 21; (with_reducible refine (pack_Four.calls ((a1) % 4294967296) t202 _ A9.out).mono ?_); rintro e w27 ⟨rfl, hb⟩; have n0_ := Aside0.mk (below_step (by repeat (first | (with_reducible first | exact HB.out | apply below_alloc | apply pw_below_drewN | apply below_drew1) | exact HB.out)) hb); clear HB; have HB := n0_; clear n0_; (try clear hb); (try clear hb2); (try clear hk); (try clear hi)) | (go_at_call 19; (with_reducible refine (pack_Two.calls (IntKind.u16.wrap (a0)) t203 _ A11.out).mono ?_); rintro e w28 ⟨rfl, hb⟩; have n0_ := Aside0.mk (below_step (by repeat (first | (with_reducible first | exact HB.out | apply below_alloc | apply pw_below_drewN | apply below_drew1) | exact HB.out)) hb); clear HB; have HB := n0_; clear n0_; (try clear hb); (try clear hb2); (try clear hk); (try clear hi)) | (go_at_call 19; (have h_ := A11.out); (repeat (first | rw [IntWalk.u16_in _ ⟨by (try simp only [decide_eq_true_eq, decide_eq_false_iff_not] at *); omega, by (try simp only [decide_eq_true_eq, decide_eq_false_iff_not] at *); omega⟩] at h_)); (with_reducible refine (pack_Two.calls (a0) t203 _ h_).mono ?_); clear h_; rintro e w28 ⟨rfl, hb⟩; have n0_ := Aside0.mk (below_step (by repeat (first | (with_reducible first | exact HB.out | apply below_alloc | apply pw_below_drewN | apply below_drew1) | exact HB.out)) hb); clear HB; have HB := n0_; clear n0_; (try clear hb); (try clear hb2); (try clear hk); (try clear hi)) | (go_at_call 19; (with_reducible refine (pack_Two.calls (IntKind.u16.wrap (a1)) t204 _ A12.out).mono ?_); rintro e w29 ⟨rfl, hb⟩; have n0_ := Aside0.mk (below_step (by repeat (first | (with_reducible first | exact HB.out | apply below_alloc | apply pw_below_drewN | apply below_drew1) | exact HB.out)) hb); clear HB; have HB := n0_; clear n0_; (try clear hb); (try clear hb2); (try clear hk); (try clear hi)) | (go_at_call 19; (have h_ := A12.out); (repeat (first | rw [IntWalk.u16_in _ ⟨by (try simp only [decide_eq_true_eq, decide_eq_false_iff_not] at *); omega, by (try simp only [decide_eq_true_eq, decide_eq_false_iff_not] at *); omega⟩] at h_)); (with_reducible refine (pack_Two.calls (a1) t204 _ h_).mono ?_); clear h_; rintro e w29 ⟨rfl, hb⟩; have n0_ := Aside0.mk (below_step (by repeat (first | (with_reducible first | exact HB.out | apply below_alloc | apply pw_below_drewN | apply below_drew1) | exact HB.out)) hb); clear HB; have HB := n0_; clear n0_; (try clear hb); (try clear hb2); (try clear hk); (try clear hi)))
          go_ret
          exact ⟨by first | rfl | (simp [errW_none, errW_some] <;> rfl) | (simp [*, errW_none, errW_some] <;> rfl), by repeat (first | (with_reducible first | exact HB.out | apply below_alloc | apply pw_below_drewN | apply below_drew1) | exact HB.out)⟩
      · rw [if_neg c10] at H
        have c10b0 : ((Op.bytesLess t201.toList t202.toList) == (decide (((a0) % 4294967296) < ((a1) % 4294967296)))) = false := by simpa using c10
        (try (have c10b1 : decide ((Op.bytesLess t201.toList t202.toList) = (decide (((a0) % 4294967296) < ((a1) % 4294967296)))) = false := by simpa using c10))
        (try (have c10b2 : ((Op.bytesLess t201.toList t202.toList) == (decide (((a0) % 4294967296) < ((a1) % 4294967296)))) = false := by simpa using c10))
        (try (have c10b3 : ¬ ((Op.bytesLess t201.toList t202.toList) = (decide (((a0) % 4294967296) < ((a1) % 4294967296)))) := by simpa using c10))
        clear c10
        obtain rfl := Option.some.inj H
        go_enter Try.func6, Try.ntmps6
        go_wp2_with (first | ((with_reducible refine gate_callee (f := 11) rfl ?_); refine goesL_ (some 8) rfl rfl Try.func11 (by kernel_rfl) rfl #[] rfl (by (try simp only [List.map_toArray, List.map_cons, List.map_nil]); first | done | rfl | (simp only [List.length_drop, List.length_take]; rfl)) ?_; (with_reducible refine (lockgatelaw01_awake.calls  true _ A3.out).mono ?_); rintro e w30 ⟨rfl, hb⟩; refine ⟨_, rfl, ?_⟩; have n0_ := Aside0.mk (below_step (by repeat (first | (with_reducible first | exact HB.out | apply below_alloc | apply pw_below_drewN | apply below_drew1) | exact HB.out)) hb); clear HB; have HB := n0_; clear n0_; (try clear hb); (try clear hb2); (try clear hk); (try clear hi)) | (go_at_call 22; (with_reducible refine (pack_Eight.calls a0 t199 _ A5.out).mono ?_); rintro e w31 ⟨rfl, hb⟩; have n0_ := Aside0.mk (below_step (by repeat (first | (with_reducible first | exact HB.out | apply below_alloc | apply pw_below_drewN | apply below_drew1) | exact HB.out)) hb); clear HB; have HB := n0_; clear n0_; (try clear hb); (try clear hb2); (try clear hk); (try clear hi)) | (go_at_call 22; (with_reducible refine (pack_Eight.calls a1 t200 _ A6.out).mono ?_); rintro e w32 ⟨rfl, hb⟩; have n0_ := Aside0.mk (below_step (by repeat (first | (with_reducible first | exact HB.out | apply below_alloc | apply pw_below_drewN | apply below_drew1) | exact HB.out)) hb); clear HB; have HB := n0_; clear n0_; (try clear hb); (try clear hb2); (try clear hk); (try clear hi)) | (go_at_call 21; (with_reducible refine (pack_Four.calls ((a0) % 4294967296) t201 _ A8.out).mono ?_); rintro e w33 ⟨rfl, hb⟩; have n0_ := Aside0.mk (below_step (by repeat (first | (with_reducible first | exact HB.out | apply below_alloc | apply pw_below_drewN | apply below_drew1) | exact HB.out)) hb); clear HB; have HB := n0_; clear n0_; (try clear hb); (try clear hb2); (try clear hk); (try clear hi)) | (go_at_call 21; (with_reducible refine (pack_Four.calls ((a1) % 4294967296) t202 _ A9.out).mono ?_); rintro e w34 ⟨rfl, hb⟩; have n0_ := Aside0.mk (below_step (by repeat (first | (with_reducible first | exact HB.out | apply below_alloc | apply pw_below_drewN | apply below_drew1) | exact HB.out)) hb); clear HB; have HB := n0_; clear n0_; (try clear hb); (try clear hb2); (try clear hk); (try clear hi)))
        go_ret
        exact ⟨by first | rfl | (simp [errW_none, errW_some] <;> rfl) | (simp [*, errW_none, errW_some] <;> rfl), by repeat (first | (with_reducible first | exact HB.out | apply below_alloc | apply pw_below_drewN | apply below_drew1) | exact HB.out)⟩
    · rw [if_neg c7] at H
      have c7b0 : ((Op.bytesLess t199.toList t200.toList) == (decide (a0 < a1))) = false := by simpa using c7
      (try (have c7b1 : decide ((Op.bytesLess t199.toList t200.toList) = (decide (a0 < a1))) = false := by simpa using c7))
      (try (have c7b2 : ((Op.bytesLess t199.toList t200.toList) == (decide (a0 < a1))) = false := by simpa using c7))
      (try (have c7b3 : ¬ ((Op.bytesLess t199.toList t200.toList) = (decide (a0 < a1))) := by simpa using c7))
      clear c7
      obtain rfl := Option.some.inj H
      go_enter Try.func6, Try.ntmps6
      go_wp2_with (first | ((with_reducible refine gate_callee (f := 11) rfl ?_); refine goesL_ (some 8) rfl rfl Try.func11 (by kernel_rfl) rfl #[] rfl (by (try simp only [List.map_toArray, List.map_cons, List.map_nil]); first | done | rfl | (simp only [List.length_drop, List.length_take]; rfl)) ?_; (with_reducible refine (lockgatelaw01_awake.calls  true _ A3.out).mono ?_); rintro e w35 ⟨rfl, hb⟩; refine ⟨_, rfl, ?_⟩; have n0_ := Aside0.mk (below_step (by repeat (first | (with_reducible first | exact HB.out | apply below_alloc | apply pw_below_drewN | apply below_drew1) | exact HB.out)) hb); clear HB; have HB := n0_; clear n0_; (try clear hb); (try clear hb2); (try clear hk); (try clear hi)) | (go_at_call 22; (with_reducible refine (pack_Eight.calls a0 t199 _ A5.out).mono ?_); rintro e w36 ⟨rfl, hb⟩; have n0_ := Aside0.mk (below_step (by repeat (first | (with_reducible first | exact HB.out | apply below_alloc | apply pw_below_drewN | apply below_drew1) | exact HB.out)) hb); clear HB; have HB := n0_; clear n0_; (try clear hb); (try clear hb2); (try clear hk); (try clear hi)) | (go_at_call 22; (with_reducible refine (pack_Eight.calls a1 t200 _ A6.out).mono ?_); rintro e w37 ⟨rfl, hb⟩; have n0_ := Aside0.mk (below_step (by repeat (first | (with_reducible first | exact HB.out | apply below_alloc | apply pw_below_drewN | apply below_drew1) | exact HB.out)) hb); clear HB; have HB := n0_; clear n0_; (try clear hb); (try clear hb2); (try clear hk); (try clear hi)))
      go_ret
      exact ⟨by first | rfl | (simp [errW_none, errW_some] <;> rfl) | (simp [*, errW_none, errW_some] <;> rfl), by repeat (first | (with_reducible first | exact HB.out | apply below_alloc | apply pw_below_drewN | apply below_drew1) | exact HB.out)⟩
  · replace c4 := Bool.eq_false_iff.mpr c4
    subst c4
    have H1 : (some false) = some r := by rw [if_neg (show ¬ (false = true) by decide)] at H; exact H
    clear H
    have H := H1
    clear H1
    obtain rfl := Option.some.inj H
    go_enter Try.func6, Try.ntmps6
    go_wp2_with (first | ((with_reducible refine gate_callee (f := 11) rfl ?_); refine goesL_ (some 8) rfl rfl Try.func11 (by kernel_rfl) rfl #[] rfl (by (try simp only [List.map_toArray, List.map_cons, List.map_nil]); first | done | rfl | (simp only [List.length_drop, List.length_take]; rfl)) ?_; (with_reducible refine (lockgatelaw01_awake.calls  false _ A3.out).mono ?_); rintro e w38 ⟨rfl, hb⟩; refine ⟨_, rfl, ?_⟩; have n0_ := Aside0.mk (below_step (by repeat (first | (with_reducible first | exact HB.out | apply below_alloc | apply pw_below_drewN | apply below_drew1) | exact HB.out)) hb); clear HB; have HB := n0_; clear n0_; (try clear hb); (try clear hb2); (try clear hk); (try clear hi)))
    go_ret
    exact ⟨by first | rfl | (simp [errW_none, errW_some] <;> rfl) | (simp [*, errW_none, errW_some] <;> rfl), by repeat (first | (with_reducible first | exact HB.out | apply below_alloc | apply pw_below_drewN | apply below_drew1) | exact HB.out)⟩

/-- THE ONE PURE STATEMENT of lockgatelaw01_PackOrder: yours. -/
def lockgatelaw01_PackOrder.Pure : Prop := ∀ (a0 : Int) (a1 : Int), (Lit.int .u64 a0).wf = true → (Lit.int .u64 a1).wf = true → lockgatelaw01_PackOrder.f a0 a1 = some true
theorem lockgatelaw01_PackOrder.walk (P : lockgatelaw01_PackOrder.Pure) (a0 : Int) (a1 : Int) (w : World) (w0 : (Lit.int .u64 a0).wf = true) (w1 : (Lit.int .u64 a1).wf = true) :
    Calls Try.prog 6 #[.int .u64 a0, .int .u64 a1] w fun e w' => e = .returned (.bool true) ∧ Below w.heap.size w w' := by
  have h := P a0 a1 w0 w1
  refine (lockgatelaw01_PackOrder.calls a0 a1 true w h).mono ?_
  rintro e w' ⟨rfl, hd⟩
  exact ⟨rfl, hd⟩

end Go.Proofs.Ytfphaiobbpjpkaa.Q
