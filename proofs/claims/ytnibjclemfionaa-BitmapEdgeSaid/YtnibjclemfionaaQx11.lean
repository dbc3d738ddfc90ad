-- Written by mp.py (a program of this repo, over the print) for this seat: functions, contracts, walks.
import Derived.Test.YtnibjclemfionaaQx0
import Derived.Test.YtnibjclemfionaaQx1
import Derived.Test.YtnibjclemfionaaQx9
namespace Go.Proofs.Ytnibjclemfionaa.Q
open Go.RowKit Go.Proofs.YtnibjclemfionaaW.PrintWords Go.Proofs.YtnibjclemfionaaW.PrintLast Go.Proofs.YtnibjclemfionaaW.PrintMore
attribute [local go_sem] max2_int min2_int max_two min_two max_three min_three max_four min_four   -- for this text's walks alone
set_option linter.unusedVariables false
set_option linter.unusedSimpArgs false

/-! ### lockgatelaw03_BitmapEdge: function 10 -/
def lockgatelaw03_BitmapEdge.j0 : Nat → Bool → Int → Option (Bool)
  | 0, _, _ => none
  | k + 1, x3, x4 => (bitmap_New.f x4).bind fun t204 => ((bitmap_Set.f t204 (wrap64 (x4 - 1)) true).bind fun t205 => ((bitmap_Set.f t204 x4 true).bind fun t206 => (if x3 = true then ((bitmap_Right.f k t204 x4).bind fun t207 => (if t207 = true then ((bitmap_Right.f k t205 x4).bind fun t208 => (if t208 = true then ((bitmap_Right.f k t206 x4).bind fun t209 => (if (t209 == ((Int.tmod x4 8) == 0)) = true then (if ((t206.toList == t204.toList) == ((Int.tmod x4 8) == 0)) = true then (if ((t205.toList == t204.toList) == (x4 == 0)) = true then (if t204.size + 1 ≤ 9223372036854775807 then ((bitmap_Right.f k (t204 ++ (⟨#[0]⟩ : ByteArray)) x4).bind fun t210 => (some (!t210))) else (none)) else (some false)) else (some false)) else (some false))) else (some false))) else (some false))) else (some false))))
def lockgatelaw03_BitmapEdge.f (k : Nat) (a0 : Int) : Option (Bool) := (lockgatelaw03_awake.f k).bind fun t203 => (if (Int.tmod a0 1001) < 0 then (lockgatelaw03_BitmapEdge.j0 k t203 (wrap64 (-(Int.tmod a0 1001)))) else (lockgatelaw03_BitmapEdge.j0 k t203 (Int.tmod a0 1001)))
theorem lockgatelaw03_BitmapEdge.mono_l : ∀ k, (∀ y0 y1, LeO (lockgatelaw03_BitmapEdge.j0 k y0 y1) (lockgatelaw03_BitmapEdge.j0 (k + 1) y0 y1))
  | 0 => fun _ _ r h => by simp [lockgatelaw03_BitmapEdge.j0] at h
  | k + 1 => by
    have ih0 := lockgatelaw03_BitmapEdge.mono_l k
    · intro y0 y1
      unfold lockgatelaw03_BitmapEdge.j0
      repeat' first
      | (with_reducible exact ih0 _ _)
      | (with_reducible exact bitmap_Right.mono _ _ _)
      | (with_reducible exact lockgatelaw03_awake.mono _)
      | (with_reducible exact LeO.refl _)
      | (with_reducible exact LeO.none _)
      | (with_reducible refine LeO.ite ?_ ?_)
      | (with_reducible refine LeO.bind ?_ (fun _ => ?_))
      | exact ih0 _ _
      | exact bitmap_Right.mono _ _ _
      | exact lockgatelaw03_awake.mono _
      | exact LeO.none _
      | refine LeO.ite ?_ ?_
      | refine LeO.bind ?_ (fun _ => ?_)
theorem lockgatelaw03_BitmapEdge.mono : ∀ a0 k, LeO (lockgatelaw03_BitmapEdge.f k a0) (lockgatelaw03_BitmapEdge.f (k + 1) a0) := by
  intro a0 k
  have ih0 := lockgatelaw03_BitmapEdge.mono_l k
  unfold lockgatelaw03_BitmapEdge.f
  repeat' first
      | (with_reducible exact ih0 _ _)
      | (with_reducible exact bitmap_Right.mono _ _ _)
      | (with_reducible exact lockgatelaw03_awake.mono _)
      | (with_reducible exact LeO.refl _)
      | (with_reducible exact LeO.none _)
      | (with_reducible refine LeO.ite ?_ ?_)
      | (with_reducible refine LeO.bind ?_ (fun _ => ?_))
      | exact ih0 _ _
      | exact bitmap_Right.mono _ _ _
      | exact lockgatelaw03_awake.mono _
      | exact LeO.none _
      | refine LeO.ite ?_ ?_
      | refine LeO.bind ?_ (fun _ => ?_)
set_option maxHeartbeats 8000000 in
set_option maxRecDepth 100000 in
theorem lockgatelaw03_BitmapEdge.calls (k : Nat) (a0 : Int) (r : Bool) (w : World) (h : lockgatelaw03_BitmapEdge.f k a0 = some r) :
    Calls Try.prog 10 #[.int .i64 a0] w fun e w' => e = .returned (.bool r) ∧ Below w.heap.size w w' := by
  have HB := Aside0.mk (Below.refl w.heap.size w)
  have H : ((lockgatelaw03_awake.f k).bind fun t203 => (if (Int.tmod a0 1001) < 0 then (lockgatelaw03_BitmapEdge.j0 k t203 (wrap64 (-(Int.tmod a0 1001)))) else (lockgatelaw03_BitmapEdge.j0 k t203 (Int.tmod a0 1001)))) = some r := h
  clear h
  replace H := Option.bind_eq_some_iff.mp H
  obtain ⟨t203, A20, H⟩ := H
  replace H : (if (Int.tmod a0 1001) < 0 then (lockgatelaw03_BitmapEdge.j0 k t203 (wrap64 (-(Int.tmod a0 1001)))) else (lockgatelaw03_BitmapEdge.j0 k t203 (Int.tmod a0 1001))) = some r := H
  have A2 := Aside0.mk A20
  clear A20
  have HC3 := Aside0.mk H
  clear H
  go_enter Try.func10, Try.ntmps10
  go_upto_if 13 with (first | ((with_reducible refine gate_callee (f := 11) rfl ?_); refine goesL_ (some 9) rfl rfl Try.func11 (by kernel_rfl) rfl #[] rfl (by (try simp only [List.map_toArray, List.map_cons, List.map_nil]); first | done | rfl | (simp only [List.length_drop, List.length_take]; rfl)) ?_; (with_reducible refine (lockgatelaw03_awake.calls k  t203 _ A2.out).mono ?_); rintro e w4 ⟨rfl, hb⟩; refine ⟨_, rfl, ?_⟩; have n0_ := Aside0.mk (below_step (by repeat (first | (with_reducible first | exact HB.out | apply below_alloc | apply pw_below_drewN | apply below_drew1) | exact HB.out)) hb); clear HB; have HB := n0_; clear n0_; (try clear hb); (try clear hb2); (try clear hk); (try clear hi)))
  (try simp only [Act.put, List.setIfInBounds_toArray, List.set_cons_zero, List.set_cons_succ])
  go_cut [4] (fun v4 wc => ∃ (kq : Nat) (x4_2 : Int), v4 = .int .i64 x4_2 ∧ Aside0 (lockgatelaw03_BitmapEdge.j0 kq t203 x4_2 = some r) ∧ Aside0 (kq ≤ k) ∧ Aside0 (Below w.heap.size w wc))
  case first =>
    have H := HC3.out
    clear HC3
    by_cases c5 : (Int.tmod a0 1001) < 0
    · rw [if_pos c5] at H
      have c5b0 : decide ((Int.tmod a0 1001) < 0) = true := decide_eq_true c5
      clear c5
      (first | rw [c5b0] | (simp only [i64_w, i32_w]; rw [c5b0]) | skip)
      have H' := Aside0.mk H
      clear H
      go_wp2
      go_meet
      case rel => exact ⟨_, (wrap64 (-(Int.tmod a0 1001))), (by first | rfl | (simp; done) | (simp [*]; done)), H', ⟨by first | omega | exact Nat.le_refl _⟩, ⟨by repeat (first | (with_reducible first | exact HB.out | apply below_alloc | apply pw_below_drewN | apply below_drew1) | exact HB.out)⟩⟩
    · rw [if_neg c5] at H
      have c5b0 : decide ((Int.tmod a0 1001) < 0) = false := decide_eq_false c5
      clear c5
      (first | rw [c5b0] | (simp only [i64_w, i32_w]; rw [c5b0]) | skip)
      have H' := Aside0.mk H
      clear H
      go_wp2
      go_meet
      case rel => exact ⟨_, (Int.tmod a0 1001), (by first | rfl | (simp; done) | (simp [*]; done)), H', ⟨by first | omega | exact Nat.le_refl _⟩, ⟨by repeat (first | (with_reducible first | exact HB.out | apply below_alloc | apply pw_below_drewN | apply below_drew1) | exact HB.out)⟩⟩
  case rest =>
    clear HC3
    try clear c1
    try clear p2
    try clear c5
    try clear c5b0
    obtain ⟨kq, x4_2, rfl, HA, HJ2, HB⟩ := hcut
    cases kq with
    | zero => exact absurd HA.out (by simp [lockgatelaw03_BitmapEdge.j0])
    | succ kj2 =>
      have H := HA.out
      clear HA
      simp only [lockgatelaw03_BitmapEdge.j0] at H
      replace H := Option.bind_eq_some_iff.mp H
      obtain ⟨t204, A60, H⟩ := H
      replace H : ((bitmap_Set.f t204 (wrap64 (x4_2 - 1)) true).bind fun t205 => ((bitmap_Set.f t204 x4_2 true).bind fun t206 => (if t203 = true then ((bitmap_Right.f kj2 t204 x4_2).bind fun t207 => (if t207 = true then ((bitmap_Right.f kj2 t205 x4_2).bind fun t208 => (if t208 = true then ((bitmap_Right.f kj2 t206 x4_2).bind fun t209 => (if (t209 == ((Int.tmod x4_2 8) == 0)) = true then (if ((t206.toList == t204.toList) == ((Int.tmod x4_2 8) == 0)) = true then (if ((t205.toList == t204.toList) == (x4_2 == 0)) = true then (if t204.size + 1 ≤ 9223372036854775807 then ((bitmap_Right.f kj2 (t204 ++ (⟨#[0]⟩ : ByteArray)) x4_2).bind fun t210 => (some (!t210))) else (none)) else (some false)) else (some false)) else (some false))) else (some false))) else (some false))) else (some false)))) = some r := H
      have A6 := Aside0.mk A60
      clear A60
      replace H := Option.bind_eq_some_iff.mp H
      obtain ⟨t205, A70, H⟩ := H
      replace H : ((bitmap_Set.f t204 x4_2 true).bind fun t206 => (if t203 = true then ((bitmap_Right.f kj2 t204 x4_2).bind fun t207 => (if t207 = true then ((bitmap_Right.f kj2 t205 x4_2).bind fun t208 => (if t208 = true then ((bitmap_Right.f kj2 t206 x4_2).bind fun t209 => (if (t209 == ((Int.tmod x4_2 8) == 0)) = true then (if ((t206.toList == t204.toList) == ((Int.tmod x4_2 8) == 0)) = true then (if ((t205.toList == t204.toList) == (x4_2 == 0)) = true then (if t204.size + 1 ≤ 9223372036854775807 then ((bitmap_Right.f kj2 (t204 ++ (⟨#[0]⟩ : ByteArray)) x4_2).bind fun t210 => (some (!t210))) else (none)) else (some false)) else (some false)) else (some false))) else (some false))) else (some false))) else (some false))) = some r := H
      have A7 := Aside0.mk A70
      clear A70
      replace H := Option.bind_eq_some_iff.mp H
      obtain ⟨t206, A80, H⟩ := H
      replace H : (if t203 = true then ((bitmap_Right.f kj2 t204 x4_2).bind fun t207 => (if t207 = true then ((bitmap_Right.f kj2 t205 x4_2).bind fun t208 => (if t208 = true then ((bitmap_Right.f kj2 t206 x4_2).bind fun t209 => (if (t209 == ((Int.tmod x4_2 8) == 0)) = true then (if ((t206.toList == t204.toList) == ((Int.tmod x4_2 8) == 0)) = true then (if ((t205.toList == t204.toList) == (x4_2 == 0)) = true then (if t204.size + 1 ≤ 9223372036854775807 then ((bitmap_Right.f kj2 (t204 ++ (⟨#[0]⟩ : ByteArray)) x4_2).bind fun t210 => (some (!t210))) else (none)) else (some false)) else (some false)) else (some false))) else (some false))) else (some false))) else (some false)) = some r := H
      have A8 := Aside0.mk A80
      clear A80
      by_cases c9 : t203 = true
      · subst c9
        have H1 : ((bitmap_Right.f kj2 t204 x4_2).bind fun t207 => (if t207 = true then ((bitmap_Right.f kj2 t205 x4_2).bind fun t208 => (if t208 = true then ((bitmap_Right.f kj2 t206 x4_2).bind fun t209 => (if (t209 == ((Int.tmod x4_2 8) == 0)) = true then (if ((t206.toList == t204.toList) == ((Int.tmod x4_2 8) == 0)) = true then (if ((t205.toList == t204.toList) == (x4_2 == 0)) = true then (if t204.size + 1 ≤ 9223372036854775807 then ((bitmap_Right.f kj2 (t204 ++ (⟨#[0]⟩ : ByteArray)) x4_2).bind fun t210 => (some (!t210))) else (none)) else (some false)) else (some false)) else (some false))) else (some false))) else (some false))) = some r := by rw [if_pos rfl] at H; exact H
        clear H
        have H := H1
        clear H1
        replace H := Option.bind_eq_some_iff.mp H
        obtain ⟨t207, A100, H⟩ := H
        replace H : (if t207 = true then ((bitmap_Right.f kj2 t205 x4_2).bind fun t208 => (if t208 = true then ((bitmap_Right.f kj2 t206 x4_2).bind fun t209 => (if (t209 == ((Int.tmod x4_2 8) == 0)) = true then (if ((t206.toList == t204.toList) == ((Int.tmod x4_2 8) == 0)) = true then (if ((t205.toList == t204.toList) == (x4_2 == 0)) = true then (if t204.size + 1 ≤ 9223372036854775807 then ((bitmap_Right.f kj2 (t204 ++ (⟨#[0]⟩ : ByteArray)) x4_2).bind fun t210 => (some (!t210))) else (none)) else (some false)) else (some false)) else (some false))) else (some false))) else (some false)) = some r := H
        have A10 := Aside0.mk A100
        clear A100
        by_cases c11 : t207 = true
        · subst c11
          have H1 : ((bitmap_Right.f kj2 t205 x4_2).bind fun t208 => (if t208 = true then ((bitmap_Right.f kj2 t206 x4_2).bind fun t209 => (if (t209 == ((Int.tmod x4_2 8) == 0)) = true then (if ((t206.toList == t204.toList) == ((Int.tmod x4_2 8) == 0)) = true then (if ((t205.toList == t204.toList) == (x4_2 == 0)) = true then (if t204.size + 1 ≤ 9223372036854775807 then ((bitmap_Right.f kj2 (t204 ++ (⟨#[0]⟩ : ByteArray)) x4_2).bind fun t210 => (some (!t210))) else (none)) else (some false)) else (some false)) else (some false))) else (some false))) = some r := by rw [if_pos rfl] at H; exact H
          clear H
          have H := H1
          clear H1
          replace H := Option.bind_eq_some_iff.mp H
          obtain ⟨t208, A120, H⟩ := H
          replace H : (if t208 = true then ((bitmap_Right.f kj2 t206 x4_2).bind fun t209 => (if (t209 == ((Int.tmod x4_2 8) == 0)) = true then (if ((t206.toList == t204.toList) == ((Int.tmod x4_2 8) == 0)) = true then (if ((t205.toList == t204.toList) == (x4_2 == 0)) = true then (if t204.size + 1 ≤ 9223372036854775807 then ((bitmap_Right.f kj2 (t204 ++ (⟨#[0]⟩ : ByteArray)) x4_2).bind fun t210 => (some (!t210))) else (none)) else (some false)) else (some false)) else (some false))) else (some false)) = some r := H
          have A12 := Aside0.mk A120
          clear A120
          by_cases c13 : t208 = true
          · subst c13
            have H1 : ((bitmap_Right.f kj2 t206 x4_2).bind fun t209 => (if (t209 == ((Int.tmod x4_2 8) == 0)) = true then (if ((t206.toList == t204.toList) == ((Int.tmod x4_2 8) == 0)) = true then (if ((t205.toList == t204.toList) == (x4_2 == 0)) = true then (if t204.size + 1 ≤ 9223372036854775807 then ((bitmap_Right.f kj2 (t204 ++ (⟨#[0]⟩ : ByteArray)) x4_2).bind fun t210 => (some (!t210))) else (none)) else (some false)) else (some false)) else (some false))) = some r := by rw [if_pos rfl] at H; exact H
            clear H
            have H := H1
            clear H1
            replace H := Option.bind_eq_some_iff.mp H
            obtain ⟨t209, A140, H⟩ := H
            replace H : (if (t209 == ((Int.tmod x4_2 8) == 0)) = true then (if ((t206.toList == t204.toList) == ((Int.tmod x4_2 8) == 0)) = true then (if ((t205.toList == t204.toList) == (x4_2 == 0)) = true then (if t204.size + 1 ≤ 9223372036854775807 then ((bitmap_Right.f kj2 (t204 ++ (⟨#[0]⟩ : ByteArray)) x4_2).bind fun t210 => (some (!t210))) else (none)) else (some false)) else (some false)) else (some false)) = some r := H
            have A14 := Aside0.mk A140
            clear A140
            by_cases c15 : (t209 == ((Int.tmod x4_2 8) == 0)) = true
            · rw [if_pos c15] at H
              have c15b0 : (t209 == ((Int.tmod x4_2 8) == 0)) = true := c15
              (try (have c15b1 : decide (t209 = ((Int.tmod x4_2 8) == 0)) = true := by simpa using c15))
              (try (have c15b2 : (t209 == ((Int.tmod x4_2 8) == 0)) = true := by simpa using c15))
              clear c15
              by_cases c16 : ((t206.toList == t204.toList) == ((Int.tmod x4_2 8) == 0)) = true
              · rw [if_pos c16] at H
                have c16b0 : ((t206.toList == t204.toList) == ((Int.tmod x4_2 8) == 0)) = true := c16
                (try (have c16b1 : decide ((t206.toList == t204.toList) = ((Int.tmod x4_2 8) == 0)) = true := by simpa using c16))
                (try (have c16b2 : ((t206.toList == t204.toList) == ((Int.tmod x4_2 8) == 0)) = true := by simpa using c16))
                clear c16
                by_cases c17 : ((t205.toList == t204.toList) == (x4_2 == 0)) = true
                · rw [if_pos c17] at H
                  have c17b0 : ((t205.toList == t204.toList) == (x4_2 == 0)) = true := c17
                  (try (have c17b1 : decide ((t205.toList == t204.toList) = (x4_2 == 0)) = true := by simpa using c17))
                  (try (have c17b2 : ((t205.toList == t204.toList) == (x4_2 == 0)) = true := by simpa using c17))
                  clear c17
                  by_cases c18 : t204.size + 1 ≤ 9223372036854775807
                  · rw [if_pos c18] at H
                    have c18b0 := eq_true c18
                    have c18b1 : decide (t204.size + 1 ≤ 9223372036854775807) = true := decide_eq_true c18
                    try have c18b2 : (9223372036854775807 < t204.size + 1) = False := eq_false (Nat.not_lt.2 c18)
                    replace H := Option.bind_eq_some_iff.mp H
                    obtain ⟨t210, A190, H⟩ := H
                    replace H : (some (!t210)) = some r := H
                    have A19 := Aside0.mk A190
                    clear A190
                    obtain rfl := Option.some.inj H
                    go_wp2_with (first | ((with_reducible refine gate_callee (f := 23) rfl ?_); refine goesL_ (some 17) rfl rfl Try.func23 (by kernel_rfl) rfl #[.int .i64 x4_2] rfl (by (try simp only [List.map_toArray, List.map_cons, List.map_nil]); first | done | rfl | (simp only [List.length_drop, List.length_take]; rfl)) ?_; (with_reducible refine (bitmap_New.calls x4_2 t204 _ A6.out).mono ?_); rintro e w20 ⟨rfl, hb⟩; refine ⟨_, rfl, ?_⟩; have n0_ := Aside0.mk (below_step (by repeat (first | (with_reducible first | exact HB.out | apply below_alloc | apply pw_below_drewN | apply below_drew1) | exact HB.out)) hb); clear HB; have HB := n0_; clear n0_; (try clear hb); (try clear hb2); (try clear hk); (try clear hi)) | ((with_reducible refine gate_callee (f := 13) rfl ?_); refine goesL_ (some 21) rfl rfl Try.func13 (by kernel_rfl) rfl #[.string t204, .int .i64 (wrap64 (x4_2 - 1)), .bool true] rfl (by (try simp only [List.map_toArray, List.map_cons, List.map_nil]); first | done | rfl | (simp only [List.length_drop, List.length_take]; rfl)) ?_; (with_reducible refine (bitmap_Set.calls t204 (wrap64 (x4_2 - 1)) true t205 _ A7.out).mono ?_); rintro e w21 ⟨rfl, hb⟩; refine ⟨_, rfl, ?_⟩; have n0_ := Aside0.mk (below_step (by repeat (first | (with_reducible first | exact HB.out | apply below_alloc | apply pw_below_drewN | apply below_drew1) | exact HB.out)) hb); clear HB; have HB := n0_; clear n0_; (try clear hb); (try clear hb2); (try clear hk); (try clear hi)) | ((with_reducible refine gate_callee (f := 13) rfl ?_); refine goesL_ (some 24) rfl rfl Try.func13 (by kernel_rfl) rfl #[.string t204, .int .i64 x4_2, .bool true] rfl (by (try simp only [List.map_toArray, List.map_cons, List.map_nil]); first | done | rfl | (simp only [List.length_drop, List.length_take]; rfl)) ?_; (with_reducible refine (bitmap_Set.calls t204 x4_2 true t206 _ A8.out).mono ?_); rintro e w22 ⟨rfl, hb⟩; refine ⟨_, rfl, ?_⟩; have n0_ := Aside0.mk (below_step (by repeat (first | (with_reducible first | exact HB.out | apply below_alloc | apply pw_below_drewN | apply below_drew1) | exact HB.out)) hb); clear HB; have HB := n0_; clear n0_; (try clear hb); (try clear hb2); (try clear hk); (try clear hi)) | (go_at_call 26; (with_reducible refine (bitmap_Right.calls kj2 t204 x4_2 true _ A10.out).mono ?_); rintro e w23 ⟨rfl, hb⟩; have n0_ := Aside0.mk (below_step (by repeat (first | (with_reducible first | exact HB.out | apply below_alloc | apply pw_below_drewN | apply below_drew1) | exact HB.out)) hb); clear HB; have HB := n0_; clear n0_; (try clear hb); (try clear hb2); (try clear hk); (try clear hi)) | (go_at_call 26; (with_reducible refine (bitmap_Right.calls kj2 t205 x4_2 true _ A12.out).mono ?_); rintro e w24 ⟨rfl, hb⟩; have n0_ := Aside0.mk (below_step (by repeat (first | (with_reducible first | exact HB.out | apply below_alloc | apply pw_below_drewN | apply below_drew1) | exact HB.out)) hb); clear HB; have HB := n0_; clear n0_; (try clear hb); (try clear hb2); (try clear hk); (try clear hi)) | (go_at_call 26; (with_reducible refine (bitmap_Right.calls kj2 t206 x4_2 t209 _ A14.out).mono ?_); rintro e w25 ⟨rfl, hb⟩; have n0_ := Aside0.mk (below_step (by repeat (first | (with_reducible first | exact HB.out | apply below_alloc | apply pw_below_drewN | apply below_drew1) | exact HB.out)) hb); clear HB; have HB := n0_; clear n0_; (try clear hb); (try clear hb2); (try clear hk); (try clear hi)) | (go_at_call 26; (with_reducible refine (bitmap_Right.calls kj2 (t204 ++ (⟨#[0]⟩ : ByteArray)) x4_2 t210 _ A19.out).mono ?_); rintro e w26 ⟨rfl, hb⟩; have n0_ := Aside0.mk (below_step (by repeat (first | (with_reducible first | exact HB.out | apply below_alloc | apply pw_below_drewN | apply below_drew1) | exact HB.out)) hb); clear HB; have HB := n0_; clear n0_; (try clear hb); (try clear hb2); (try clear hk); (try clear hi)))
                    go_ret
                    exact ⟨by first | rfl | (simp [errW_none, errW_some] <;> rfl) | (simp [*, errW_none, errW_some] <;> rfl), by repeat (first | (with_reducible first | exact HB.out | apply below_alloc | apply pw_below_drewN | apply below_drew1) | exact HB.out)⟩
                  · rw [if_neg c18] at H
                    exact absurd H (by simp)
                · rw [if_neg c17] at H
                  have c17b0 : ((t205.toList == t204.toList) == (x4_2 == 0)) = false := by simpa using c17
                  (try (have c17b1 : decide ((t205.toList == t204.toList) = (x4_2 == 0)) = false := by simpa using c17))
                  (try (have c17b2 : ((t205.toList == t204.toList) == (x4_2 == 0)) = false := by simpa using c17))
                  (try (have c17b3 : ¬ ((t205.toList == t204.toList) = (x4_2 == 0)) := by simpa using c17))
                  clear c17
                  obtain rfl := Option.some.inj H
                  go_wp2_with (first | ((with_reducible refine gate_callee (f := 23) rfl ?_); refine goesL_ (some 17) rfl rfl Try.func23 (by kernel_rfl) rfl #[.int .i64 x4_2] rfl (by (try simp only [List.map_toArray, List.map_cons, List.map_nil]); first | done | rfl | (simp only [List.length_drop, List.length_take]; rfl)) ?_; (with_reducible refine (bitmap_New.calls x4_2 t204 _ A6.out).mono ?_); rintro e w27 ⟨rfl, hb⟩; refine ⟨_, rfl, ?_⟩; have n0_ := Aside0.mk (below_step (by repeat (first | (with_reducible first | exact HB.out | apply below_alloc | apply pw_below_drewN | apply below_drew1) | exact HB.out)) hb); clear HB; have HB := n0_; clear n0_; (try clear hb); (try clear hb2); (try clear hk); (try clear hi)) | ((with_reducible refine gate_callee (f := 13) rfl ?_); refine goesL_ (some 21) rfl rfl Try.func13 (by kernel_rfl) rfl #[.string t204, .int .i64 (wrap64 (x4_2 - 1)), .bool true] rfl (by (try simp only [List.map_toArray, List.map_cons, List.map_nil]); first | done | rfl | (simp only [List.length_drop, List.length_take]; rfl)) ?_; (with_reducible refine (bitmap_Set.calls t204 (wrap64 (x4_2 - 1)) true t205 _ A7.out).mono ?_); rintro e w28 ⟨rfl, hb⟩; refine ⟨_, rfl, ?_⟩; have n0_ := Aside0.mk (below_step (by repeat (first | (with_reducible first | exact HB.out | apply below_alloc | apply pw_below_drewN | apply below_drew1) | exact HB.out)) hb); clear HB; have HB := n0_; clear n0_; (try clear hb); (try clear hb2); (try clear hk); (try clear hi)) | ((with_reducible refine gate_callee (f := 13) rfl ?_); refine goesL_ (some 24) rfl rfl Try.func13 (by kernel_rfl) rfl #[.string t204, .int .i64 x4_2, .bool true] rfl (by (try simp only [List.map_toArray, List.map_cons, List.map_nil]); first | done | rfl | (simp only [List.length_drop, List.length_take]; rfl)) ?_; (with_reducible refine (bitmap_Set.calls t204 x4_2 true t206 _ A8.out).mono ?_); rintro e w29 ⟨rfl, hb⟩; refine ⟨_, rfl, ?_⟩; have n0_ := Aside0.mk (below_step (by repeat (first | (with_reducible first | exact HB.out | apply below_alloc | apply pw_below_drewN | apply below_drew1) | exact HB.out)) hb); clear HB; have HB := n0_; clear n0_; (try clear hb); (try clear hb2); (try clear hk); (try clear hi)) | (go_at_call 26; (with_reducible refine (bitmap_Right.calls kj2 t204 x4_2 true _ A10.out).mono ?_); rintro e w30 ⟨rfl, hb⟩; have n0_ := Aside0.mk (below_step (by repeat (first | (with_reducible first | exact HB.out | apply below_alloc | apply pw_below_drewN | apply below_drew1) | exact HB.out)) hb); clear HB; have HB := n0_; clear n0_; (try clear hb); (try clear hb2); (try clear hk); (try clear hi)) | (go_at_call 26; (with_reducible refine (bitmap_Right.calls kj2 t205 x4_2 true _ A12.out).mono ?_); rintro e w31 ⟨rfl, hb⟩; have n0_ := Aside0.mk (below_step (by repeat (first | (with_reducible first | exact HB.out | apply below_alloc | apply pw_below_drewN | apply below_drew1) | exact HB.out)) hb); clear HB; have HB := n0_; clear n0_; (try clear hb); (try clear hb2); (try clear hk); (try clear hi)) | (go_at_call 26; (with_reducible refine (bitmap_Right.calls kj2 t206 x4_2 t209 _ A14.out).mono ?_); rintro e w32 ⟨rfl, hb⟩; have n0_ := Aside0.mk (below_step (by repeat (first | (with_reducible first | exact HB.out | apply below_alloc | apply pw_below_drewN | apply below_drew1) | exact HB.out)) hb); clear HB; have HB := n0_; clear n0_; (try clear hb); (try clear hb2); (try clear hk); (try clear hi)))
                  go_ret
                  exact ⟨by first | rfl | (simp [errW_none, errW_some] <;> rfl) | (simp [*, errW_none, errW_some] <;> rfl), by repeat (first | (with_reducible first | exact HB.out | apply below_alloc | apply pw_below_drewN | apply below_drew1) | exact HB.out)⟩
              · rw [if_neg c16] at H
                have c16b0 : ((t206.toList == t204.toList) == ((Int.tmod x4_2 8) == 0)) = false := by simpa using c16
                (try (have c16b1 : decide ((t206.toList == t204.toList) = ((Int.tmod x4_2 8) == 0)) = false := by simpa using c16))
                (try (have c16b2 : ((t206.toList == t204.toList) == ((Int.tmod x4_2 8) == 0)) = false := by simpa using c16))
                (try (have c16b3 : ¬ ((t206.toList == t204.toList) = ((Int.tmod x4_2 8) == 0)) := by simpa using c16))
                clear c16
                obtain rfl := Option.some.inj H
                go_wp2_with (first | ((with_reducible refine gate_callee (f := 23) rfl ?_); refine goesL_ (some 17) rfl rfl Try.func23 (by kernel_rfl) rfl #[.int .i64 x4_2] rfl (by (try simp only [List.map_toArray, List.map_cons, List.map_nil]); first | done | rfl | (simp only [List.length_drop, List.length_take]; rfl)) ?_; (with_reducible refine (bitmap_New.calls x4_2 t204 _ A6.out).mono ?_); rintro e w33 ⟨rfl, hb⟩; refine ⟨_, rfl, ?_⟩; have n0_ := Aside0.mk (below_step (by repeat (first | (with_reducible first | exact HB.out | apply below_alloc | apply pw_below_drewN | apply below_drew1) | exact HB.out)) hb); clear HB; have HB := n0_; clear n0_; (try clear hb); (try clear hb2); (try clear hk); (try clear hi)) | ((with_reducible refine gate_callee (f := 13) rfl ?_); refine goesL_ (some 21) rfl rfl Try.func13 (by kernel_rfl) rfl #[.string t204, .int .i64 (wrap64 (x4_2 - 1)), .bool true] rfl (by (try simp only [List.map_toArray, List.map_cons, List.map_nil]); first | done | rfl | (simp only [List.length_drop, List.length_take]; rfl)) ?_; (with_reducible refine (bitmap_Set.calls t204 (wrap64 (x4_2 - 1)) true t205 _ A7.out).mono ?_); rintro e w34 ⟨rfl, hb⟩; refine ⟨_, rfl, ?_⟩; have n0_ := Aside0.mk (below_step (by repeat (first | (with_reducible first | exact HB.out | apply below_alloc | apply pw_below_drewN | apply below_drew1) | exact HB.out)) hb); clear HB; have HB := n0_; clear n0_; (try clear hb); (try clear hb2); (try clear hk); (try clear hi)) | ((with_reducible refine gate_callee (f := 13) rfl ?_); refine goesL_ (some 24) rfl rfl Try.func13 (by kernel_rfl) rfl #[.string t204, .int .i64 x4_2, .bool true] rfl (by (try simp only [List.map_toArray, List.map_cons, List.map_nil]); first | done | rfl | (simp only [List.length_drop, List.length_take]; rfl)) ?_; (with_reducible refine (bitmap_Set.calls t204 x4_2 true t206 _ A8.out).mono ?_); rintro e w35 ⟨rfl, hb⟩; refine ⟨_, rfl, ?_⟩; have n0_ := Aside0.mk (below_step (by repeat (first | (with_reducible first | exact HB.out | apply below_alloc | apply pw_below_drewN | apply below_drew1) | exact HB.out)) hb); clear HB; have HB := n0_; clear n0_; (try clear hb); (try clear hb2); (try clear hk); (try clear hi)) | (go_at_call 26; (with_reducible refine (bitmap_Right.calls kj2 t204 x4_2 true _ A10.out).mono ?_); rintro e w36 ⟨rfl, hb⟩; have n0_ := Aside0.mk (below_step (by repeat (first | (with_reducible first | exact HB.out | apply below_alloc | apply pw_below_drewN | apply below_drew1) | exact HB.out)) hb); clear HB; have HB := n0_; clear n0_; (try clear hb); (try clear hb2); (try clear hk); (try clear hi)) | (go_at_call 26; (with_reducible refine (bitmap_Right.calls kj2 t205 x4_2 true _ A12.out).mono ?_); rintro e w37 ⟨rfl, hb⟩; have n0_ := Aside0.mk (below_step (by repeat (first | (with_reducible first | exact HB.out | apply below_alloc | apply pw_below_drewN | apply below_drew1) | exact HB.out)) hb); clear HB; have HB := n0_; clear n0_; (try clear hb); (try clear hb2); (try clear hk); (try clear hi)) | (go_at_call 26; (with_reducible refine (bitmap_Right.calls kj2 t206 x4_2 t209 _ A14.out).mono ?_); rintro e w38 ⟨rfl, hb⟩; have n0_ := Aside0.mk (below_step (by repeat (first | (with_reducible first | exact HB.out | apply below_alloc | apply pw_below_drewN | apply below_drew1) | exact HB.out)) hb); clear HB; have HB := n0_; clear n0_; (try clear hb); (try clear hb2); (try clear hk); (try clear hi)))
                go_ret
                exact ⟨by first | rfl | (simp [errW_none, errW_some] <;> rfl) | (simp [*, errW_none, errW_some] <;> rfl), by repeat (first | (with_reducible first | exact HB.out | apply below_alloc | apply pw_below_drewN | apply below_drew1) | exact HB.out)⟩
            · rw [if_neg c15] at H
              have c15b0 : (t209 == ((Int.tmod x4_2 8) == 0)) = false := by simpa using c15
              (try (have c15b1 : decide (t209 = ((Int.tmod x4_2 8) == 0)) = false := by simpa using c15))
              (try (have c15b2 : (t209 == ((Int.tmod x4_2 8) == 0)) = false := by simpa using c15))
              (try (have c15b3 : ¬ (t209 = ((Int.tmod x4_2 8) == 0)) := by simpa using c15))
              clear c15
              obtain rfl := Option.some.inj H
              go_wp2_with (first | ((with_reducible refine gate_callee (f := 23) rfl ?_); refine goesL_ (some 17) rfl rfl Try.func23 (by kernel_rfl) rfl #[.int .i64 x4_2] rfl (by (try simp only [List.map_toArray, List.map_cons, List.map_nil]); first | done | rfl | (simp only [List.length_drop, List.length_take]; rfl)) ?_; (with_reducible refine (bitmap_New.calls x4_2 t204 _ A6.out).mono ?_); rintro e w39 ⟨rfl, hb⟩; refine ⟨_, rfl, ?_⟩; have n0_ := Aside0.mk (below_step (by repeat (first | (with_reducible first | exact HB.out | apply below_alloc | apply pw_below_drewN | apply below_drew1) | exact HB.out)) hb); clear HB; have HB := n0_; clear n0_; (try clear hb); (try clear hb2); (try clear hk); (try clear hi)) | ((with_reducible refine gate_callee (f := 13) rfl ?_); refine goesL_ (some 21) rfl rfl Try.func13 (by kernel_rfl) rfl #[.string t204, .int .i64 (wrap64 (x4_2 - 1)), .bool true] rfl (by (try simp only [List.map_toArray, List.map_cons, List.map_nil]); first | done | rfl | (simp only [List.length_drop, List.length_take]; rfl)) ?_; (with_reducible refine (bitmap_Set.calls t204 (wrap64 (x4_2 - 1)) true t205 _ A7.out).mono ?_); rintro e w40 ⟨rfl, hb⟩; refine ⟨_, rfl, ?_⟩; have n0_ := Aside0.mk (below_step (by repeat (first | (with_reducible first | exact HB.out | apply below_alloc | apply pw_below_drewN | apply below_drew1) | exact HB.out)) hb); clear HB; have HB := n0_; clear n0_; (try clear hb); (try clear hb2); (try clear hk); (try clear hi)) | ((with_reducible refine gate_callee (f := 13) rfl ?_); refine goesL_ (some 24) rfl rfl Try.func13 (by kernel_rfl) rfl #[.string t204, .int .i64 x4_2, .bool true] rfl (by (try simp only [List.map_toArray, List.map_cons, List.map_nil]); first | done | rfl | (simp only [List.length_drop, List.length_take]; rfl)) ?_; (with_reducible refine (bitmap_Set.calls t204 x4_2 true t206 _ A8.out).mono ?_); rintro e w41 ⟨rfl, hb⟩; refine ⟨_, rfl, ?_⟩; have n0_ := Aside0.mk (below_step (by repeat (first | (with_reducible first | exact HB.out | apply below_alloc | apply pw_below_drewN | apply below_drew1) | exact HB.out)) hb); clear HB; have HB := n0_; clear n0_; (try clear hb); (try clear hb2); (try clear hk); (try clear hi)) | (go_at_call 26; (with_reducible refine (bitmap_Right.calls kj2 t204 x4_2 true _ A10.out).mono ?_); rintro e w42 ⟨rfl, hb⟩; have n0_ := Aside0.mk (below_step (by repeat (first | (with_reducible first | exact HB.out | apply below_alloc | apply pw_below_drewN | apply below_drew1) | exact HB.out)) hb); clear HB; have HB := n0_; clear n0_; (try clear hb); (try clear hb2); (try clear hk); (try clear hi)) | (go_at_call 26; (with_reducible refine (bitmap_Right.calls kj2 t205 x4_2 true _ A12.out).mono ?_); rintro e w43 ⟨rfl, hb⟩; have n0_ := Aside0.mk (below_step (by repeat (first | (with_reducible first | exact HB.out | apply below_alloc | apply pw_below_drewN | apply below_drew1) | exact HB.out)) hb); clear HB; have HB := n0_; clear n0_; (try clear hb); (try clear hb2); (try clear hk); (try clear hi)) | (go_at_call 26; (with_reducible refine (bitmap_Right.calls kj2 t206 x4_2 t209 _ A14.out).mono ?_); rintro e w44 ⟨rfl, hb⟩; have n0_ := Aside0.mk (below_step (by repeat (first | (with_reducible first | exact HB.out | apply below_alloc | apply pw_below_drewN | apply below_drew1) | exact HB.out)) hb); clear HB; have HB := n0_; clear n0_; (try clear hb); (try clear hb2); (try clear hk); (try clear hi)))
              go_ret
              exact ⟨by first | rfl | (simp [errW_none, errW_some] <;> rfl) | (simp [*, errW_none, errW_some] <;> rfl), by repeat (first | (with_reducible first | exact HB.out | apply below_alloc | apply pw_below_drewN | apply below_drew1) | exact HB.out)⟩
          · replace c13 := Bool.eq_false_iff.mpr c13
            subst c13
            have H1 : (some false) = some r := by rw [if_neg (show ¬ (false = true) by decide)] at H; exact H
            clear H
            have H := H1
            clear H1
            obtain rfl := Option.some.inj H
            go_wp2_with (first | ((with_reducible refine gate_callee (f := 23) rfl ?_); refine goesL_ (some 17) rfl rfl Try.func23 (by kernel_rfl) rfl #[.int .i64 x4_2] rfl (by (try simp only [List.map_toArray, List.map_cons, List.map_nil]); first | done | rfl | (simp only [List.length_drop, List.length_take]; rfl)) ?_; (with_reducible refine (bitmap_New.calls x4_2 t204 _ A6.out).mono ?_); rintro e w45 ⟨rfl, hb⟩; refine ⟨_, rfl, ?_⟩; have n0_ := Aside0.mk (below_step (by repeat (first | (with_reducible first | exact HB.out | apply below_alloc | apply pw_below_drewN | apply below_drew1) | exact HB.out)) hb); clear HB; have HB := n0_; clear n0_; (try clear hb); (try clear hb2); (try clear hk); (try clear hi)) | ((with_reducible refine gate_callee (f := 13) rfl ?_); refine goesL_ (some 21) rfl rfl Try.func13 (by kernel_rfl) rfl #[.string t204, .int .i64 (wrap64 (x4_2 - 1)), .bool true] rfl (by (try simp only [List.map_toArray, List.map_cons, List.map_nil]); first | done | rfl | (simp only [List.length_drop, List.length_take]; rfl)) ?_; (with_reducible refine (bitmap_Set.calls t204 (wrap64 (x4_2 - 1)) true t205 _ A7.out).mono ?_); rintro e w46 ⟨rfl, hb⟩; refine ⟨_, rfl, ?_⟩; have n0_ := Aside0.mk (below_step (by repeat (first | (with_reducible first | exact HB.out | apply below_alloc | apply pw_below_drewN | apply below_drew1) | exact HB.out)) hb); clear HB; have HB := n0_; clear n0_; (try clear hb); (try clear hb2); (try clear hk); (try clear hi)) | ((with_reducible refine gate_callee (f := 13) rfl ?_); refine goesL_ (some 24) rfl rfl Try.func13 (by kernel_rfl) rfl #[.string t204, .int .i64 x4_2, .bool true] rfl (by (try simp only [List.map_toArray, List.map_cons, List.map_nil]); first | done | rfl | (simp only [List.length_drop, List.length_take]; rfl)) ?_; (with_reducible refine (bitmap_Set.calls t204 x4_2 true t206 _ A8.out).mono ?_); rintro e w47 ⟨rfl, hb⟩; refine ⟨_, rfl, ?_⟩; have n0_ := Aside0.mk (below_step (by repeat (first | (with_reducible first | exact HB.out | apply below_alloc | apply pw_below_drewN | apply below_drew1) | exact HB.out)) hb); clear HB; have HB := n0_; clear n0_; (try clear hb); (try clear hb2); (try clear hk); (try clear hi)) | (go_at_call 26; (with_reducible refine (bitmap_Right.calls kj2 t204 x4_2 true _ A10.out).mono ?_); rintro e w48 ⟨rfl, hb⟩; have n0_ := Aside0.mk (below_step (by repeat (first | (with_reducible first | exact HB.out | apply below_alloc | apply pw_below_drewN | apply below_drew1) | exact HB.out)) hb); clear HB; have HB := n0_; clear n0_; (try clear hb); (try clear hb2); (try clear hk); (try clear hi)) | (go_at_call 26; (with_reducible refine (bitmap_Right.calls kj2 t205 x4_2 false _ A12.out).mono ?_); rintro e w49 ⟨rfl, hb⟩; have n0_ := Aside0.mk (below_step (by repeat (first | (with_reducible first | exact HB.out | apply below_alloc | apply pw_below_drewN | apply below_drew1) | exact HB.out)) hb); clear HB; have HB := n0_; clear n0_; (try clear hb); (try clear hb2); (try clear hk); (try clear hi)))
            go_ret
            exact ⟨by first | rfl | (simp [errW_none, errW_some] <;> rfl) | (simp [*, errW_none, errW_some] <;> rfl), by repeat (first | (with_reducible first | exact HB.out | apply below_alloc | apply pw_below_drewN | apply below_drew1) | exact HB.out)⟩
        · replace c11 := Bool.eq_false_iff.mpr c11
          subst c11
          have H1 : (some false) = some r := by rw [if_neg (show ¬ (false = true) by decide)] at H; exact H
          clear H
          have H := H1
          clear H1
          obtain rfl := Option.some.inj H
          go_wp2_with (first | ((with_reducible refine gate_callee (f := 23) rfl ?_); refine goesL_ (some 17) rfl rfl Try.func23 (by kernel_rfl) rfl #[.int .i64 x4_2] rfl (by (try simp only [List.map_toArray, List.map_cons, List.map_nil]); first | done | rfl | (simp only [List.length_drop, List.length_take]; rfl)) ?_; (with_reducible refine (bitmap_New.calls x4_2 t204 _ A6.out).mono ?_); rintro e w50 ⟨rfl, hb⟩; refine ⟨_, rfl, ?_⟩; have n0_ := Aside0.mk (below_step (by repeat (first | (with_reducible first | exact HB.out | apply below_alloc | apply pw_below_drewN | apply below_drew1) | exact HB.out)) hb); clear HB; have HB := n0_; clear n0_; (try clear hb); (try clear hb2); (try clear hk); (try clear hi)) | ((with_reducible refine gate_callee (f := 13) rfl ?_); refine goesL_ (some 21) rfl rfl Try.func13 (by kernel_rfl) rfl #[.string t204, .int .i64 (wrap64 (x4_2 - 1)), .bool true] rfl (by (try simp only [List.map_toArray, List.map_cons, List.map_nil]); first | done | rfl | (simp only [List.length_drop, List.length_take]; rfl)) ?_; (with_reducible refine (bitmap_Set.calls t204 (wrap64 (x4_2 - 1)) true t205 _ A7.out).mono ?_); rintro e w51 ⟨rfl, hb⟩; refine ⟨_, rfl, ?_⟩; have n0_ := Aside0.mk (below_step (by repeat (first | (with_reducible first | exact HB.out | apply below_alloc | apply pw_below_drewN | apply below_drew1) | exact HB.out)) hb); clear HB; have HB := n0_; clear n0_; (try clear hb); (try clear hb2); (try clear hk); (try clear hi)) | ((with_reducible refine gate_callee (f := 13) rfl ?_); refine goesL_ (some 24) rfl rfl Try.func13 (by kernel_rfl) rfl #[.string t204, .int .i64 x4_2, .bool true] rfl (by (try simp only [List.map_toArray, List.map_cons, List.map_nil]); first | done | rfl | (simp only [List.length_drop, List.length_take]; rfl)) ?_; (with_reducible refine (bitmap_Set.calls t204 x4_2 true t206 _ A8.out).mono ?_); rintro e w52 ⟨rfl, hb⟩; refine ⟨_, rfl, ?_⟩; have n0_ := Aside0.mk (below_step (by repeat (first | (with_reducible first | exact HB.out | apply below_alloc | apply pw_below_drewN | apply below_drew1) | exact HB.out)) hb); clear HB; have HB := n0_; clear n0_; (try clear hb); (try clear hb2); (try clear hk); (try clear hi)) | (go_at_call 26; (with_reducible refine (bitmap_Right.calls kj2 t204 x4_2 false _ A10.out).mono ?_); rintro e w53 ⟨rfl, hb⟩; have n0_ := Aside0.mk (below_step (by repeat (first | (with_reducible first | exact HB.out | apply below_alloc | apply pw_below_drewN | apply below_drew1) | exact HB.out)) hb); clear HB; have HB := n0_; clear n0_; (try clear hb); (try clear hb2); (try clear hk); (try clear hi)))
          go_ret
          exact ⟨by first | rfl | (simp [errW_none, errW_some] <;> rfl) | (simp [*, errW_none, errW_some] <;> rfl), by repeat (first | (with_reducible first | exact HB.out | apply below_alloc | apply pw_below_drewN | apply below_drew1) | exact HB.out)⟩
      · replace c9 := Bool.eq_false_iff.mpr c9
        subst c9
        have H1 : (some false) = some r := by rw [if_neg (show ¬ (false = true) by decide)] at H; exact H
        clear H
        have H := H1
        clear H1
        obtain rfl := Option.some.inj H
        go_wp2_with (first | ((with_reducible refine gate_callee (f := 23) rfl ?_); refine goesL_ (some 17) rfl rfl Try.func23 (by kernel_rfl) rfl #[.int .i64 x4_2] rfl (by (try simp only [List.map_toArray, List.map_cons, List.map_nil]); first | done | rfl | (simp only [List.length_drop, List.length_take]; rfl)) ?_; (with_reducible refine (bitmap_New.calls x4_2 t204 _ A6.out).mono ?_); rintro e w54 ⟨rfl, hb⟩; refine ⟨_, rfl, ?_⟩; have n0_ := Aside0.mk (below_step (by repeat (first | (with_reducible first | exact HB.out | apply below_alloc | apply pw_below_drewN | apply below_drew1) | exact HB.out)) hb); clear HB; have HB := n0_; clear n0_; (try clear hb); (try clear hb2); (try clear hk); (try clear hi)) | ((with_reducible refine gate_callee (f := 13) rfl ?_); refine goesL_ (some 21) rfl rfl Try.func13 (by kernel_rfl) rfl #[.string t204, .int .i64 (wrap64 (x4_2 - 1)), .bool true] rfl (by (try simp only [List.map_toArray, List.map_cons, List.map_nil]); first | done | rfl | (simp only [List.length_drop, List.length_take]; rfl)) ?_; (with_reducible refine (bitmap_Set.calls t204 (wrap64 (x4_2 - 1)) true t205 _ A7.out).mono ?_); rintro e w55 ⟨rfl, hb⟩; refine ⟨_, rfl, ?_⟩; have n0_ := Aside0.mk (below_step (by repeat (first | (with_reducible first | exact HB.out | apply below_alloc | apply pw_below_drewN | apply below_drew1) | exact HB.out)) hb); clear HB; have HB := n0_; clear n0_; (try clear hb); (try clear hb2); (try clear hk); (try clear hi)) | ((with_reducible refine gate_callee (f := 13) rfl ?_); refine goesL_ (some 24) rfl rfl Try.func13 (by kernel_rfl) rfl #[.string t204, .int .i64 x4_2, .bool true] rfl (by (try simp only [List.map_toArray, List.map_cons, List.map_nil]); first | done | rfl | (simp only [List.length_drop, List.length_take]; rfl)) ?_; (with_reducible refine (bitmap_Set.calls t204 x4_2 true t206 _ A8.out).mono ?_); rintro e w56 ⟨rfl, hb⟩; refine ⟨_, rfl, ?_⟩; have n0_ := Aside0.mk (below_step (by repeat (first | (with_reducible first | exact HB.out | apply below_alloc | apply pw_below_drewN | apply below_drew1) | exact HB.out)) hb); clear HB; have HB := n0_; clear n0_; (try clear hb); (try clear hb2); (try clear hk); (try clear hi)))
        go_ret
        exact ⟨by first | rfl | (simp [errW_none, errW_some] <;> rfl) | (simp [*, errW_none, errW_some] <;> rfl), by repeat (first | (with_reducible first | exact HB.out | apply below_alloc | apply pw_below_drewN | apply below_drew1) | exact HB.out)⟩

/-- THE ONE PURE STATEMENT of lockgatelaw03_BitmapEdge: yours. -/
def lockgatelaw03_BitmapEdge.Pure : Prop := ∀ (a0 : Int), (Lit.int .i64 a0).wf = true → ∃ k, lockgatelaw03_BitmapEdge.f k a0 = some true
theorem lockgatelaw03_BitmapEdge.walk (P : lockgatelaw03_BitmapEdge.Pure) (a0 : Int) (w : World) (w0 : (Lit.int .i64 a0).wf = true) :
    Calls Try.prog 10 #[.int .i64 a0] w fun e w' => e = .returned (.bool true) ∧ Below w.heap.size w w' := by
  obtain ⟨k, h⟩ := P a0 w0
  refine (lockgatelaw03_BitmapEdge.calls k a0 true w h).mono ?_
  rintro e w' ⟨rfl, hd⟩
  exact ⟨rfl, hd⟩

end Go.Proofs.Ytnibjclemfionaa.Q
