-- Written by mp.py (a program of this repo, over the print) for this seat: functions, contracts, walks.
import Derived.Test.YtnibjclemfionaaQx0
import Derived.Test.YtnibjclemfionaaQx1
import Derived.Test.YtnibjclemfionaaQx4
namespace Go.Proofs.Ytnibjclemfionaa.Q
open Go.RowKit Go.Proofs.YtnibjclemfionaaW.PrintWords Go.Proofs.YtnibjclemfionaaW.PrintLast Go.Proofs.YtnibjclemfionaaW.PrintMore
attribute [local go_sem] max2_int min2_int max_two min_two max_three min_three max_four min_four   -- for this text's walks alone
set_option linter.unusedVariables false
set_option linter.unusedSimpArgs false

/-! ### lockgatelaw03_BitmapFills: function 7 -/
mutual
def lockgatelaw03_BitmapFills.j0 : Nat → Bool → Int → Option (Bool)
  | 0, _, _ => none
  | k + 1, x3, x4 => (bitmap_New.f x4).bind fun t164 => (lockgatelaw03_BitmapFills.l0 k x3 x4 t164 (wrap64 (8 * (t164.size : Int))) 0)
def lockgatelaw03_BitmapFills.l0 : Nat → Bool → Int → ByteArray → Int → Int → Option (Bool)
  | 0, _, _, _, _, _ => none
  | k + 1, x3, x4, x5, x6, x7 => if x7 < x6 then ((bitmap_First.f k x5 0).bind fun t169 => (if t169 = x7 then ((bitmap_Count.f k x5).bind fun t170 => (if t170 = x7 then ((bitmap_Set.f x5 x7 true).bind fun t171 => (lockgatelaw03_BitmapFills.l0 k x3 x4 t171 x6 (wrap64 (x7 + 1)))) else (some false))) else (some false))) else (if x3 = true then ((bitmap_First.f k x5 0).bind fun t165 => (if t165 = (-1) then ((bitmap_Each.f k x5).bind fun t166 => (if (t166.length : Int) = x6 then (if x6 ≥ x4 then (some (decide (x6 < (wrap64 (x4 + 8))))) else (some false)) else (some false))) else (some false))) else (some false))
end
def lockgatelaw03_BitmapFills.f (k : Nat) (a0 : Int) : Option (Bool) := (lockgatelaw03_awake.f k).bind fun t163 => (if (Int.tmod a0 301) < 0 then (lockgatelaw03_BitmapFills.j0 k t163 (wrap64 (-(Int.tmod a0 301)))) else (lockgatelaw03_BitmapFills.j0 k t163 (Int.tmod a0 301)))
theorem lockgatelaw03_BitmapFills.mono_l : ∀ k, (∀ y0 y1, LeO (lockgatelaw03_BitmapFills.j0 k y0 y1) (lockgatelaw03_BitmapFills.j0 (k + 1) y0 y1)) ∧ (∀ y0 y1 y2 y3 y4, LeO (lockgatelaw03_BitmapFills.l0 k y0 y1 y2 y3 y4) (lockgatelaw03_BitmapFills.l0 (k + 1) y0 y1 y2 y3 y4))
  | 0 => ⟨fun _ _ r h => by simp [lockgatelaw03_BitmapFills.j0] at h, fun _ _ _ _ _ r h => by simp [lockgatelaw03_BitmapFills.l0] at h⟩
  | k + 1 => by
    obtain ⟨ih0, ih1⟩ := lockgatelaw03_BitmapFills.mono_l k
    refine ⟨?_, ?_⟩
    · intro y0 y1
      unfold lockgatelaw03_BitmapFills.j0
      repeat' first
      | (with_reducible exact ih0 _ _)
      | (with_reducible exact ih1 _ _ _ _ _)
      | (with_reducible exact bitmap_Count.mono _ _)
      | (with_reducible exact bitmap_Each.mono _ _)
      | (with_reducible exact bitmap_First.mono _ _ _)
      | (with_reducible exact lockgatelaw03_awake.mono _)
      | (with_reducible exact LeO.refl _)
      | (with_reducible exact LeO.none _)
      | (with_reducible refine LeO.ite ?_ ?_)
      | (with_reducible refine LeO.bind ?_ (fun _ => ?_))
      | exact ih0 _ _
      | exact ih1 _ _ _ _ _
      | exact bitmap_Count.mono _ _
      | exact bitmap_Each.mono _ _
      | exact bitmap_First.mono _ _ _
      | exact lockgatelaw03_awake.mono _
      | exact LeO.none _
      | refine LeO.ite ?_ ?_
      | refine LeO.bind ?_ (fun _ => ?_)
    · intro y0 y1 y2 y3 y4
      unfold lockgatelaw03_BitmapFills.l0
      repeat' first
      | (with_reducible exact ih0 _ _)
      | (with_reducible exact ih1 _ _ _ _ _)
      | (with_reducible exact bitmap_Count.mono _ _)
      | (with_reducible exact bitmap_Each.mono _ _)
      | (with_reducible exact bitmap_First.mono _ _ _)
      | (with_reducible exact lockgatelaw03_awake.mono _)
      | (with_reducible exact LeO.refl _)
      | (with_reducible exact LeO.none _)
      | (with_reducible refine LeO.ite ?_ ?_)
      | (with_reducible refine LeO.bind ?_ (fun _ => ?_))
      | exact ih0 _ _
      | exact ih1 _ _ _ _ _
      | exact bitmap_Count.mono _ _
      | exact bitmap_Each.mono _ _
      | exact bitmap_First.mono _ _ _
      | exact lockgatelaw03_awake.mono _
      | exact LeO.none _
      | refine LeO.ite ?_ ?_
      | refine LeO.bind ?_ (fun _ => ?_)
theorem lockgatelaw03_BitmapFills.mono : ∀ a0 k, LeO (lockgatelaw03_BitmapFills.f k a0) (lockgatelaw03_BitmapFills.f (k + 1) a0) := by
  intro a0 k
  obtain ⟨ih0, ih1⟩ := lockgatelaw03_BitmapFills.mono_l k
  unfold lockgatelaw03_BitmapFills.f
  repeat' first
      | (with_reducible exact ih0 _ _)
      | (with_reducible exact ih1 _ _ _ _ _)
      | (with_reducible exact bitmap_Count.mono _ _)
      | (with_reducible exact bitmap_Each.mono _ _)
      | (with_reducible exact bitmap_First.mono _ _ _)
      | (with_reducible exact lockgatelaw03_awake.mono _)
      | (with_reducible exact LeO.refl _)
      | (with_reducible exact LeO.none _)
      | (with_reducible refine LeO.ite ?_ ?_)
      | (with_reducible refine LeO.bind ?_ (fun _ => ?_))
      | exact ih0 _ _
      | exact ih1 _ _ _ _ _
      | exact bitmap_Count.mono _ _
      | exact bitmap_Each.mono _ _
      | exact bitmap_First.mono _ _ _
      | exact lockgatelaw03_awake.mono _
      | exact LeO.none _
      | refine LeO.ite ?_ ?_
      | refine LeO.bind ?_ (fun _ => ?_)
set_option maxHeartbeats 8000000 in
set_option maxRecDepth 100000 in
theorem lockgatelaw03_BitmapFills.calls (k : Nat) (a0 : Int) (r : Bool) (w : World) (h : lockgatelaw03_BitmapFills.f k a0 = some r) :
    Calls Try.prog 7 #[.int .i64 a0] w fun e w' => e = .returned (.bool r) ∧ Below w.heap.size w w' := by
  have HB := Aside0.mk (Below.refl w.heap.size w)
  have H : ((lockgatelaw03_awake.f k).bind fun t163 => (if (Int.tmod a0 301) < 0 then (lockgatelaw03_BitmapFills.j0 k t163 (wrap64 (-(Int.tmod a0 301)))) else (lockgatelaw03_BitmapFills.j0 k t163 (Int.tmod a0 301)))) = some r := h
  clear h
  replace H := Option.bind_eq_some_iff.mp H
  obtain ⟨t163, A20, H⟩ := H
  replace H : (if (Int.tmod a0 301) < 0 then (lockgatelaw03_BitmapFills.j0 k t163 (wrap64 (-(Int.tmod a0 301)))) else (lockgatelaw03_BitmapFills.j0 k t163 (Int.tmod a0 301))) = some r := H
  have A2 := Aside0.mk A20
  clear A20
  have HC3 := Aside0.mk H
  clear H
  go_enter Try.func7, Try.ntmps7
  go_upto_if 12 with (first | ((with_reducible refine gate_callee (f := 11) rfl ?_); refine goesL_ (some 8) rfl rfl Try.func11 (by kernel_rfl) rfl #[] rfl (by (try simp only [List.map_toArray, List.map_cons, List.map_nil]); first | done | rfl | (simp only [List.length_drop, List.length_take]; rfl)) ?_; (with_reducible refine (lockgatelaw03_awake.calls k  t163 _ A2.out).mono ?_); rintro e w4 ⟨rfl, hb⟩; refine ⟨_, rfl, ?_⟩; have n0_ := Aside0.mk (below_step (by repeat (first | (with_reducible first | exact HB.out | apply below_alloc | apply pw_below_drewN | apply below_drew1) | exact HB.out)) hb); clear HB; have HB := n0_; clear n0_; (try clear hb); (try clear hb2); (try clear hk); (try clear hi)))
  (try simp only [Act.put, List.setIfInBounds_toArray, List.set_cons_zero, List.set_cons_succ])
  go_cut [4] (fun v4 wc => ∃ (kq : Nat) (x4_2 : Int), v4 = .int .i64 x4_2 ∧ Aside0 (lockgatelaw03_BitmapFills.j0 kq t163 x4_2 = some r) ∧ Aside0 (kq ≤ k) ∧ Aside0 (Below w.heap.size w wc))
  case first =>
    have H := HC3.out
    clear HC3
    by_cases c5 : (Int.tmod a0 301) < 0
    · rw [if_pos c5] at H
      have c5b0 : decide ((Int.tmod a0 301) < 0) = true := decide_eq_true c5
      clear c5
      (first | rw [c5b0] | (simp only [i64_w, i32_w]; rw [c5b0]) | skip)
      have H' := Aside0.mk H
      clear H
      go_wp2
      go_meet
      case rel => exact ⟨_, (wrap64 (-(Int.tmod a0 301))), (by first | rfl | (simp; done) | (simp [*]; done)), H', ⟨by first | omega | exact Nat.le_refl _⟩, ⟨by repeat (first | (with_reducible first | exact HB.out | apply below_alloc | apply pw_below_drewN | apply below_drew1) | exact HB.out)⟩⟩
    · rw [if_neg c5] at H
      have c5b0 : decide ((Int.tmod a0 301) < 0) = false := decide_eq_false c5
      clear c5
      (first | rw [c5b0] | (simp only [i64_w, i32_w]; rw [c5b0]) | skip)
      have H' := Aside0.mk H
      clear H
      go_wp2
      go_meet
      case rel => exact ⟨_, (Int.tmod a0 301), (by first | rfl | (simp; done) | (simp [*]; done)), H', ⟨by first | omega | exact Nat.le_refl _⟩, ⟨by repeat (first | (with_reducible first | exact HB.out | apply below_alloc | apply pw_below_drewN | apply below_drew1) | exact HB.out)⟩⟩
  case rest =>
    clear HC3
    try clear c1
    try clear p2
    try clear c5
    try clear c5b0
    obtain ⟨kq, x4_2, rfl, HA, HJ2, HB⟩ := hcut
    cases kq with
    | zero => exact absurd HA.out (by simp [lockgatelaw03_BitmapFills.j0])
    | succ kj2 =>
      have H := HA.out
      clear HA
      simp only [lockgatelaw03_BitmapFills.j0] at H
      replace H := Option.bind_eq_some_iff.mp H
      obtain ⟨t164, A60, H⟩ := H
      replace H : (lockgatelaw03_BitmapFills.l0 kj2 t163 x4_2 t164 (wrap64 (8 * (t164.size : Int))) 0) = some r := H
      have A6 := Aside0.mk A60
      clear A60
      have H' := Aside0.mk H
      clear H
      go_wp2_with (first | ((with_reducible refine gate_callee (f := 23) rfl ?_); refine goesL_ (some 16) rfl rfl Try.func23 (by kernel_rfl) rfl #[.int .i64 x4_2] rfl (by (try simp only [List.map_toArray, List.map_cons, List.map_nil]); first | done | rfl | (simp only [List.length_drop, List.length_take]; rfl)) ?_; (with_reducible refine (bitmap_New.calls x4_2 t164 _ A6.out).mono ?_); rintro e w7 ⟨rfl, hb⟩; refine ⟨_, rfl, ?_⟩; have n0_ := Aside0.mk (below_step (by repeat (first | (with_reducible first | exact HB.out | apply below_alloc | apply pw_below_drewN | apply below_drew1) | exact HB.out)) hb); clear HB; have HB := n0_; clear n0_; (try clear hb); (try clear hb2); (try clear hk); (try clear hi)))
      go_loopg [5, 7] kj2 (fun kq v5 v7 w' => ∃ (x5_2 : ByteArray) (x7_2 : Int), v5 = .string x5_2 ∧ v7 = .int .i64 x7_2 ∧ Aside0 (lockgatelaw03_BitmapFills.l0 kq t163 x4_2 x5_2 (wrap64 (8 * (t164.size : Int))) x7_2 = some r) ∧ Aside0 (kq ≤ kj2) ∧ Aside0 (Below w.heap.size w w'))
      case atStart => exact ⟨(t164), (0), (by first | rfl | (simp; done) | (simp [*]; done)), (by first | rfl | (simp; done) | (simp [*]; done)), H', ⟨Nat.le_refl _⟩, ⟨by repeat (first | (with_reducible first | exact HB.out | apply below_alloc | apply pw_below_drewN | apply below_drew1) | exact HB.out)⟩⟩
      case round =>
        clear H'
        try clear c1
        try clear c2
        try clear p2
        try clear c5
        try clear c5b0
        try clear p6
        try clear c7
        try clear p2
        obtain ⟨x5_2, x7_2, rfl, rfl, HA, HK2, HB⟩ := hrel
        cases gk with
        | zero => exact absurd HA.out (by simp [lockgatelaw03_BitmapFills.l0])
        | succ k2 =>
          have H := HA.out
          clear HA
          simp only [lockgatelaw03_BitmapFills.l0] at H
          by_cases c8 : x7_2 < (wrap64 (8 * (t164.size : Int)))
          · rw [if_pos c8] at H
            have c8b0 : decide (x7_2 < (wrap64 (8 * (t164.size : Int)))) = true := decide_eq_true c8
            clear c8
            replace H := Option.bind_eq_some_iff.mp H
            obtain ⟨t169, A90, H⟩ := H
            replace H : (if t169 = x7_2 then ((bitmap_Count.f k2 x5_2).bind fun t170 => (if t170 = x7_2 then ((bitmap_Set.f x5_2 x7_2 true).bind fun t171 => (lockgatelaw03_BitmapFills.l0 k2 t163 x4_2 t171 (wrap64 (8 * (t164.size : Int))) (wrap64 (x7_2 + 1)))) else (some false))) else (some false)) = some r := H
            have A9 := Aside0.mk A90
            clear A90
            by_cases c10 : t169 = x7_2
            · rw [if_pos c10] at H
              have c10b0 : (t169 == x7_2) = true := beq_iff_eq.mpr c10
              have c10b1 : (t169 != x7_2) = false := bne_eq_false_iff_eq.mpr c10
              clear c10
              replace H := Option.bind_eq_some_iff.mp H
              obtain ⟨t170, A110, H⟩ := H
              replace H : (if t170 = x7_2 then ((bitmap_Set.f x5_2 x7_2 true).bind fun t171 => (lockgatelaw03_BitmapFills.l0 k2 t163 x4_2 t171 (wrap64 (8 * (t164.size : Int))) (wrap64 (x7_2 + 1)))) else (some false)) = some r := H
              have A11 := Aside0.mk A110
              clear A110
              by_cases c12 : t170 = x7_2
              · rw [if_pos c12] at H
                have c12b0 : (t170 == x7_2) = true := beq_iff_eq.mpr c12
                have c12b1 : (t170 != x7_2) = false := bne_eq_false_iff_eq.mpr c12
                clear c12
                replace H := Option.bind_eq_some_iff.mp H
                obtain ⟨t171, A130, H⟩ := H
                replace H : (lockgatelaw03_BitmapFills.l0 k2 t163 x4_2 t171 (wrap64 (8 * (t164.size : Int))) (wrap64 (x7_2 + 1))) = some r := H
                have A13 := Aside0.mk A130
                clear A130
                have H' := Aside0.mk H
                clear H
                go_wp2_with (first | ((with_reducible refine gate_callee (f := 16) rfl ?_); refine goesL_ (some 26) rfl rfl Try.func16 (by kernel_rfl) rfl #[.string x5_2, .int .i64 0] rfl (by (try simp only [List.map_toArray, List.map_cons, List.map_nil]); first | done | rfl | (simp only [List.length_drop, List.length_take]; rfl)) ?_; (with_reducible refine (bitmap_First.calls k2 x5_2 0 t169 _ A9.out).mono ?_); rintro e w14 ⟨rfl, hb⟩; refine ⟨_, rfl, ?_⟩; have n0_ := Aside0.mk (below_step (by repeat (first | (with_reducible first | exact HB.out | apply below_alloc | apply pw_below_drewN | apply below_drew1) | exact HB.out)) hb); clear HB; have HB := n0_; clear n0_; (try clear hb); (try clear hb2); (try clear hk); (try clear hi)) | (go_at_call 15; (with_reducible refine (bitmap_Count.calls k2 x5_2 t170 _ A11.out).mono ?_); rintro e w15 ⟨rfl, hb⟩; have n0_ := Aside0.mk (below_step (by repeat (first | (with_reducible first | exact HB.out | apply below_alloc | apply pw_below_drewN | apply below_drew1) | exact HB.out)) hb); clear HB; have HB := n0_; clear n0_; (try clear hb); (try clear hb2); (try clear hk); (try clear hi)) | ((with_reducible refine gate_callee (f := 13) rfl ?_); refine goesL_ (some 37) rfl rfl Try.func13 (by kernel_rfl) rfl #[.string x5_2, .int .i64 x7_2, .bool true] rfl (by (try simp only [List.map_toArray, List.map_cons, List.map_nil]); first | done | rfl | (simp only [List.length_drop, List.length_take]; rfl)) ?_; (with_reducible refine (bitmap_Set.calls x5_2 x7_2 true t171 _ A13.out).mono ?_); rintro e w16 ⟨rfl, hb⟩; refine ⟨_, rfl, ?_⟩; have n0_ := Aside0.mk (below_step (by repeat (first | (with_reducible first | exact HB.out | apply below_alloc | apply pw_below_drewN | apply below_drew1) | exact HB.out)) hb); clear HB; have HB := n0_; clear n0_; (try clear hb); (try clear hb2); (try clear hk); (try clear hi)))
                go_roundg k2
                case measure => have := HJ2.out; have := HK2.out; omega
                case rel => exact ⟨(t171), (wrap64 (x7_2 + 1)), (by first | rfl | (simp; done) | (simp [*]; done)), (by first | rfl | (simp; done) | (simp [*]; done)), H', ⟨by have := HJ2.out; have := HK2.out; omega⟩, ⟨by repeat (first | (with_reducible first | exact HB.out | apply below_alloc | apply pw_below_drewN | apply below_drew1) | exact HB.out)⟩⟩
              · rw [if_neg c12] at H
                have c12b0 : (t170 == x7_2) = false := beq_eq_false_iff_ne.mpr c12
                have c12b1 : (t170 != x7_2) = true := bne_iff_ne.mpr c12
                obtain rfl := Option.some.inj H
                go_wp2_with (first | ((with_reducible refine gate_callee (f := 16) rfl ?_); refine goesL_ (some 26) rfl rfl Try.func16 (by kernel_rfl) rfl #[.string x5_2, .int .i64 0] rfl (by (try simp only [List.map_toArray, List.map_cons, List.map_nil]); first | done | rfl | (simp only [List.length_drop, List.length_take]; rfl)) ?_; (with_reducible refine (bitmap_First.calls k2 x5_2 0 t169 _ A9.out).mono ?_); rintro e w17 ⟨rfl, hb⟩; refine ⟨_, rfl, ?_⟩; have n0_ := Aside0.mk (below_step (by repeat (first | (with_reducible first | exact HB.out | apply below_alloc | apply pw_below_drewN | apply below_drew1) | exact HB.out)) hb); clear HB; have HB := n0_; clear n0_; (try clear hb); (try clear hb2); (try clear hk); (try clear hi)) | (go_at_call 15; (with_reducible refine (bitmap_Count.calls k2 x5_2 t170 _ A11.out).mono ?_); rintro e w18 ⟨rfl, hb⟩; have n0_ := Aside0.mk (below_step (by repeat (first | (with_reducible first | exact HB.out | apply below_alloc | apply pw_below_drewN | apply below_drew1) | exact HB.out)) hb); clear HB; have HB := n0_; clear n0_; (try clear hb); (try clear hb2); (try clear hk); (try clear hi)))
                go_ret
                exact ⟨by first | rfl | (simp [errW_none, errW_some] <;> rfl) | (simp [*, errW_none, errW_some] <;> rfl), by repeat (first | (with_reducible first | exact HB.out | apply below_alloc | apply pw_below_drewN | apply below_drew1) | exact HB.out)⟩
            · rw [if_neg c10] at H
              have c10b0 : (t169 == x7_2) = false := beq_eq_false_iff_ne.mpr c10
              have c10b1 : (t169 != x7_2) = true := bne_iff_ne.mpr c10
              obtain rfl := Option.some.inj H
              go_wp2_with (first | ((with_reducible refine gate_callee (f := 16) rfl ?_); refine goesL_ (some 26) rfl rfl Try.func16 (by kernel_rfl) rfl #[.string x5_2, .int .i64 0] rfl (by (try simp only [List.map_toArray, List.map_cons, List.map_nil]); first | done | rfl | (simp only [List.length_drop, List.length_take]; rfl)) ?_; (with_reducible refine (bitmap_First.calls k2 x5_2 0 t169 _ A9.out).mono ?_); rintro e w19 ⟨rfl, hb⟩; refine ⟨_, rfl, ?_⟩; have n0_ := Aside0.mk (below_step (by repeat (first | (with_reducible first | exact HB.out | apply below_alloc | apply pw_below_drewN | apply below_drew1) | exact HB.out)) hb); clear HB; have HB := n0_; clear n0_; (try clear hb); (try clear hb2); (try clear hk); (try clear hi)))
              go_ret
              exact ⟨by first | rfl | (simp [errW_none, errW_some] <;> rfl) | (simp [*, errW_none, errW_some] <;> rfl), by repeat (first | (with_reducible first | exact HB.out | apply below_alloc | apply pw_below_drewN | apply below_drew1) | exact HB.out)⟩
          · rw [if_neg c8] at H
            have c8b0 : decide (x7_2 < (wrap64 (8 * (t164.size : Int)))) = false := decide_eq_false c8
            clear c8
            by_cases c20 : t163 = true
            · subst c20
              have H1 : ((bitmap_First.f k2 x5_2 0).bind fun t165 => (if t165 = (-1) then ((bitmap_Each.f k2 x5_2).bind fun t166 => (if (t166.length : Int) = (wrap64 (8 * (t164.size : Int))) then (if (wrap64 (8 * (t164.size : Int))) ≥ x4_2 then (some (decide ((wrap64 (8 * (t164.size : Int))) < (wrap64 (x4_2 + 8))))) else (some false)) else (some false))) else (some false))) = some r := by rw [if_pos rfl] at H; exact H
              clear H
              have H := H1
              clear H1
              replace H := Option.bind_eq_some_iff.mp H
              obtain ⟨t165, A210, H⟩ := H
              replace H : (if t165 = (-1) then ((bitmap_Each.f k2 x5_2).bind fun t166 => (if (t166.length : Int) = (wrap64 (8 * (t164.size : Int))) then (if (wrap64 (8 * (t164.size : Int))) ≥ x4_2 then (some (decide ((wrap64 (8 * (t164.size : Int))) < (wrap64 (x4_2 + 8))))) else (some false)) else (some false))) else (some false)) = some r := H
              have A21 := Aside0.mk A210
              clear A210
              by_cases c22 : t165 = (-1)
              · rw [if_pos c22] at H
                have c22b0 : (t165 == (-1)) = true := beq_iff_eq.mpr c22
                have c22b1 : (t165 != (-1)) = false := bne_eq_false_iff_eq.mpr c22
                clear c22
                replace H := Option.bind_eq_some_iff.mp H
                obtain ⟨t166, A230, H⟩ := H
                replace H : (if (t166.length : Int) = (wrap64 (8 * (t164.size : Int))) then (if (wrap64 (8 * (t164.size : Int))) ≥ x4_2 then (some (decide ((wrap64 (8 * (t164.size : Int))) < (wrap64 (x4_2 + 8))))) else (some false)) else (some false)) = some r := H
                have A23 := Aside0.mk A230
                clear A230
                by_cases c24 : (t166.length : Int) = (wrap64 (8 * (t164.size : Int)))
                · rw [if_pos c24] at H
                  have c24b0 : ((t166.length : Int) == (wrap64 (8 * (t164.size : Int)))) = true := beq_iff_eq.mpr c24
                  have c24b1 : ((t166.length : Int) != (wrap64 (8 * (t164.size : Int)))) = false := bne_eq_false_iff_eq.mpr c24
                  clear c24
                  by_cases c25 : (wrap64 (8 * (t164.size : Int))) ≥ x4_2
                  · rw [if_pos c25] at H
                    have c25b0 : decide (x4_2 ≤ (wrap64 (8 * (t164.size : Int)))) = true := decide_eq_true c25
                    clear c25
                    obtain rfl := Option.some.inj H
                    go_wp2_with (first | (go_at_call 16; (with_reducible refine (bitmap_First.calls k2 x5_2 0 t165 _ A21.out).mono ?_); rintro e w26 ⟨rfl, hb⟩; have n0_ := Aside0.mk (below_step (by repeat (first | (with_reducible first | exact HB.out | apply below_alloc | apply pw_below_drewN | apply below_drew1) | exact HB.out)) hb); clear HB; have HB := n0_; clear n0_; (try clear hb); (try clear hb2); (try clear hk); (try clear hi)) | (go_at_call 19; (with_reducible refine (bitmap_Each.calls k2 x5_2 t166 _ A23.out).mono ?_); rintro e w27 ⟨v167, rfl, ho0, hb⟩; have n0_ := Aside0.mk (Kd.R_lower ho0 (below_size (by repeat (first | (with_reducible first | exact HB.out | apply below_alloc | apply pw_below_drewN | apply below_drew1) | exact HB.out)))); have n1_ := Aside0.mk (below_step (by repeat (first | (with_reducible first | exact HB.out | apply below_alloc | apply pw_below_drewN | apply below_drew1) | exact HB.out)) hb); clear HB; have HO168 := n0_; have HB := n1_; clear n0_ n1_; (try clear hb); (try clear hb2); (try clear hk); (try clear hi); (try clear ho0); obtain ⟨Ao28, co28, eo28⟩ := Kd.R_slice HO168.out; subst eo28))
                    go_ret
                    exact ⟨by first | rfl | (simp [errW_none, errW_some] <;> rfl) | (simp [*, errW_none, errW_some] <;> rfl), by repeat (first | (with_reducible first | exact HB.out | apply below_alloc | apply pw_below_drewN | apply below_drew1) | exact HB.out)⟩
                  · rw [if_neg c25] at H
                    have c25b0 : decide (x4_2 ≤ (wrap64 (8 * (t164.size : Int)))) = false := decide_eq_false c25
                    clear c25
                    obtain rfl := Option.some.inj H
                    go_wp2_with (first | (go_at_call 16; (with_reducible refine (bitmap_First.calls k2 x5_2 0 t165 _ A21.out).mono ?_); rintro e w29 ⟨rfl, hb⟩; have n0_ := Aside0.mk (below_step (by repeat (first | (with_reducible first | exact HB.out | apply below_alloc | apply pw_below_drewN | apply below_drew1) | exact HB.out)) hb); clear HB; have HB := n0_; clear n0_; (try clear hb); (try clear hb2); (try clear hk); (try clear hi)) | (go_at_call 19; (with_reducible refine (bitmap_Each.calls k2 x5_2 t166 _ A23.out).mono ?_); rintro e w30 ⟨v167, rfl, ho0, hb⟩; have n0_ := Aside0.mk (Kd.R_lower ho0 (below_size (by repeat (first | (with_reducible first | exact HB.out | apply below_alloc | apply pw_below_drewN | apply below_drew1) | exact HB.out)))); have n1_ := Aside0.mk (below_step (by repeat (first | (with_reducible first | exact HB.out | apply below_alloc | apply pw_below_drewN | apply below_drew1) | exact HB.out)) hb); clear HB; have HO168 := n0_; have HB := n1_; clear n0_ n1_; (try clear hb); (try clear hb2); (try clear hk); (try clear hi); (try clear ho0); obtain ⟨Ao31, co31, eo31⟩ := Kd.R_slice HO168.out; subst eo31))
                    go_ret
                    exact ⟨by first | rfl | (simp [errW_none, errW_some] <;> rfl) | (simp [*, errW_none, errW_some] <;> rfl), by repeat (first | (with_reducible first | exact HB.out | apply below_alloc | apply pw_below_drewN | apply below_drew1) | exact HB.out)⟩
                · rw [if_neg c24] at H
                  have c24b0 : ((t166.length : Int) == (wrap64 (8 * (t164.size : Int)))) = false := beq_eq_false_iff_ne.mpr c24
                  have c24b1 : ((t166.length : Int) != (wrap64 (8 * (t164.size : Int)))) = true := bne_iff_ne.mpr c24
                  obtain rfl := Option.some.inj H
                  go_wp2_with (first | (go_at_call 16; (with_reducible refine (bitmap_First.calls k2 x5_2 0 t165 _ A21.out).mono ?_); rintro e w32 ⟨rfl, hb⟩; have n0_ := Aside0.mk (below_step (by repeat (first | (with_reducible first | exact HB.out | apply below_alloc | apply pw_below_drewN | apply below_drew1) | exact HB.out)) hb); clear HB; have HB := n0_; clear n0_; (try clear hb); (try clear hb2); (try clear hk); (try clear hi)) | (go_at_call 19; (with_reducible refine (bitmap_Each.calls k2 x5_2 t166 _ A23.out).mono ?_); rintro e w33 ⟨v167, rfl, ho0, hb⟩; have n0_ := Aside0.mk (Kd.R_lower ho0 (below_size (by repeat (first | (with_reducible first | exact HB.out | apply below_alloc | apply pw_below_drewN | apply below_drew1) | exact HB.out)))); have n1_ := Aside0.mk (below_step (by repeat (first | (with_reducible first | exact HB.out | apply below_alloc | apply pw_below_drewN | apply below_drew1) | exact HB.out)) hb); clear HB; have HO168 := n0_; have HB := n1_; clear n0_ n1_; (try clear hb); (try clear hb2); (try clear hk); (try clear hi); (try clear ho0); obtain ⟨Ao34, co34, eo34⟩ := Kd.R_slice HO168.out; subst eo34))
                  go_ret
                  exact ⟨by first | rfl | (simp [errW_none, errW_some] <;> rfl) | (simp [*, errW_none, errW_some] <;> rfl), by repeat (first | (with_reducible first | exact HB.out | apply below_alloc | apply pw_below_drewN | apply below_drew1) | exact HB.out)⟩
              · rw [if_neg c22] at H
                have c22b0 : (t165 == (-1)) = false := beq_eq_false_iff_ne.mpr c22
                have c22b1 : (t165 != (-1)) = true := bne_iff_ne.mpr c22
                obtain rfl := Option.some.inj H
                go_wp2_with (first | (go_at_call 16; (with_reducible refine (bitmap_First.calls k2 x5_2 0 t165 _ A21.out).mono ?_); rintro e w35 ⟨rfl, hb⟩; have n0_ := Aside0.mk (below_step (by repeat (first | (with_reducible first | exact HB.out | apply below_alloc | apply pw_below_drewN | apply below_drew1) | exact HB.out)) hb); clear HB; have HB := n0_; clear n0_; (try clear hb); (try clear hb2); (try clear hk); (try clear hi)))
                go_ret
                exact ⟨by first | rfl | (simp [errW_none, errW_some] <;> rfl) | (simp [*, errW_none, errW_some] <;> rfl), by repeat (first | (with_reducible first | exact HB.out | apply below_alloc | apply pw_below_drewN | apply below_drew1) | exact HB.out)⟩
            · replace c20 := Bool.eq_false_iff.mpr c20
              subst c20
              have H1 : (some false) = some r := by rw [if_neg (show ¬ (false = true) by decide)] at H; exact H
              clear H
              have H := H1
              clear H1
              obtain rfl := Option.some.inj H
              go_wp2
              go_ret
              exact ⟨by first | rfl | (simp [errW_none, errW_some] <;> rfl) | (simp [*, errW_none, errW_some] <;> rfl), by repeat (first | (with_reducible first | exact HB.out | apply below_alloc | apply pw_below_drewN | apply below_drew1) | exact HB.out)⟩

/-- THE ONE PURE STATEMENT of lockgatelaw03_BitmapFills: yours. -/
def lockgatelaw03_BitmapFills.Pure : Prop := ∀ (a0 : Int), (Lit.int .i64 a0).wf = true → ∃ k, lockgatelaw03_BitmapFills.f k a0 = some true
theorem lockgatelaw03_BitmapFills.walk (P : lockgatelaw03_BitmapFills.Pure) (a0 : Int) (w : World) (w0 : (Lit.int .i64 a0).wf = true) :
    Calls Try.prog 7 #[.int .i64 a0] w fun e w' => e = .returned (.bool true) ∧ Below w.heap.size w w' := by
  obtain ⟨k, h⟩ := P a0 w0
  refine (lockgatelaw03_BitmapFills.calls k a0 true w h).mono ?_
  rintro e w' ⟨rfl, hd⟩
  exact ⟨rfl, hd⟩

end Go.Proofs.Ytnibjclemfionaa.Q
