-- Written by mp.py (a program of this repo, over the print) for this seat: functions, contracts, walks.
import Derived.Test.YtnibjclemfionaaQx0
import Derived.Test.YtnibjclemfionaaQx1
namespace Go.Proofs.Ytnibjclemfionaa.Q
open Go.RowKit Go.Proofs.YtnibjclemfionaaW.PrintWords Go.Proofs.YtnibjclemfionaaW.PrintLast Go.Proofs.YtnibjclemfionaaW.PrintMore
attribute [local go_sem] max2_int min2_int max_two min_two max_three min_three max_four min_four   -- for this text's walks alone
set_option linter.unusedVariables false
set_option linter.unusedSimpArgs false

/-! ### lockgatelaw03_BitmapOne: function 3 -/
mutual
def lockgatelaw03_BitmapOne.j0 : Nat → ByteArray → Bool → Int → Option (Bool)
  | 0, _, _, _ => none
  | k + 1, x0, x5, x6 => if (wrap64 (8 * (x0.size : Int))) = 0 then (none) else ((bitmap_Has.f x0 (Int.tmod x6 (wrap64 (8 * (x0.size : Int))))).bind fun t114 => ((bitmap_Set.f x0 (Int.tmod x6 (wrap64 (8 * (x0.size : Int)))) (!t114)).bind fun t115 => (lockgatelaw03_BitmapOne.l0 k x0 x5 (Int.tmod x6 (wrap64 (8 * (x0.size : Int)))) t114 t115 (-1))))
def lockgatelaw03_BitmapOne.l0 : Nat → ByteArray → Bool → Int → Bool → ByteArray → Int → Option (Bool)
  | 0, _, _, _, _, _, _ => none
  | k + 1, x0, x5, x6, x7, x8, x9 => if x9 ≤ (wrap64 (8 * (x0.size : Int))) then (if x9 = x6 then (lockgatelaw03_BitmapOne.l0 k x0 x5 x6 x7 x8 (wrap64 (x9 + 1))) else ((bitmap_Has.f x8 x9).bind fun t116 => ((bitmap_Has.f x0 x9).bind fun t117 => (if (t116 != t117) = true then (some false) else (lockgatelaw03_BitmapOne.l0 k x0 x5 x6 x7 x8 (wrap64 (x9 + 1))))))) else (if x7 = true then (lockgatelaw03_BitmapOne.j2 k x0 x5 x6 x7 x8 (-1)) else (lockgatelaw03_BitmapOne.j2 k x0 x5 x6 x7 x8 1))
def lockgatelaw03_BitmapOne.j2 : Nat → ByteArray → Bool → Int → Bool → ByteArray → Int → Option (Bool)
  | 0, _, _, _, _, _, _ => none
  | k + 1, x0, x5, x6, x7, x8, x10 => if x5 = true then ((bitmap_Has.f x8 x6).bind fun t118 => (if (t118 == (!x7)) = true then ((bitmap_Count.f k x8).bind fun t119 => ((bitmap_Count.f k x0).bind fun t120 => (if t119 = (wrap64 (t120 + x10)) then ((bitmap_Set.f x8 x6 x7).bind fun t121 => (if t121.toList = x0.toList then ((bitmap_Set.f x0 x6 x7).bind fun t122 => (some (t122.toList == x0.toList))) else (some false))) else (some false)))) else (some false))) else (some false)
end
def lockgatelaw03_BitmapOne.f (k : Nat) (a0 : ByteArray) (a1 : Int) : Option (Bool) := (lockgatelaw03_awake.f k).bind fun t111 => ((lockgatelaw03_short.f a0).bind fun t112 => (if (t112.size : Int) = 0 then (if t111 = true then ((bitmap_Set.f t112 a1 true).bind fun t113 => (some (t113.toList == ([] : List UInt8)))) else (some false)) else (if a1 < 0 then (lockgatelaw03_BitmapOne.j0 k t112 t111 (wrap64 (-(wrap64 (a1 + 1))))) else (lockgatelaw03_BitmapOne.j0 k t112 t111 a1))))
theorem lockgatelaw03_BitmapOne.mono_l : ∀ k, (∀ y0 y1 y2, LeO (lockgatelaw03_BitmapOne.j0 k y0 y1 y2) (lockgatelaw03_BitmapOne.j0 (k + 1) y0 y1 y2)) ∧ (∀ y0 y1 y2 y3 y4 y5, LeO (lockgatelaw03_BitmapOne.l0 k y0 y1 y2 y3 y4 y5) (lockgatelaw03_BitmapOne.l0 (k + 1) y0 y1 y2 y3 y4 y5)) ∧ (∀ y0 y1 y2 y3 y4 y5, LeO (lockgatelaw03_BitmapOne.j2 k y0 y1 y2 y3 y4 y5) (lockgatelaw03_BitmapOne.j2 (k + 1) y0 y1 y2 y3 y4 y5))
  | 0 => ⟨fun _ _ _ r h => by simp [lockgatelaw03_BitmapOne.j0] at h, fun _ _ _ _ _ _ r h => by simp [lockgatelaw03_BitmapOne.l0] at h, fun _ _ _ _ _ _ r h => by simp [lockgatelaw03_BitmapOne.j2] at h⟩
  | k + 1 => by
    obtain ⟨ih0, ih1, ih2⟩ := lockgatelaw03_BitmapOne.mono_l k
    refine ⟨?_, ?_, ?_⟩
    · intro y0 y1 y2
      unfold lockgatelaw03_BitmapOne.j0
      repeat' first
      | (with_reducible exact ih0 _ _ _)
      | (with_reducible exact ih1 _ _ _ _ _ _)
      | (with_reducible exact ih2 _ _ _ _ _ _)
      | (with_reducible exact bitmap_Count.mono _ _)
      | (with_reducible exact lockgatelaw03_awake.mono _)
      | (with_reducible exact LeO.refl _)
      | (with_reducible exact LeO.none _)
      | (with_reducible refine LeO.ite ?_ ?_)
      | (with_reducible refine LeO.bind ?_ (fun _ => ?_))
      | exact ih0 _ _ _
      | exact ih1 _ _ _ _ _ _
      | exact ih2 _ _ _ _ _ _
      | exact bitmap_Count.mono _ _
      | exact lockgatelaw03_awake.mono _
      | exact LeO.none _
      | refine LeO.ite ?_ ?_
      | refine LeO.bind ?_ (fun _ => ?_)
    · intro y0 y1 y2 y3 y4 y5
      unfold lockgatelaw03_BitmapOne.l0
      repeat' first
      | (with_reducible exact ih0 _ _ _)
      | (with_reducible exact ih1 _ _ _ _ _ _)
      | (with_reducible exact ih2 _ _ _ _ _ _)
      | (with_reducible exact bitmap_Count.mono _ _)
      | (with_reducible exact lockgatelaw03_awake.mono _)
      | (with_reducible exact LeO.refl _)
      | (with_reducible exact LeO.none _)
      | (with_reducible refine LeO.ite ?_ ?_)
      | (with_reducible refine LeO.bind ?_ (fun _ => ?_))
      | exact ih0 _ _ _
      | exact ih1 _ _ _ _ _ _
      | exact ih2 _ _ _ _ _ _
      | exact bitmap_Count.mono _ _
      | exact lockgatelaw03_awake.mono _
      | exact LeO.none _
      | refine LeO.ite ?_ ?_
      | refine LeO.bind ?_ (fun _ => ?_)
    · intro y0 y1 y2 y3 y4 y5
      unfold lockgatelaw03_BitmapOne.j2
      repeat' first
      | (with_reducible exact ih0 _ _ _)
      | (with_reducible exact ih1 _ _ _ _ _ _)
      | (with_reducible exact ih2 _ _ _ _ _ _)
      | (with_reducible exact bitmap_Count.mono _ _)
      | (with_reducible exact lockgatelaw03_awake.mono _)
      | (with_reducible exact LeO.refl _)
      | (with_reducible exact LeO.none _)
      | (with_reducible refine LeO.ite ?_ ?_)
      | (with_reducible refine LeO.bind ?_ (fun _ => ?_))
      | exact ih0 _ _ _
      | exact ih1 _ _ _ _ _ _
      | exact ih2 _ _ _ _ _ _
      | exact bitmap_Count.mono _ _
      | exact lockgatelaw03_awake.mono _
      | exact LeO.none _
      | refine LeO.ite ?_ ?_
      | refine LeO.bind ?_ (fun _ => ?_)
theorem lockgatelaw03_BitmapOne.mono : ∀ a0 a1 k, LeO (lockgatelaw03_BitmapOne.f k a0 a1) (lockgatelaw03_BitmapOne.f (k + 1) a0 a1) := by
  intro a0 a1 k
  obtain ⟨ih0, ih1, ih2⟩ := lockgatelaw03_BitmapOne.mono_l k
  unfold lockgatelaw03_BitmapOne.f
  repeat' first
      | (with_reducible exact ih0 _ _ _)
      | (with_reducible exact ih1 _ _ _ _ _ _)
      | (with_reducible exact ih2 _ _ _ _ _ _)
      | (with_reducible exact bitmap_Count.mono _ _)
      | (with_reducible exact lockgatelaw03_awake.mono _)
      | (with_reducible exact LeO.refl _)
      | (with_reducible exact LeO.none _)
      | (with_reducible refine LeO.ite ?_ ?_)
      | (with_reducible refine LeO.bind ?_ (fun _ => ?_))
      | exact ih0 _ _ _
      | exact ih1 _ _ _ _ _ _
      | exact ih2 _ _ _ _ _ _
      | exact bitmap_Count.mono _ _
      | exact lockgatelaw03_awake.mono _
      | exact LeO.none _
      | refine LeO.ite ?_ ?_
      | refine LeO.bind ?_ (fun _ => ?_)
set_option maxHeartbeats 8000000 in
set_option maxRecDepth 100000 in
theorem lockgatelaw03_BitmapOne.calls (k : Nat) (a0 : ByteArray) (a1 : Int) (r : Bool) (w : World) (h : lockgatelaw03_BitmapOne.f k a0 a1 = some r) :
    Calls Try.prog 3 #[.string a0, .int .i64 a1] w fun e w' => e = .returned (.bool r) ∧ Below w.heap.size w w' := by
  have HB := Aside0.mk (Below.refl w.heap.size w)
  have H : ((lockgatelaw03_awake.f k).bind fun t111 => ((lockgatelaw03_short.f a0).bind fun t112 => (if (t112.size : Int) = 0 then (if t111 = true then ((bitmap_Set.f t112 a1 true).bind fun t113 => (some (t113.toList == ([] : List UInt8)))) else (some false)) else (if a1 < 0 then (lockgatelaw03_BitmapOne.j0 k t112 t111 (wrap64 (-(wrap64 (a1 + 1))))) else (lockgatelaw03_BitmapOne.j0 k t112 t111 a1))))) = some r := h
  clear h
  replace H := Option.bind_eq_some_iff.mp H
  obtain ⟨t111, A30, H⟩ := H
  replace H : ((lockgatelaw03_short.f a0).bind fun t112 => (if (t112.size : Int) = 0 then (if t111 = true then ((bitmap_Set.f t112 a1 true).bind fun t113 => (some (t113.toList == ([] : List UInt8)))) else (some false)) else (if a1 < 0 then (lockgatelaw03_BitmapOne.j0 k t112 t111 (wrap64 (-(wrap64 (a1 + 1))))) else (lockgatelaw03_BitmapOne.j0 k t112 t111 a1)))) = some r := H
  have A3 := Aside0.mk A30
  clear A30
  replace H := Option.bind_eq_some_iff.mp H
  obtain ⟨t112, A40, H⟩ := H
  replace H : (if (t112.size : Int) = 0 then (if t111 = true then ((bitmap_Set.f t112 a1 true).bind fun t113 => (some (t113.toList == ([] : List UInt8)))) else (some false)) else (if a1 < 0 then (lockgatelaw03_BitmapOne.j0 k t112 t111 (wrap64 (-(wrap64 (a1 + 1))))) else (lockgatelaw03_BitmapOne.j0 k t112 t111 a1))) = some r := H
  have A4 := Aside0.mk A40
  clear A40
  by_cases c5 : (t112.size : Int) = 0
  · rw [if_pos c5] at H
    have c5b0 : ((t112.size : Int) == 0) = true := beq_iff_eq.mpr c5
    have c5b1 : ((t112.size : Int) != 0) = false := bne_eq_false_iff_eq.mpr c5
    clear c5
    by_cases c6 : t111 = true
    · subst c6
      have H1 : ((bitmap_Set.f t112 a1 true).bind fun t113 => (some (t113.toList == ([] : List UInt8)))) = some r := by rw [if_pos rfl] at H; exact H
      clear H
      have H := H1
      clear H1
      replace H := Option.bind_eq_some_iff.mp H
      obtain ⟨t113, A70, H⟩ := H
      replace H : (some (t113.toList == ([] : List UInt8))) = some r := H
      have A7 := Aside0.mk A70
      clear A70
      obtain rfl := Option.some.inj H
      go_enter Try.func3, Try.ntmps3
      go_wp2_with (first | ((with_reducible refine gate_callee (f := 11) rfl ?_); refine goesL_ (some 11) rfl rfl Try.func11 (by kernel_rfl) rfl #[] rfl (by (try simp only [List.map_toArray, List.map_cons, List.map_nil]); first | done | rfl | (simp only [List.length_drop, List.length_take]; rfl)) ?_; (with_reducible refine (lockgatelaw03_awake.calls k  true _ A3.out).mono ?_); rintro e w8 ⟨rfl, hb⟩; refine ⟨_, rfl, ?_⟩; have n0_ := Aside0.mk (below_step (by repeat (first | (with_reducible first | exact HB.out | apply below_alloc | apply pw_below_drewN | apply below_drew1) | exact HB.out)) hb); clear HB; have HB := n0_; clear n0_; (try clear hb); (try clear hb2); (try clear hk); (try clear hi)) | ((with_reducible refine gate_callee (f := 12) rfl ?_); refine goesL_ (some 13) rfl rfl Try.func12 (by kernel_rfl) rfl #[.string a0] rfl (by (try simp only [List.map_toArray, List.map_cons, List.map_nil]); first | done | rfl | (simp only [List.length_drop, List.length_take]; rfl)) ?_; (with_reducible refine (lockgatelaw03_short.calls a0 t112 _ A4.out).mono ?_); rintro e w' ⟨rfl, ⟨nd, rfl⟩⟩; refine ⟨_, rfl, ?_⟩) | (go_at_call 13; (with_reducible refine (bitmap_Set.calls t112 a1 true t113 _ A7.out).mono ?_); rintro e w9 ⟨rfl, hb⟩; have n0_ := Aside0.mk (below_step (by repeat (first | (with_reducible first | exact HB.out | apply below_alloc | apply pw_below_drewN | apply below_drew1) | exact HB.out)) hb); clear HB; have HB := n0_; clear n0_; (try clear hb); (try clear hb2); (try clear hk); (try clear hi)))
      go_ret
      exact ⟨by first | rfl | (simp [errW_none, errW_some] <;> rfl) | (simp [*, errW_none, errW_some] <;> rfl), by repeat (first | (with_reducible first | exact HB.out | apply below_alloc | apply pw_below_drewN | apply below_drew1) | exact HB.out)⟩
    · replace c6 := Bool.eq_false_iff.mpr c6
      subst c6
      have H1 : (some false) = some r := by rw [if_neg (show ¬ (false = true) by decide)] at H; exact H
      clear H
      have H := H1
      clear H1
      obtain rfl := Option.some.inj H
      go_enter Try.func3, Try.ntmps3
      go_wp2_with (first | ((with_reducible refine gate_callee (f := 11) rfl ?_); refine goesL_ (some 11) rfl rfl Try.func11 (by kernel_rfl) rfl #[] rfl (by (try simp only [List.map_toArray, List.map_cons, List.map_nil]); first | done | rfl | (simp only [List.length_drop, List.length_take]; rfl)) ?_; (with_reducible refine (lockgatelaw03_awake.calls k  false _ A3.out).mono ?_); rintro e w10 ⟨rfl, hb⟩; refine ⟨_, rfl, ?_⟩; have n0_ := Aside0.mk (below_step (by repeat (first | (with_reducible first | exact HB.out | apply below_alloc | apply pw_below_drewN | apply below_drew1) | exact HB.out)) hb); clear HB; have HB := n0_; clear n0_; (try clear hb); (try clear hb2); (try clear hk); (try clear hi)) | ((with_reducible refine gate_callee (f := 12) rfl ?_); refine goesL_ (some 13) rfl rfl Try.func12 (by kernel_rfl) rfl #[.string a0] rfl (by (try simp only [List.map_toArray, List.map_cons, List.map_nil]); first | done | rfl | (simp only [List.length_drop, List.length_take]; rfl)) ?_; (with_reducible refine (lockgatelaw03_short.calls a0 t112 _ A4.out).mono ?_); rintro e w' ⟨rfl, ⟨nd, rfl⟩⟩; refine ⟨_, rfl, ?_⟩))
      go_ret
      exact ⟨by first | rfl | (simp [errW_none, errW_some] <;> rfl) | (simp [*, errW_none, errW_some] <;> rfl), by repeat (first | (with_reducible first | exact HB.out | apply below_alloc | apply pw_below_drewN | apply below_drew1) | exact HB.out)⟩
  · rw [if_neg c5] at H
    have c5b0 : ((t112.size : Int) == 0) = false := beq_eq_false_iff_ne.mpr c5
    have c5b1 : ((t112.size : Int) != 0) = true := bne_iff_ne.mpr c5
    have HC11 := Aside0.mk H
    clear H
    go_enter Try.func3, Try.ntmps3
    go_upto_if 26 with (first | ((with_reducible refine gate_callee (f := 11) rfl ?_); refine goesL_ (some 11) rfl rfl Try.func11 (by kernel_rfl) rfl #[] rfl (by (try simp only [List.map_toArray, List.map_cons, List.map_nil]); first | done | rfl | (simp only [List.length_drop, List.length_take]; rfl)) ?_; (with_reducible refine (lockgatelaw03_awake.calls k  t111 _ A3.out).mono ?_); rintro e w12 ⟨rfl, hb⟩; refine ⟨_, rfl, ?_⟩; have n0_ := Aside0.mk (below_step (by repeat (first | (with_reducible first | exact HB.out | apply below_alloc | apply pw_below_drewN | apply below_drew1) | exact HB.out)) hb); clear HB; have HB := n0_; clear n0_; (try clear hb); (try clear hb2); (try clear hk); (try clear hi)) | ((with_reducible refine gate_callee (f := 12) rfl ?_); refine goesL_ (some 13) rfl rfl Try.func12 (by kernel_rfl) rfl #[.string a0] rfl (by (try simp only [List.map_toArray, List.map_cons, List.map_nil]); first | done | rfl | (simp only [List.length_drop, List.length_take]; rfl)) ?_; (with_reducible refine (lockgatelaw03_short.calls a0 t112 _ A4.out).mono ?_); rintro e w' ⟨rfl, ⟨nd, rfl⟩⟩; refine ⟨_, rfl, ?_⟩))
    (try simp only [Act.put, List.setIfInBounds_toArray, List.set_cons_zero, List.set_cons_succ])
    go_cut [6] (fun v6 wc => ∃ (kq : Nat) (x6_10 : Int), v6 = .int .i64 x6_10 ∧ Aside0 (lockgatelaw03_BitmapOne.j0 kq t112 t111 x6_10 = some r) ∧ Aside0 (kq ≤ k) ∧ Aside0 (Below w.heap.size w wc))
    case first =>
      have H := HC11.out
      clear HC11
      by_cases c13 : a1 < 0
      · rw [if_pos c13] at H
        have c13b0 : decide (a1 < 0) = true := decide_eq_true c13
        clear c13
        (first | rw [c13b0] | (simp only [i64_w, i32_w]; rw [c13b0]) | skip)
        have H' := Aside0.mk H
        clear H
        go_wp2
        go_meet
        case rel => exact ⟨_, (wrap64 (-(wrap64 (a1 + 1)))), (by first | rfl | (simp; done) | (simp [*]; done)), H', ⟨by first | omega | exact Nat.le_refl _⟩, ⟨by repeat (first | (with_reducible first | exact HB.out | apply below_alloc | apply pw_below_drewN | apply below_drew1) | exact HB.out)⟩⟩
      · rw [if_neg c13] at H
        have c13b0 : decide (a1 < 0) = false := decide_eq_false c13
        clear c13
        (first | rw [c13b0] | (simp only [i64_w, i32_w]; rw [c13b0]) | skip)
        have H' := Aside0.mk H
        clear H
        go_wp2
        go_meet
        case rel => exact ⟨_, (a1), (by first | rfl | (simp; done) | (simp [*]; done)), H', ⟨by first | omega | exact Nat.le_refl _⟩, ⟨by repeat (first | (with_reducible first | exact HB.out | apply below_alloc | apply pw_below_drewN | apply below_drew1) | exact HB.out)⟩⟩
    case rest =>
      clear HC11
      try clear c1
      try clear p2
      try clear c3
      try clear c5
      try clear c5b0
      try clear c5b1
      try clear c6
      try clear p6
      try clear c11
      try clear c12
      try clear c13
      try clear c13b0
      obtain ⟨kq, x6_10, rfl, HA, HJ10, HB⟩ := hcut
      cases kq with
      | zero => exact absurd HA.out (by simp [lockgatelaw03_BitmapOne.j0])
      | succ kj10 =>
        have H := HA.out
        clear HA
        simp only [lockgatelaw03_BitmapOne.j0] at H
        by_cases c14 : (wrap64 (8 * (t112.size : Int))) = 0
        · rw [if_pos c14] at H
          exact absurd H (by simp)
        · rw [if_neg c14] at H
          have c14b0 : ((wrap64 (8 * (t112.size : Int))) == 0) = false := beq_eq_false_iff_ne.mpr c14
          have c14b1 : ((wrap64 (8 * (t112.size : Int))) != 0) = true := bne_iff_ne.mpr c14
          replace H := Option.bind_eq_some_iff.mp H
          obtain ⟨t114, A150, H⟩ := H
          replace H : ((bitmap_Set.f t112 (Int.tmod x6_10 (wrap64 (8 * (t112.size : Int)))) (!t114)).bind fun t115 => (lockgatelaw03_BitmapOne.l0 kj10 t112 t111 (Int.tmod x6_10 (wrap64 (8 * (t112.size : Int)))) t114 t115 (-1))) = some r := H
          have A15 := Aside0.mk A150
          clear A150
          replace H := Option.bind_eq_some_iff.mp H
          obtain ⟨t115, A160, H⟩ := H
          replace H : (lockgatelaw03_BitmapOne.l0 kj10 t112 t111 (Int.tmod x6_10 (wrap64 (8 * (t112.size : Int)))) t114 t115 (-1)) = some r := H
          have A16 := Aside0.mk A160
          clear A160
          have H' := Aside0.mk H
          clear H
          go_wp2_with (first | ((with_reducible refine gate_callee (f := 14) rfl ?_); refine goesL_ (some 37) rfl rfl Try.func14 (by kernel_rfl) rfl #[.string t112, .int .i64 (Int.tmod x6_10 (wrap64 (8 * (t112.size : Int))))] rfl (by (try simp only [List.map_toArray, List.map_cons, List.map_nil]); first | done | rfl | (simp only [List.length_drop, List.length_take]; rfl)) ?_; (with_reducible refine (bitmap_Has.calls t112 (Int.tmod x6_10 (wrap64 (8 * (t112.size : Int)))) t114 _ A15.out).mono ?_); rintro e w' ⟨rfl, ⟨nd, rfl⟩⟩; refine ⟨_, rfl, ?_⟩) | ((with_reducible refine gate_callee (f := 13) rfl ?_); refine goesL_ (some 42) rfl rfl Try.func13 (by kernel_rfl) rfl #[.string t112, .int .i64 (Int.tmod x6_10 (wrap64 (8 * (t112.size : Int)))), .bool (!t114)] rfl (by (try simp only [List.map_toArray, List.map_cons, List.map_nil]); first | done | rfl | (simp only [List.length_drop, List.length_take]; rfl)) ?_; (with_reducible refine (bitmap_Set.calls t112 (Int.tmod x6_10 (wrap64 (8 * (t112.size : Int)))) (!t114) t115 _ A16.out).mono ?_); rintro e w17 ⟨rfl, hb⟩; refine ⟨_, rfl, ?_⟩; have n0_ := Aside0.mk (below_step (by repeat (first | (with_reducible first | exact HB.out | apply below_alloc | apply pw_below_drewN | apply below_drew1) | exact HB.out)) hb); clear HB; have HB := n0_; clear n0_; (try clear hb); (try clear hb2); (try clear hk); (try clear hi)))
          go_loopg [9] kj10 (fun kq v9 w' => ∃ (x9_2 : Int), v9 = .int .i64 x9_2 ∧ Aside0 (lockgatelaw03_BitmapOne.l0 kq t112 t111 (Int.tmod x6_10 (wrap64 (8 * (t112.size : Int)))) t114 t115 x9_2 = some r) ∧ Aside0 (kq ≤ kj10) ∧ Aside0 (Below w.heap.size w w'))
          case atStart => exact ⟨((-1)), (by first | rfl | (simp; done) | (simp [*]; done)), H', ⟨Nat.le_refl _⟩, ⟨by repeat (first | (with_reducible first | exact HB.out | apply below_alloc | apply pw_below_drewN | apply below_drew1) | exact HB.out)⟩⟩
          case round =>
            clear H'
            try clear c1
            try clear p2
            try clear c3
            try clear c5
            try clear c5b0
            try clear c5b1
            try clear c6
            try clear p6
            try clear c11
            try clear c12
            try clear c13
            try clear c13b0
            try clear c14
            try clear c14b0
            try clear c14b1
            try clear p2
            try clear p6
            obtain ⟨x9_2, rfl, HA, HK2, HB⟩ := hrel
            cases gk with
            | zero => exact absurd HA.out (by simp [lockgatelaw03_BitmapOne.l0])
            | succ k2 =>
              have H := HA.out
              clear HA
              simp only [lockgatelaw03_BitmapOne.l0] at H
              by_cases c18 : x9_2 ≤ (wrap64 (8 * (t112.size : Int)))
              · rw [if_pos c18] at H
                have c18b0 : decide (x9_2 ≤ (wrap64 (8 * (t112.size : Int)))) = true := decide_eq_true c18
                clear c18
                by_cases c19 : x9_2 = (Int.tmod x6_10 (wrap64 (8 * (t112.size : Int))))
                · rw [if_pos c19] at H
                  have c19b0 : (x9_2 == (Int.tmod x6_10 (wrap64 (8 * (t112.size : Int))))) = true := beq_iff_eq.mpr c19
                  have c19b1 : (x9_2 != (Int.tmod x6_10 (wrap64 (8 * (t112.size : Int))))) = false := bne_eq_false_iff_eq.mpr c19
                  clear c19
                  have H' := Aside0.mk H
                  clear H
                  go_wp2
                  go_roundg k2
                  case measure => have := HJ10.out; have := HK2.out; omega
                  case rel => exact ⟨(wrap64 (x9_2 + 1)), (by first | rfl | (simp; done) | (simp [*]; done)), H', ⟨by have := HJ10.out; have := HK2.out; omega⟩, ⟨by repeat (first | (with_reducible first | exact HB.out | apply below_alloc | apply pw_below_drewN | apply below_drew1) | exact HB.out)⟩⟩
                · rw [if_neg c19] at H
                  have c19b0 : (x9_2 == (Int.tmod x6_10 (wrap64 (8 * (t112.size : Int))))) = false := beq_eq_false_iff_ne.mpr c19
                  have c19b1 : (x9_2 != (Int.tmod x6_10 (wrap64 (8 * (t112.size : Int))))) = true := bne_iff_ne.mpr c19
                  replace H := Option.bind_eq_some_iff.mp H
                  obtain ⟨t116, A200, H⟩ := H
                  replace H : ((bitmap_Has.f t112 x9_2).bind fun t117 => (if (t116 != t117) = true then (some false) else (lockgatelaw03_BitmapOne.l0 k2 t112 t111 (Int.tmod x6_10 (wrap64 (8 * (t112.size : Int)))) t114 t115 (wrap64 (x9_2 + 1))))) = some r := H
                  have A20 := Aside0.mk A200
                  clear A200
                  replace H := Option.bind_eq_some_iff.mp H
                  obtain ⟨t117, A210, H⟩ := H
                  replace H : (if (t116 != t117) = true then (some false) else (lockgatelaw03_BitmapOne.l0 k2 t112 t111 (Int.tmod x6_10 (wrap64 (8 * (t112.size : Int)))) t114 t115 (wrap64 (x9_2 + 1)))) = some r := H
                  have A21 := Aside0.mk A210
                  clear A210
                  by_cases c22 : (t116 != t117) = true
                  · rw [if_pos c22] at H
                    have c22b0 : (t116 != t117) = true := c22
                    (try (have c22b1 : decide (t116 = t117) = false := by simpa using c22))
                    (try (have c22b2 : (t116 == t117) = false := by simpa using c22))
                    (try (have c22b3 : ¬ (t116 = t117) := by simpa using c22))
                    clear c22
                    obtain rfl := Option.some.inj H
                    go_wp2_with (first | (go_at_call 14; (with_reducible refine (bitmap_Has.calls t115 x9_2 t116 _ A20.out).mono ?_); rintro e w' ⟨rfl, ⟨nd, rfl⟩⟩) | (go_at_call 14; (with_reducible refine (bitmap_Has.calls t112 x9_2 t117 _ A21.out).mono ?_); rintro e w' ⟨rfl, ⟨nd, rfl⟩⟩))
                    go_ret
                    exact ⟨by first | rfl | (simp [errW_none, errW_some] <;> rfl) | (simp [*, errW_none, errW_some] <;> rfl), by repeat (first | (with_reducible first | exact HB.out | apply below_alloc | apply pw_below_drewN | apply below_drew1) | exact HB.out)⟩
                  · rw [if_neg c22] at H
                    have c22b0 : (t116 != t117) = false := by simpa using c22
                    (try (have c22b1 : decide (t116 = t117) = true := by simpa using c22))
                    (try (have c22b2 : (t116 == t117) = true := by simpa using c22))
                    clear c22
                    have H' := Aside0.mk H
                    clear H
                    go_wp2_with (first | (go_at_call 14; (with_reducible refine (bitmap_Has.calls t115 x9_2 t116 _ A20.out).mono ?_); rintro e w' ⟨rfl, ⟨nd, rfl⟩⟩) | (go_at_call 14; (with_reducible refine (bitmap_Has.calls t112 x9_2 t117 _ A21.out).mono ?_); rintro e w' ⟨rfl, ⟨nd, rfl⟩⟩))
                    go_roundg k2
                    case measure => have := HJ10.out; have := HK2.out; omega
                    case rel => exact ⟨(wrap64 (x9_2 + 1)), (by first | rfl | (simp; done) | (simp [*]; done)), H', ⟨by have := HJ10.out; have := HK2.out; omega⟩, ⟨by repeat (first | (with_reducible first | exact HB.out | apply below_alloc | apply pw_below_drewN | apply below_drew1) | exact HB.out)⟩⟩
              · rw [if_neg c18] at H
                have c18b0 : decide (x9_2 ≤ (wrap64 (8 * (t112.size : Int)))) = false := decide_eq_false c18
                clear c18
                have HC23 := Aside0.mk H
                clear H
                go_upto_if 62 with (fail)
                go_cut [10] (fun v10 wc => ∃ (kq : Nat) (x10_22 : Int), v10 = .int .i64 x10_22 ∧ Aside0 (lockgatelaw03_BitmapOne.j2 kq t112 t111 (Int.tmod x6_10 (wrap64 (8 * (t112.size : Int)))) t114 t115 x10_22 = some r) ∧ Aside0 (kq ≤ k2) ∧ Aside0 (Below w.heap.size w wc))
                case first =>
                  have H := HC23.out
                  clear HC23
                  by_cases c24 : t114 = true
                  · subst c24
                    have H1 : (lockgatelaw03_BitmapOne.j2 k2 t112 t111 (Int.tmod x6_10 (wrap64 (8 * (t112.size : Int)))) true t115 (-1)) = some r := by rw [if_pos rfl] at H; exact H
                    clear H
                    have H := H1
                    clear H1
                    have H' := Aside0.mk H
                    clear H
                    go_wp2
                    go_meet
                    case rel => exact ⟨_, ((-1)), (by first | rfl | (simp; done) | (simp [*]; done)), H', ⟨by have := HJ10.out; have := HK2.out; first | omega | exact Nat.le_refl _⟩, ⟨by repeat (first | (with_reducible first | exact HB.out | apply below_alloc | apply pw_below_drewN | apply below_drew1) | exact HB.out)⟩⟩
                  · replace c24 := Bool.eq_false_iff.mpr c24
                    subst c24
                    have H1 : (lockgatelaw03_BitmapOne.j2 k2 t112 t111 (Int.tmod x6_10 (wrap64 (8 * (t112.size : Int)))) false t115 1) = some r := by rw [if_neg (show ¬ (false = true) by decide)] at H; exact H
                    clear H
                    have H := H1
                    clear H1
                    have H' := Aside0.mk H
                    clear H
                    go_wp2
                    go_meet
                    case rel => exact ⟨_, (1), (by first | rfl | (simp; done) | (simp [*]; done)), H', ⟨by have := HJ10.out; have := HK2.out; first | omega | exact Nat.le_refl _⟩, ⟨by repeat (first | (with_reducible first | exact HB.out | apply below_alloc | apply pw_below_drewN | apply below_drew1) | exact HB.out)⟩⟩
                case rest =>
                  clear HC23
                  try clear c1
                  try clear c2
                  try clear p2
                  try clear c3
                  try clear c5
                  try clear c5b0
                  try clear c5b1
                  try clear c6
                  try clear p6
                  try clear c11
                  try clear c12
                  try clear c13
                  try clear c13b0
                  try clear c14
                  try clear c14b0
                  try clear c14b1
                  try clear c18
                  try clear c18b0
                  try clear c19
                  try clear c19b0
                  try clear c19b1
                  try clear c22
                  try clear c22b0
                  try clear c22b1
                  try clear c22b2
                  try clear c24
                  try clear p2
                  try clear p6
                  obtain ⟨kq, x10_22, rfl, HA, HJ22, HB⟩ := hcut
                  cases kq with
                  | zero => exact absurd HA.out (by simp [lockgatelaw03_BitmapOne.j2])
                  | succ kj22 =>
                    have H := HA.out
                    clear HA
                    simp only [lockgatelaw03_BitmapOne.j2] at H
                    by_cases c25 : t111 = true
                    · subst c25
                      have H1 : ((bitmap_Has.f t115 (Int.tmod x6_10 (wrap64 (8 * (t112.size : Int))))).bind fun t118 => (if (t118 == (!t114)) = true then ((bitmap_Count.f kj22 t115).bind fun t119 => ((bitmap_Count.f kj22 t112).bind fun t120 => (if t119 = (wrap64 (t120 + x10_22)) then ((bitmap_Set.f t115 (Int.tmod x6_10 (wrap64 (8 * (t112.size : Int)))) t114).bind fun t121 => (if t121.toList = t112.toList then ((bitmap_Set.f t112 (Int.tmod x6_10 (wrap64 (8 * (t112.size : Int)))) t114).bind fun t122 => (some (t122.toList == t112.toList))) else (some false))) else (some false)))) else (some false))) = some r := by rw [if_pos rfl] at H; exact H
                      clear H
                      have H := H1
                      clear H1
                      replace H := Option.bind_eq_some_iff.mp H
                      obtain ⟨t118, A260, H⟩ := H
                      replace H : (if (t118 == (!t114)) = true then ((bitmap_Count.f kj22 t115).bind fun t119 => ((bitmap_Count.f kj22 t112).bind fun t120 => (if t119 = (wrap64 (t120 + x10_22)) then ((bitmap_Set.f t115 (Int.tmod x6_10 (wrap64 (8 * (t112.size : Int)))) t114).bind fun t121 => (if t121.toList = t112.toList then ((bitmap_Set.f t112 (Int.tmod x6_10 (wrap64 (8 * (t112.size : Int)))) t114).bind fun t122 => (some (t122.toList == t112.toList))) else (some false))) else (some false)))) else (some false)) = some r := H
                      have A26 := Aside0.mk A260
                      clear A260
                      by_cases c27 : (t118 == (!t114)) = true
                      · rw [if_pos c27] at H
                        have c27b0 : (t118 == (!t114)) = true := c27
                        (try (have c27b1 : decide (t118 = (!t114)) = true := by simpa using c27))
                        (try (have c27b2 : (t118 == (!t114)) = true := by simpa using c27))
                        clear c27
                        replace H := Option.bind_eq_some_iff.mp H
                        obtain ⟨t119, A280, H⟩ := H
                        replace H : ((bitmap_Count.f kj22 t112).bind fun t120 => (if t119 = (wrap64 (t120 + x10_22)) then ((bitmap_Set.f t115 (Int.tmod x6_10 (wrap64 (8 * (t112.size : Int)))) t114).bind fun t121 => (if t121.toList = t112.toList then ((bitmap_Set.f t112 (Int.tmod x6_10 (wrap64 (8 * (t112.size : Int)))) t114).bind fun t122 => (some (t122.toList == t112.toList))) else (some false))) else (some false))) = some r := H
                        have A28 := Aside0.mk A280
                        clear A280
                        replace H := Option.bind_eq_some_iff.mp H
                        obtain ⟨t120, A290, H⟩ := H
                        replace H : (if t119 = (wrap64 (t120 + x10_22)) then ((bitmap_Set.f t115 (Int.tmod x6_10 (wrap64 (8 * (t112.size : Int)))) t114).bind fun t121 => (if t121.toList = t112.toList then ((bitmap_Set.f t112 (Int.tmod x6_10 (wrap64 (8 * (t112.size : Int)))) t114).bind fun t122 => (some (t122.toList == t112.toList))) else (some false))) else (some false)) = some r := H
                        have A29 := Aside0.mk A290
                        clear A290
                        by_cases c30 : t119 = (wrap64 (t120 + x10_22))
                        · rw [if_pos c30] at H
                          have c30b0 : (t119 == (wrap64 (t120 + x10_22))) = true := beq_iff_eq.mpr c30
                          have c30b1 : (t119 != (wrap64 (t120 + x10_22))) = false := bne_eq_false_iff_eq.mpr c30
                          clear c30
                          replace H := Option.bind_eq_some_iff.mp H
                          obtain ⟨t121, A310, H⟩ := H
                          replace H : (if t121.toList = t112.toList then ((bitmap_Set.f t112 (Int.tmod x6_10 (wrap64 (8 * (t112.size : Int)))) t114).bind fun t122 => (some (t122.toList == t112.toList))) else (some false)) = some r := H
                          have A31 := Aside0.mk A310
                          clear A310
                          by_cases c32 : t121.toList = t112.toList
                          · rw [if_pos c32] at H
                            have c32b0 : (t121.toList == t112.toList) = true := beq_iff_eq.mpr c32
                            have c32b1 : (t121.toList != t112.toList) = false := bne_eq_false_iff_eq.mpr c32
                            clear c32
                            replace H := Option.bind_eq_some_iff.mp H
                            obtain ⟨t122, A330, H⟩ := H
                            replace H : (some (t122.toList == t112.toList)) = some r := H
                            have A33 := Aside0.mk A330
                            clear A330
                            obtain rfl := Option.some.inj H
                            go_wp2_with (first | (go_at_call 14; (with_reducible refine (bitmap_Has.calls t115 (Int.tmod x6_10 (wrap64 (8 * (t112.size : Int)))) t118 _ A26.out).mono ?_); rintro e w' ⟨rfl, ⟨nd, rfl⟩⟩) | (go_at_call 15; (with_reducible refine (bitmap_Count.calls kj22 t115 t119 _ A28.out).mono ?_); rintro e w34 ⟨rfl, hb⟩; have n0_ := Aside0.mk (below_step (by repeat (first | (with_reducible first | exact HB.out | apply below_alloc | apply pw_below_drewN | apply below_drew1) | exact HB.out)) hb); clear HB; have HB := n0_; clear n0_; (try clear hb); (try clear hb2); (try clear hk); (try clear hi)) | (go_at_call 15; (with_reducible refine (bitmap_Count.calls kj22 t112 t120 _ A29.out).mono ?_); rintro e w35 ⟨rfl, hb⟩; have n0_ := Aside0.mk (below_step (by repeat (first | (with_reducible first | exact HB.out | apply below_alloc | apply pw_below_drewN | apply below_drew1) | exact HB.out)) hb); clear HB; have HB := n0_; clear n0_; (try clear hb); (try clear hb2); (try clear hk); (try clear hi)) | (go_at_call 13; (with_reducible refine (bitmap_Set.calls t115 (Int.tmod x6_10 (wrap64 (8 * (t112.size : Int)))) t114 t121 _ A31.out).mono ?_); rintro e w36 ⟨rfl, hb⟩; have n0_ := Aside0.mk (below_step (by repeat (first | (with_reducible first | exact HB.out | apply below_alloc | apply pw_below_drewN | apply below_drew1) | exact HB.out)) hb); clear HB; have HB := n0_; clear n0_; (try clear hb); (try clear hb2); (try clear hk); (try clear hi)) | (go_at_call 13; (with_reducible refine (bitmap_Set.calls t112 (Int.tmod x6_10 (wrap64 (8 * (t112.size : Int)))) t114 t122 _ A33.out).mono ?_); rintro e w37 ⟨rfl, hb⟩; have n0_ := Aside0.mk (below_step (by repeat (first | (with_reducible first | exact HB.out | apply below_alloc | apply pw_below_drewN | apply below_drew1) | exact HB.out)) hb); clear HB; have HB := n0_; clear n0_; (try clear hb); (try clear hb2); (try clear hk); (try clear hi)))
                            go_ret
                            exact ⟨by first | rfl | (simp [errW_none, errW_some] <;> rfl) | (simp [*, errW_none, errW_some] <;> rfl), by repeat (first | (with_reducible first | exact HB.out | apply below_alloc | apply pw_below_drewN | apply below_drew1) | exact HB.out)⟩
                          · rw [if_neg c32] at H
                            have c32b0 : (t121.toList == t112.toList) = false := beq_eq_false_iff_ne.mpr c32
                            have c32b1 : (t121.toList != t112.toList) = true := bne_iff_ne.mpr c32
                            obtain rfl := Option.some.inj H
                            go_wp2_with (first | (go_at_call 14; (with_reducible refine (bitmap_Has.calls t115 (Int.tmod x6_10 (wrap64 (8 * (t112.size : Int)))) t118 _ A26.out).mono ?_); rintro e w' ⟨rfl, ⟨nd, rfl⟩⟩) | (go_at_call 15; (with_reducible refine (bitmap_Count.calls kj22 t115 t119 _ A28.out).mono ?_); rintro e w38 ⟨rfl, hb⟩; have n0_ := Aside0.mk (below_step (by repeat (first | (with_reducible first | exact HB.out | apply below_alloc | apply pw_below_drewN | apply below_drew1) | exact HB.out)) hb); clear HB; have HB := n0_; clear n0_; (try clear hb); (try clear hb2); (try clear hk); (try clear hi)) | (go_at_call 15; (with_reducible refine (bitmap_Count.calls kj22 t112 t120 _ A29.out).mono ?_); rintro e w39 ⟨rfl, hb⟩; have n0_ := Aside0.mk (below_step (by repeat (first | (with_reducible first | exact HB.out | apply below_alloc | apply pw_below_drewN | apply below_drew1) | exact HB.out)) hb); clear HB; have HB := n0_; clear n0_; (try clear hb); (try clear hb2); (try clear hk); (try clear hi)) | (go_at_call 13; (with_reducible refine (bitmap_Set.calls t115 (Int.tmod x6_10 (wrap64 (8 * (t112.size : Int)))) t114 t121 _ A31.out).mono ?_); rintro e w40 ⟨rfl, hb⟩; have n0_ := Aside0.mk (below_step (by repeat (first | (with_reducible first | exact HB.out | apply below_alloc | apply pw_below_drewN | apply below_drew1) | exact HB.out)) hb); clear HB; have HB := n0_; clear n0_; (try clear hb); (try clear hb2); (try clear hk); (try clear hi)))
                            go_ret
                            exact ⟨by first | rfl | (simp [errW_none, errW_some] <;> rfl) | (simp [*, errW_none, errW_some] <;> rfl), by repeat (first | (with_reducible first | exact HB.out | apply below_alloc | apply pw_below_drewN | apply below_drew1) | exact HB.out)⟩
                        · rw [if_neg c30] at H
                          have c30b0 : (t119 == (wrap64 (t120 + x10_22))) = false := beq_eq_false_iff_ne.mpr c30
                          have c30b1 : (t119 != (wrap64 (t120 + x10_22))) = true := bne_iff_ne.mpr c30
                          obtain rfl := Option.some.inj H
                          go_wp2_with (first | (go_at_call 14; (with_reducible refine (bitmap_Has.calls t115 (Int.tmod x6_10 (wrap64 (8 * (t112.size : Int)))) t118 _ A26.out).mono ?_); rintro e w' ⟨rfl, ⟨nd, rfl⟩⟩) | (go_at_call 15; (with_reducible refine (bitmap_Count.calls kj22 t115 t119 _ A28.out).mono ?_); rintro e w41 ⟨rfl, hb⟩; have n0_ := Aside0.mk (below_step (by repeat (first | (with_reducible first | exact HB.out | apply below_alloc | apply pw_below_drewN | apply below_drew1) | exact HB.out)) hb); clear HB; have HB := n0_; clear n0_; (try clear hb); (try clear hb2); (try clear hk); (try clear hi)) | (go_at_call 15; (with_reducible refine (bitmap_Count.calls kj22 t112 t120 _ A29.out).mono ?_); rintro e w42 ⟨rfl, hb⟩; have n0_ := Aside0.mk (below_step (by repeat (first | (with_reducible first | exact HB.out | apply below_alloc | apply pw_below_drewN | apply below_drew1) | exact HB.out)) hb); clear HB; have HB := n0_; clear n0_; (try clear hb); (try clear hb2); (try clear hk); (try clear hi)))
                          go_ret
                          exact ⟨by first | rfl | (simp [errW_none, errW_some] <;> rfl) | (simp [*, errW_none, errW_some] <;> rfl), by repeat (first | (with_reducible first | exact HB.out | apply below_alloc | apply pw_below_drewN | apply below_drew1) | exact HB.out)⟩
                      · rw [if_neg c27] at H
                        have c27b0 : (t118 == (!t114)) = false := by simpa using c27
                        (try (have c27b1 : decide (t118 = (!t114)) = false := by simpa using c27))
                        (try (have c27b2 : (t118 == (!t114)) = false := by simpa using c27))
                        (try (have c27b3 : ¬ (t118 = (!t114)) := by simpa using c27))
                        clear c27
                        obtain rfl := Option.some.inj H
                        go_wp2_with (first | (go_at_call 14; (with_reducible refine (bitmap_Has.calls t115 (Int.tmod x6_10 (wrap64 (8 * (t112.size : Int)))) t118 _ A26.out).mono ?_); rintro e w' ⟨rfl, ⟨nd, rfl⟩⟩))
                        go_ret
                        exact ⟨by first | rfl | (simp [errW_none, errW_some] <;> rfl) | (simp [*, errW_none, errW_some] <;> rfl), by repeat (first | (with_reducible first | exact HB.out | apply below_alloc | apply pw_below_drewN | apply below_drew1) | exact HB.out)⟩
                    · replace c25 := Bool.eq_false_iff.mpr c25
                      subst c25
                      have H1 : (some false) = some r := by rw [if_neg (show ¬ (false = true) by decide)] at H; exact H
                      clear H
                      have H := H1
                      clear H1
                      obtain rfl := Option.some.inj H
                      go_wp2
                      go_ret
                      exact ⟨by first | rfl | (simp [errW_none, errW_some] <;> rfl) | (simp [*, errW_none, errW_some] <;> rfl), by repeat (first | (with_reducible first | exact HB.out | apply below_alloc | apply pw_below_drewN | apply below_drew1) | exact HB.out)⟩

/-- THE ONE PURE STATEMENT of lockgatelaw03_BitmapOne: yours. -/
def lockgatelaw03_BitmapOne.Pure : Prop := ∀ (a0 : ByteArray) (a1 : Int), a0.size ≤ 140737488351232 → (Lit.int .i64 a1).wf = true → ∃ k, lockgatelaw03_BitmapOne.f k a0 a1 = some true
theorem lockgatelaw03_BitmapOne.walk (P : lockgatelaw03_BitmapOne.Pure) (a0 : ByteArray) (a1 : Int) (w : World) (w0 : a0.size ≤ 140737488351232) (w1 : (Lit.int .i64 a1).wf = true) :
    Calls Try.prog 3 #[.string a0, .int .i64 a1] w fun e w' => e = .returned (.bool true) ∧ Below w.heap.size w w' := by
  obtain ⟨k, h⟩ := P a0 a1 w0 w1
  refine (lockgatelaw03_BitmapOne.calls k a0 a1 true w h).mono ?_
  rintro e w' ⟨rfl, hd⟩
  exact ⟨rfl, hd⟩

end Go.Proofs.Ytnibjclemfionaa.Q
