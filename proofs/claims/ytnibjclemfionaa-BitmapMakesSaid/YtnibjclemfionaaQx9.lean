-- Written by mp.py (a program of this repo, over the print) for this seat: functions, contracts, walks.
import Derived.Test.YtnibjclemfionaaQx0
import Derived.Test.YtnibjclemfionaaQx1
import Derived.Test.YtnibjclemfionaaQx4
namespace Go.Proofs.Ytnibjclemfionaa.Q
open Go.RowKit Go.Proofs.YtnibjclemfionaaW.PrintWords Go.Proofs.YtnibjclemfionaaW.PrintLast Go.Proofs.YtnibjclemfionaaW.PrintMore
attribute [local go_sem] max2_int min2_int max_two min_two max_three min_three max_four min_four   -- for this text's walks alone
set_option linter.unusedVariables false
set_option linter.unusedSimpArgs false

/-! ### lockgateref03_New: function 24 -/
def lockgateref03_New.l0 : Nat → Int → ByteArray → Int → Option (ByteArray)
  | 0, _, _, _ => none
  | k + 1, x0, x3, x4 => if x4 < x0 then (if x4 < 4000 then (if x3.size + 1 ≤ 9223372036854775807 then (lockgateref03_New.l0 k x0 (x3 ++ (⟨#[0]⟩ : ByteArray)) (wrap64 (x4 + 8))) else (none)) else (some x3)) else (some x3)
def lockgateref03_New.f (k : Nat) (a0 : Int) : Option (ByteArray) := lockgateref03_New.l0 k a0 (⟨#[]⟩ : ByteArray) 0
theorem lockgateref03_New.mono_l : ∀ k, (∀ y0 y1 y2, LeO (lockgateref03_New.l0 k y0 y1 y2) (lockgateref03_New.l0 (k + 1) y0 y1 y2))
  | 0 => fun _ _ _ r h => by simp [lockgateref03_New.l0] at h
  | k + 1 => by
    have ih0 := lockgateref03_New.mono_l k
    · intro y0 y1 y2
      unfold lockgateref03_New.l0
      repeat' first
      | (with_reducible exact ih0 _ _ _)
      | (with_reducible exact LeO.refl _)
      | (with_reducible exact LeO.none _)
      | (with_reducible refine LeO.ite ?_ ?_)
      | (with_reducible refine LeO.bind ?_ (fun _ => ?_))
      | exact ih0 _ _ _
      | exact LeO.none _
      | refine LeO.ite ?_ ?_
      | refine LeO.bind ?_ (fun _ => ?_)
theorem lockgateref03_New.mono : ∀ a0 k, LeO (lockgateref03_New.f k a0) (lockgateref03_New.f (k + 1) a0) := by
  intro a0 k
  have ih0 := lockgateref03_New.mono_l k
  unfold lockgateref03_New.f
  repeat' first
      | (with_reducible exact ih0 _ _ _)
      | (with_reducible exact LeO.refl _)
      | (with_reducible exact LeO.none _)
      | (with_reducible refine LeO.ite ?_ ?_)
      | (with_reducible refine LeO.bind ?_ (fun _ => ?_))
      | exact ih0 _ _ _
      | exact LeO.none _
      | refine LeO.ite ?_ ?_
      | refine LeO.bind ?_ (fun _ => ?_)
set_option maxHeartbeats 8000000 in
set_option maxRecDepth 100000 in
theorem lockgateref03_New.calls (k : Nat) (a0 : Int) (r : ByteArray) (w : World) (h : lockgateref03_New.f k a0 = some r) :
    Calls Try.prog 24 #[.int .i64 a0] w fun e w' => e = .returned (.string r) ∧ Drawn0 w w' := by
  have H : (lockgateref03_New.l0 k a0 (⟨#[]⟩ : ByteArray) 0) = some r := h
  clear h
  have H' := Aside0.mk H
  clear H
  go_enter Try.func24, Try.ntmps24
  go_wp2
  go_loopg [3, 4] k (fun kq v3 v4 w' => ∃ (x3_1 : ByteArray) (x4_1 : Int), v3 = .string x3_1 ∧ v4 = .int .i64 x4_1 ∧ Aside0 (lockgateref03_New.l0 kq a0 x3_1 x4_1 = some r) ∧ Aside0 (kq ≤ k) ∧ Drawn0 w w')
  case atStart => exact ⟨((⟨#[]⟩ : ByteArray)), (0), (by first | rfl | (simp; done) | (simp [*]; done)), (by first | rfl | (simp; done) | (simp [*]; done)), H', ⟨Nat.le_refl _⟩, by repeat (first | exact Drawn0.refl _ | apply Drawn0.step)⟩
  case round =>
    clear H'
    obtain ⟨x3_1, x4_1, rfl, rfl, HA, HK1, ⟨m1, rfl⟩⟩ := hrel
    cases gk with
    | zero => exact absurd HA.out (by simp [lockgateref03_New.l0])
    | succ k1 =>
      have H := HA.out
      clear HA
      simp only [lockgateref03_New.l0] at H
      by_cases c2 : x4_1 < a0
      · rw [if_pos c2] at H
        have c2b0 : decide (x4_1 < a0) = true := decide_eq_true c2
        clear c2
        by_cases c3 : x4_1 < 4000
        · rw [if_pos c3] at H
          have c3b0 : decide (x4_1 < 4000) = true := decide_eq_true c3
          clear c3
          by_cases c4 : x3_1.size + 1 ≤ 9223372036854775807
          · rw [if_pos c4] at H
            have c4b0 := eq_true c4
            have c4b1 : decide (x3_1.size + 1 ≤ 9223372036854775807) = true := decide_eq_true c4
            try have c4b2 : (9223372036854775807 < x3_1.size + 1) = False := eq_false (Nat.not_lt.2 c4)
            have H' := Aside0.mk H
            clear H
            go_wp2
            go_roundg k1
            case measure => have := HK1.out; omega
            case rel => exact ⟨(x3_1 ++ (⟨#[0]⟩ : ByteArray)), (wrap64 (x4_1 + 8)), (by first | rfl | (simp; done) | (simp [*]; done)), (by first | rfl | (simp; done) | (simp [*]; done)), H', ⟨by have := HK1.out; omega⟩, by repeat (first | exact Drawn0.refl _ | apply Drawn0.step)⟩
          · rw [if_neg c4] at H
            exact absurd H (by simp)
        · rw [if_neg c3] at H
          have c3b0 : decide (x4_1 < 4000) = false := decide_eq_false c3
          clear c3
          obtain rfl := Option.some.inj H
          go_wp2
          go_ret
          exact ⟨by first | rfl | (simp; done) | (simp [*]; done), by repeat (first | exact Drawn0.refl _ | apply Drawn0.step)⟩
      · rw [if_neg c2] at H
        have c2b0 : decide (x4_1 < a0) = false := decide_eq_false c2
        clear c2
        obtain rfl := Option.some.inj H
        go_wp2
        go_ret
        exact ⟨by first | rfl | (simp; done) | (simp [*]; done), by repeat (first | exact Drawn0.refl _ | apply Drawn0.step)⟩

/-! ### bitmap_Right: function 26 -/
def bitmap_Right.f (k : Nat) (a0 : ByteArray) (a1 : Int) : Option (Bool) := if a1 < 0 then (some false) else (if a1 > 4000 then (some false) else ((bitmap_size.f a1).bind fun t187 => (if (a0.size : Int) = t187 then ((bitmap_Each.f k a0).bind fun t188 => (if (t188.length : Int) = 0 then (some true) else (if 0 ≤ (wrap64 ((t188.length : Int) - 1)) then (if (wrap64 ((t188.length : Int) - 1)) < (t188.length : Int) then (some (decide ((rd t188 (wrap64 ((t188.length : Int) - 1))) < a1))) else (none)) else (none)))) else (some false))))
theorem bitmap_Right.mono : ∀ a0 a1 k, LeO (bitmap_Right.f k a0 a1) (bitmap_Right.f (k + 1) a0 a1) := by
  intro a0 a1 k
  unfold bitmap_Right.f
  repeat' first
      | (with_reducible exact bitmap_Each.mono _ _)
      | (with_reducible exact LeO.refl _)
      | (with_reducible exact LeO.none _)
      | (with_reducible refine LeO.ite ?_ ?_)
      | (with_reducible refine LeO.bind ?_ (fun _ => ?_))
      | exact bitmap_Each.mono _ _
      | exact LeO.none _
      | refine LeO.ite ?_ ?_
      | refine LeO.bind ?_ (fun _ => ?_)
set_option maxHeartbeats 8000000 in
set_option maxRecDepth 100000 in
theorem bitmap_Right.calls (k : Nat) (a0 : ByteArray) (a1 : Int) (r : Bool) (w : World) (h : bitmap_Right.f k a0 a1 = some r) :
    Calls Try.prog 26 #[.string a0, .int .i64 a1] w fun e w' => e = .returned (.bool r) ∧ Below w.heap.size w w' := by
  have HB := Aside0.mk (Below.refl w.heap.size w)
  have H : (if a1 < 0 then (some false) else (if a1 > 4000 then (some false) else ((bitmap_size.f a1).bind fun t187 => (if (a0.size : Int) = t187 then ((bitmap_Each.f k a0).bind fun t188 => (if (t188.length : Int) = 0 then (some true) else (if 0 ≤ (wrap64 ((t188.length : Int) - 1)) then (if (wrap64 ((t188.length : Int) - 1)) < (t188.length : Int) then (some (decide ((rd t188 (wrap64 ((t188.length : Int) - 1))) < a1))) else (none)) else (none)))) else (some false))))) = some r := h
  clear h
  by_cases c3 : a1 < 0
  · rw [if_pos c3] at H
    have c3b0 : decide (a1 < 0) = true := decide_eq_true c3
    clear c3
    obtain rfl := Option.some.inj H
    go_enter Try.func26, Try.ntmps26
    go_wp2
    go_ret
    exact ⟨by first | rfl | (simp [errW_none, errW_some] <;> rfl) | (simp [*, errW_none, errW_some] <;> rfl), by repeat (first | (with_reducible first | exact HB.out | apply below_alloc | apply pw_below_drewN | apply below_drew1) | exact HB.out)⟩
  · rw [if_neg c3] at H
    have c3b0 : decide (a1 < 0) = false := decide_eq_false c3
    clear c3
    by_cases c4 : a1 > 4000
    · rw [if_pos c4] at H
      have c4b0 : decide (4000 < a1) = true := decide_eq_true c4
      clear c4
      obtain rfl := Option.some.inj H
      go_enter Try.func26, Try.ntmps26
      go_wp2
      go_ret
      exact ⟨by first | rfl | (simp [errW_none, errW_some] <;> rfl) | (simp [*, errW_none, errW_some] <;> rfl), by repeat (first | (with_reducible first | exact HB.out | apply below_alloc | apply pw_below_drewN | apply below_drew1) | exact HB.out)⟩
    · rw [if_neg c4] at H
      have c4b0 : decide (4000 < a1) = false := decide_eq_false c4
      clear c4
      replace H := Option.bind_eq_some_iff.mp H
      obtain ⟨t187, A50, H⟩ := H
      replace H : (if (a0.size : Int) = t187 then ((bitmap_Each.f k a0).bind fun t188 => (if (t188.length : Int) = 0 then (some true) else (if 0 ≤ (wrap64 ((t188.length : Int) - 1)) then (if (wrap64 ((t188.length : Int) - 1)) < (t188.length : Int) then (some (decide ((rd t188 (wrap64 ((t188.length : Int) - 1))) < a1))) else (none)) else (none)))) else (some false)) = some r := H
      have A5 := Aside0.mk A50
      clear A50
      by_cases c6 : (a0.size : Int) = t187
      · rw [if_pos c6] at H
        have c6b0 : ((a0.size : Int) == t187) = true := beq_iff_eq.mpr c6
        have c6b1 : ((a0.size : Int) != t187) = false := bne_eq_false_iff_eq.mpr c6
        clear c6
        replace H := Option.bind_eq_some_iff.mp H
        obtain ⟨t188, A70, H⟩ := H
        replace H : (if (t188.length : Int) = 0 then (some true) else (if 0 ≤ (wrap64 ((t188.length : Int) - 1)) then (if (wrap64 ((t188.length : Int) - 1)) < (t188.length : Int) then (some (decide ((rd t188 (wrap64 ((t188.length : Int) - 1))) < a1))) else (none)) else (none))) = some r := H
        have A7 := Aside0.mk A70
        clear A70
        by_cases c8 : (t188.length : Int) = 0
        · rw [if_pos c8] at H
          have c8b0 : ((t188.length : Int) == 0) = true := beq_iff_eq.mpr c8
          have c8b1 : ((t188.length : Int) != 0) = false := bne_eq_false_iff_eq.mpr c8
          clear c8
          obtain rfl := Option.some.inj H
          go_enter Try.func26, Try.ntmps26
          go_wp2_with (first | (go_at_call 30; (with_reducible refine (bitmap_size.calls a1 t187 _ A5.out).mono ?_); rintro e w9 ⟨rfl, hb⟩; have n0_ := Aside0.mk (below_step (by repeat (first | (with_reducible first | exact HB.out | apply below_alloc | apply pw_below_drewN | apply below_drew1) | exact HB.out)) hb); clear HB; have HB := n0_; clear n0_; (try clear hb); (try clear hb2); (try clear hk); (try clear hi)) | ((with_reducible refine gate_callee (f := 19) rfl ?_); refine goesL_ (some 20) rfl rfl Try.func19 (by kernel_rfl) rfl #[.string a0] rfl (by (try simp only [List.map_toArray, List.map_cons, List.map_nil]); first | done | rfl | (simp only [List.length_drop, List.length_take]; rfl)) ?_; (with_reducible refine (bitmap_Each.calls k a0 t188 _ A7.out).mono ?_); rintro e w10 ⟨v189, rfl, ho0, hb⟩; refine ⟨_, rfl, ?_⟩; have n0_ := Aside0.mk (Kd.R_lower ho0 (below_size (by repeat (first | (with_reducible first | exact HB.out | apply below_alloc | apply pw_below_drewN | apply below_drew1) | exact HB.out)))); have n1_ := Aside0.mk (below_step (by repeat (first | (with_reducible first | exact HB.out | apply below_alloc | apply pw_below_drewN | apply below_drew1) | exact HB.out)) hb); clear HB; have HO190 := n0_; have HB := n1_; clear n0_ n1_; (try clear hb); (try clear hb2); (try clear hk); (try clear hi); (try clear ho0); obtain ⟨Ao11, co11, eo11⟩ := Kd.R_slice HO190.out; subst eo11))
          go_ret
          exact ⟨by first | rfl | (simp [errW_none, errW_some] <;> rfl) | (simp [*, errW_none, errW_some] <;> rfl), by repeat (first | (with_reducible first | exact HB.out | apply below_alloc | apply pw_below_drewN | apply below_drew1) | exact HB.out)⟩
        · rw [if_neg c8] at H
          have c8b0 : ((t188.length : Int) == 0) = false := beq_eq_false_iff_ne.mpr c8
          have c8b1 : ((t188.length : Int) != 0) = true := bne_iff_ne.mpr c8
          have c8b2 : ¬ (t188 = []) := fun h_ => c8 (by rw [h_]; rfl)
          obtain ⟨ji12, hji12⟩ : ∃ j_ : Int, (wrap64 ((t188.length : Int) - 1)) = j_ := ⟨_, rfl⟩
          replace H : (if 0 ≤ (ji12) then (if (ji12) < (t188.length : Int) then (some (decide ((rd t188 (ji12)) < a1))) else (none)) else (none)) = some r := by first | (rw [hji12] at H; exact H) | (simp only [hji12] at H ⊢; exact H)
          (try rw [hji12] at A5)
          (try rw [hji12] at A7)
          have hji12w : (IntKind.i64.wrap ((t188.length : Int) - 1)) = ji12 := (i64_w _).trans hji12
          by_cases c13 : 0 ≤ (ji12)
          · rw [if_pos c13] at H
            have c13b0 : decide (0 ≤ (ji12)) = true := decide_eq_true c13
            clear c13
            by_cases c14 : (ji12) < (t188.length : Int)
            · rw [if_pos c14] at H
              have c14b0 : decide ((ji12) < (t188.length : Int)) = true := decide_eq_true c14
              clear c14
              obtain rfl := Option.some.inj H
              go_enter Try.func26, Try.ntmps26
              go_wp2_with (first | (go_at_call 30; (with_reducible refine (bitmap_size.calls a1 t187 _ A5.out).mono ?_); rintro e w15 ⟨rfl, hb⟩; have n0_ := Aside0.mk (below_step (by repeat (first | (with_reducible first | exact HB.out | apply below_alloc | apply pw_below_drewN | apply below_drew1) | exact HB.out)) hb); clear HB; have HB := n0_; clear n0_; (try clear hb); (try clear hb2); (try clear hk); (try clear hi)) | ((with_reducible refine gate_callee (f := 19) rfl ?_); refine goesL_ (some 20) rfl rfl Try.func19 (by kernel_rfl) rfl #[.string a0] rfl (by (try simp only [List.map_toArray, List.map_cons, List.map_nil]); first | done | rfl | (simp only [List.length_drop, List.length_take]; rfl)) ?_; (with_reducible refine (bitmap_Each.calls k a0 t188 _ A7.out).mono ?_); rintro e w16 ⟨v189, rfl, ho0, hb⟩; refine ⟨_, rfl, ?_⟩; have n0_ := Aside0.mk (Kd.R_lower ho0 (below_size (by repeat (first | (with_reducible first | exact HB.out | apply below_alloc | apply pw_below_drewN | apply below_drew1) | exact HB.out)))); have n1_ := Aside0.mk (below_step (by repeat (first | (with_reducible first | exact HB.out | apply below_alloc | apply pw_below_drewN | apply below_drew1) | exact HB.out)) hb); clear HB; have HO190 := n0_; have HB := n1_; clear n0_ n1_; (try clear hb); (try clear hb2); (try clear hk); (try clear hi); (try clear ho0); obtain ⟨Ao17, co17, eo17⟩ := Kd.R_slice HO190.out; subst eo17; have p191 : 0 ≤ ((ji12) : Int) := of_decide_eq_true (by first | (with_reducible assumption) | assumption); have q191 : (ji12) < (t188.length : Int) := of_decide_eq_true (by first | (with_reducible assumption) | assumption); obtain ⟨ad191, e191, hx191_0⟩ := Kd.at_int (Kd.R_reads' HO190.out).2.2 (ji12) p191 q191; cases e191; replace p191 := eq_true p191; replace q191 := eq_true q191))
              go_ret
              exact ⟨by first | rfl | (simp [errW_none, errW_some] <;> rfl) | (simp only [← hji12]; first | rfl | (simp [errW_none, errW_some] <;> rfl)) | (simp [*, errW_none, errW_some] <;> rfl), by repeat (first | (with_reducible first | exact HB.out | apply below_alloc | apply pw_below_drewN | apply below_drew1) | exact HB.out)⟩
            · rw [if_neg c14] at H
              exact absurd H (by simp)
          · rw [if_neg c13] at H
            exact absurd H (by simp)
      · rw [if_neg c6] at H
        have c6b0 : ((a0.size : Int) == t187) = false := beq_eq_false_iff_ne.mpr c6
        have c6b1 : ((a0.size : Int) != t187) = true := bne_iff_ne.mpr c6
        obtain rfl := Option.some.inj H
        go_enter Try.func26, Try.ntmps26
        go_wp2_with (first | (go_at_call 30; (with_reducible refine (bitmap_size.calls a1 t187 _ A5.out).mono ?_); rintro e w18 ⟨rfl, hb⟩; have n0_ := Aside0.mk (below_step (by repeat (first | (with_reducible first | exact HB.out | apply below_alloc | apply pw_below_drewN | apply below_drew1) | exact HB.out)) hb); clear HB; have HB := n0_; clear n0_; (try clear hb); (try clear hb2); (try clear hk); (try clear hi)))
        go_ret
        exact ⟨by first | rfl | (simp [errW_none, errW_some] <;> rfl) | (simp [*, errW_none, errW_some] <;> rfl), by repeat (first | (with_reducible first | exact HB.out | apply below_alloc | apply pw_below_drewN | apply below_drew1) | exact HB.out)⟩

/-! ### lockgateref03_Right: function 27 -/
mutual
def lockgateref03_Right.j0 : Nat → ByteArray → Int → Bool → Option (Bool)
  | 0, _, _, _ => none
  | k + 1, x0, x1, x20 => if x20 = true then (some false) else (lockgateref03_Right.l0 k x0 x1)
def lockgateref03_Right.l0 : Nat → ByteArray → Int → Option (Bool)
  | 0, _, _ => none
  | k + 1, x0, x5 => if x5 < (wrap64 (8 * (x0.size : Int))) then ((lockgateref03_Has.f k x0 x5).bind fun t193 => (if t193 = true then (some false) else (lockgateref03_Right.l0 k x0 (wrap64 (x5 + 1))))) else (some true)
end
def lockgateref03_Right.f (k : Nat) (a0 : ByteArray) (a1 : Int) : Option (Bool) := if a1 < 0 then (lockgateref03_Right.j0 k a0 a1 true) else (if a1 > 4000 then (lockgateref03_Right.j0 k a0 a1 true) else ((lockgateref03_New.f k a1).bind fun t192 => (lockgateref03_Right.j0 k a0 a1 ((a0.size : Int) != (t192.size : Int)))))
theorem lockgateref03_Right.mono_l : ∀ k, (∀ y0 y1 y2, LeO (lockgateref03_Right.j0 k y0 y1 y2) (lockgateref03_Right.j0 (k + 1) y0 y1 y2)) ∧ (∀ y0 y1, LeO (lockgateref03_Right.l0 k y0 y1) (lockgateref03_Right.l0 (k + 1) y0 y1))
  | 0 => ⟨fun _ _ _ r h => by simp [lockgateref03_Right.j0] at h, fun _ _ r h => by simp [lockgateref03_Right.l0] at h⟩
  | k + 1 => by
    obtain ⟨ih0, ih1⟩ := lockgateref03_Right.mono_l k
    refine ⟨?_, ?_⟩
    · intro y0 y1 y2
      unfold lockgateref03_Right.j0
      repeat' first
      | (with_reducible exact ih0 _ _ _)
      | (with_reducible exact ih1 _ _)
      | (with_reducible exact lockgateref03_Has.mono _ _ _)
      | (with_reducible exact lockgateref03_New.mono _ _)
      | (with_reducible exact LeO.refl _)
      | (with_reducible exact LeO.none _)
      | (with_reducible refine LeO.ite ?_ ?_)
      | (with_reducible refine LeO.bind ?_ (fun _ => ?_))
      | exact ih0 _ _ _
      | exact ih1 _ _
      | exact lockgateref03_Has.mono _ _ _
      | exact lockgateref03_New.mono _ _
      | exact LeO.none _
      | refine LeO.ite ?_ ?_
      | refine LeO.bind ?_ (fun _ => ?_)
    · intro y0 y1
      unfold lockgateref03_Right.l0
      repeat' first
      | (with_reducible exact ih0 _ _ _)
      | (with_reducible exact ih1 _ _)
      | (with_reducible exact lockgateref03_Has.mono _ _ _)
      | (with_reducible exact lockgateref03_New.mono _ _)
      | (with_reducible exact LeO.refl _)
      | (with_reducible exact LeO.none _)
      | (with_reducible refine LeO.ite ?_ ?_)
      | (with_reducible refine LeO.bind ?_ (fun _ => ?_))
      | exact ih0 _ _ _
      | exact ih1 _ _
      | exact lockgateref03_Has.mono _ _ _
      | exact lockgateref03_New.mono _ _
      | exact LeO.none _
      | refine LeO.ite ?_ ?_
      | refine LeO.bind ?_ (fun _ => ?_)
theorem lockgateref03_Right.mono : ∀ a0 a1 k, LeO (lockgateref03_Right.f k a0 a1) (lockgateref03_Right.f (k + 1) a0 a1) := by
  intro a0 a1 k
  obtain ⟨ih0, ih1⟩ := lockgateref03_Right.mono_l k
  unfold lockgateref03_Right.f
  repeat' first
      | (with_reducible exact ih0 _ _ _)
      | (with_reducible exact ih1 _ _)
      | (with_reducible exact lockgateref03_Has.mono _ _ _)
      | (with_reducible exact lockgateref03_New.mono _ _)
      | (with_reducible exact LeO.refl _)
      | (with_reducible exact LeO.none _)
      | (with_reducible refine LeO.ite ?_ ?_)
      | (with_reducible refine LeO.bind ?_ (fun _ => ?_))
      | exact ih0 _ _ _
      | exact ih1 _ _
      | exact lockgateref03_Has.mono _ _ _
      | exact lockgateref03_New.mono _ _
      | exact LeO.none _
      | refine LeO.ite ?_ ?_
      | refine LeO.bind ?_ (fun _ => ?_)
set_option maxHeartbeats 8000000 in
set_option maxRecDepth 100000 in
theorem lockgateref03_Right.calls (k : Nat) (a0 : ByteArray) (a1 : Int) (r : Bool) (w : World) (h : lockgateref03_Right.f k a0 a1 = some r) :
    Calls Try.prog 27 #[.string a0, .int .i64 a1] w fun e w' => e = .returned (.bool r) ∧ Drawn0 w w' := by
  have H : (if a1 < 0 then (lockgateref03_Right.j0 k a0 a1 true) else (if a1 > 4000 then (lockgateref03_Right.j0 k a0 a1 true) else ((lockgateref03_New.f k a1).bind fun t192 => (lockgateref03_Right.j0 k a0 a1 ((a0.size : Int) != (t192.size : Int)))))) = some r := h
  clear h
  have HC3 := Aside0.mk H
  clear H
  go_enter Try.func27, Try.ntmps27
  go_upto_region 1 with (fail)
  go_cut [20] (fun v20 wc => ∃ (kq : Nat) (x20_2 : Bool), v20 = .bool x20_2 ∧ Aside0 (lockgateref03_Right.j0 kq a0 a1 x20_2 = some r) ∧ Aside0 (kq ≤ k) ∧ Drawn0 w wc)
  case first =>
    have H := HC3.out
    clear HC3
    by_cases c4 : a1 < 0
    · rw [if_pos c4] at H
      have c4b0 : decide (a1 < 0) = true := decide_eq_true c4
      clear c4
      (first | rw [c4b0] | (simp only [i64_w, i32_w]; rw [c4b0]) | skip)
      have H' := Aside0.mk H
      clear H
      go_wp2
      go_meet
      case rel => exact ⟨_, (true), (by first | rfl | (simp; done) | (simp [*]; done)), H', ⟨by first | omega | exact Nat.le_refl _⟩, by repeat (first | exact Drawn0.refl _ | apply Drawn0.step)⟩
    · rw [if_neg c4] at H
      have c4b0 : decide (a1 < 0) = false := decide_eq_false c4
      clear c4
      (first | rw [c4b0] | (simp only [i64_w, i32_w]; rw [c4b0]) | skip)
      by_cases c5 : a1 > 4000
      · rw [if_pos c5] at H
        have c5b0 : decide (4000 < a1) = true := decide_eq_true c5
        clear c5
        have H' := Aside0.mk H
        clear H
        go_wp2
        go_meet
        case rel => exact ⟨_, (true), (by first | rfl | (simp; done) | (simp [*]; done)), H', ⟨by first | omega | exact Nat.le_refl _⟩, by repeat (first | exact Drawn0.refl _ | apply Drawn0.step)⟩
      · rw [if_neg c5] at H
        have c5b0 : decide (4000 < a1) = false := decide_eq_false c5
        clear c5
        replace H := Option.bind_eq_some_iff.mp H
        obtain ⟨t192, A60, H⟩ := H
        replace H : (lockgateref03_Right.j0 k a0 a1 ((a0.size : Int) != (t192.size : Int))) = some r := H
        have A6 := Aside0.mk A60
        clear A60
        have H' := Aside0.mk H
        clear H
        go_wp2_with (first | (go_at_call 24; (with_reducible refine (lockgateref03_New.calls k a1 t192 _ A6.out).mono ?_); rintro e w' ⟨rfl, ⟨nd, rfl⟩⟩))
        go_meet
        case rel => exact ⟨_, (((a0.size : Int) != (t192.size : Int))), (by first | rfl | (simp; done) | (simp [*]; done)), H', ⟨by first | omega | exact Nat.le_refl _⟩, by repeat (first | exact Drawn0.refl _ | apply Drawn0.step)⟩
  case rest =>
    clear HC3
    try clear c2
    try clear p2
    try clear c4
    try clear c4b0
    try clear c5
    try clear c5b0
    obtain ⟨kq, x20_2, rfl, HA, HJ2, ⟨mc2, rfl⟩⟩ := hcut
    cases kq with
    | zero => exact absurd HA.out (by simp [lockgateref03_Right.j0])
    | succ kj2 =>
      have H := HA.out
      clear HA
      simp only [lockgateref03_Right.j0] at H
      by_cases c7 : x20_2 = true
      · subst c7
        have H1 : (some false) = some r := by rw [if_pos rfl] at H; exact H
        clear H
        have H := H1
        clear H1
        obtain rfl := Option.some.inj H
        go_wp2
        go_ret
        exact ⟨by first | rfl | (simp; done) | (simp [*]; done), by repeat (first | exact Drawn0.refl _ | apply Drawn0.step)⟩
      · replace c7 := Bool.eq_false_iff.mpr c7
        subst c7
        have H1 : (lockgateref03_Right.l0 kj2 a0 a1) = some r := by rw [if_neg (show ¬ (false = true) by decide)] at H; exact H
        clear H
        have H := H1
        clear H1
        have H' := Aside0.mk H
        clear H
        go_wp2
        go_loopg [5] kj2 (fun kq v5 w' => ∃ (x5_2 : Int), v5 = .int .i64 x5_2 ∧ Aside0 (lockgateref03_Right.l0 kq a0 x5_2 = some r) ∧ Aside0 (kq ≤ kj2) ∧ Drawn0 w w')
        case atStart => exact ⟨(a1), (by first | rfl | (simp; done) | (simp [*]; done)), H', ⟨Nat.le_refl _⟩, by repeat (first | exact Drawn0.refl _ | apply Drawn0.step)⟩
        case round =>
          clear H'
          try clear c2
          try clear p2
          try clear c4
          try clear c4b0
          try clear c5
          try clear c5b0
          try clear c7
          try clear p2
          obtain ⟨x5_2, rfl, HA, HK2, ⟨m2, rfl⟩⟩ := hrel
          cases gk with
          | zero => exact absurd HA.out (by simp [lockgateref03_Right.l0])
          | succ k2 =>
            have H := HA.out
            clear HA
            simp only [lockgateref03_Right.l0] at H
            by_cases c8 : x5_2 < (wrap64 (8 * (a0.size : Int)))
            · rw [if_pos c8] at H
              have c8b0 : decide (x5_2 < (wrap64 (8 * (a0.size : Int)))) = true := decide_eq_true c8
              clear c8
              replace H := Option.bind_eq_some_iff.mp H
              obtain ⟨t193, A90, H⟩ := H
              replace H : (if t193 = true then (some false) else (lockgateref03_Right.l0 k2 a0 (wrap64 (x5_2 + 1)))) = some r := H
              have A9 := Aside0.mk A90
              clear A90
              by_cases c10 : t193 = true
              · subst c10
                have H1 : (some false) = some r := by rw [if_pos rfl] at H; exact H
                clear H
                have H := H1
                clear H1
                obtain rfl := Option.some.inj H
                go_wp2_with (first | ((with_reducible refine gate_callee (f := 20) rfl ?_); refine goesL_ (some 31) rfl rfl Try.func20 (by kernel_rfl) rfl #[.string a0, .int .i64 x5_2] rfl (by (try simp only [List.map_toArray, List.map_cons, List.map_nil]); first | done | rfl | (simp only [List.length_drop, List.length_take]; rfl)) ?_; (with_reducible refine (lockgateref03_Has.calls k2 a0 x5_2 true _ A9.out).mono ?_); rintro e w' ⟨rfl, ⟨nd, rfl⟩⟩; refine ⟨_, rfl, ?_⟩))
                go_ret
                exact ⟨by first | rfl | (simp; done) | (simp [*]; done), by repeat (first | exact Drawn0.refl _ | apply Drawn0.step)⟩
              · replace c10 := Bool.eq_false_iff.mpr c10
                subst c10
                have H1 : (lockgateref03_Right.l0 k2 a0 (wrap64 (x5_2 + 1))) = some r := by rw [if_neg (show ¬ (false = true) by decide)] at H; exact H
                clear H
                have H := H1
                clear H1
                have H' := Aside0.mk H
                clear H
                go_wp2_with (first | ((with_reducible refine gate_callee (f := 20) rfl ?_); refine goesL_ (some 31) rfl rfl Try.func20 (by kernel_rfl) rfl #[.string a0, .int .i64 x5_2] rfl (by (try simp only [List.map_toArray, List.map_cons, List.map_nil]); first | done | rfl | (simp only [List.length_drop, List.length_take]; rfl)) ?_; (with_reducible refine (lockgateref03_Has.calls k2 a0 x5_2 false _ A9.out).mono ?_); rintro e w' ⟨rfl, ⟨nd, rfl⟩⟩; refine ⟨_, rfl, ?_⟩))
                go_roundg k2
                case measure => have := HJ2.out; have := HK2.out; omega
                case rel => exact ⟨(wrap64 (x5_2 + 1)), (by first | rfl | (simp; done) | (simp [*]; done)), H', ⟨by have := HJ2.out; have := HK2.out; omega⟩, by repeat (first | exact Drawn0.refl _ | apply Drawn0.step)⟩
            · rw [if_neg c8] at H
              have c8b0 : decide (x5_2 < (wrap64 (8 * (a0.size : Int)))) = false := decide_eq_false c8
              clear c8
              obtain rfl := Option.some.inj H
              go_wp2
              go_ret
              exact ⟨by first | rfl | (simp; done) | (simp [*]; done), by repeat (first | exact Drawn0.refl _ | apply Drawn0.step)⟩

end Go.Proofs.Ytnibjclemfionaa.Q
