-- Written by mp.py (a program of this repo, over the print) for this seat: functions, contracts, walks.
import Derived.Test.YtgmbmkjdfmoanaaDoorQx0
import Derived.Test.YtgmbmkjdfmoanaaDoorQx6
namespace Go.Proofs.YtgmbmkjdfmoanaaDoor.Q
open Go.RowKit Go.Proofs.YtgmbmkjdfmoanaaDoorW.PrintWords Go.Proofs.YtgmbmkjdfmoanaaDoorW.PrintLast Go.Proofs.YtgmbmkjdfmoanaaDoorW.PrintMore
attribute [local go_sem] max2_int min2_int max_two min_two max_three min_three max_four min_four   -- for this text's walks alone
set_option linter.unusedVariables false
set_option linter.unusedSimpArgs false

/-! ### lockgateref15_Right: function 37 -/
def lockgateref15_Right.l0 : Nat → List (S43) → Int → Option (Bool)
  | 0, _, _ => none
  | k + 1, x0, x3 => if x3 < (x0.length : Int) then (if 0 ≤ x3 then ((lockgateref15_Name.f k ((rd_T43 x0 x3).f0)).bind fun t220 => (if t220 = true then (if ((rd_T43 x0 x3).f1) < 0 then (some false) else (if ((rd_T43 x0 x3).f1) > 65535 then (some false) else (if x3 > 0 then (if 0 ≤ (wrap64 (x3 - 1)) then (if (wrap64 (x3 - 1)) < (x0.length : Int) then (if ((Op.bytesLess (((rd_T43 x0 (wrap64 (x3 - 1))).f0).toList) (((rd_T43 x0 x3).f0).toList)) = true) then (lockgateref15_Right.l0 k x0 (wrap64 (x3 + 1))) else (some false)) else (none)) else (none)) else (lockgateref15_Right.l0 k x0 (wrap64 (x3 + 1)))))) else (some false))) else (none)) else (some true)
def lockgateref15_Right.f (k : Nat) (l0 : List (S43)) : Option (Bool) := lockgateref15_Right.l0 k l0 0
theorem lockgateref15_Right.mono_l : ∀ k, (∀ y0 y1, LeO (lockgateref15_Right.l0 k y0 y1) (lockgateref15_Right.l0 (k + 1) y0 y1))
  | 0 => fun _ _ r h => by simp [lockgateref15_Right.l0] at h
  | k + 1 => by
    have ih0 := lockgateref15_Right.mono_l k
    · intro y0 y1
      unfold lockgateref15_Right.l0
      repeat' first
      | (with_reducible exact ih0 _ _)
      | (with_reducible exact lockgateref15_Name.mono _ _)
      | (with_reducible exact LeO.refl _)
      | (with_reducible exact LeO.none _)
      | (with_reducible refine LeO.ite ?_ ?_)
      | (with_reducible refine LeO.bind ?_ (fun _ => ?_))
      | exact ih0 _ _
      | exact lockgateref15_Name.mono _ _
      | exact LeO.none _
      | refine LeO.ite ?_ ?_
      | refine LeO.bind ?_ (fun _ => ?_)
theorem lockgateref15_Right.mono : ∀ a0 k, LeO (lockgateref15_Right.f k a0) (lockgateref15_Right.f (k + 1) a0) := by
  intro a0 k
  have ih0 := lockgateref15_Right.mono_l k
  unfold lockgateref15_Right.f
  repeat' first
      | (with_reducible exact ih0 _ _)
      | (with_reducible exact lockgateref15_Name.mono _ _)
      | (with_reducible exact LeO.refl _)
      | (with_reducible exact LeO.none _)
      | (with_reducible refine LeO.ite ?_ ?_)
      | (with_reducible refine LeO.bind ?_ (fun _ => ?_))
      | exact ih0 _ _
      | exact lockgateref15_Name.mono _ _
      | exact LeO.none _
      | refine LeO.ite ?_ ?_
      | refine LeO.bind ?_ (fun _ => ?_)
set_option maxHeartbeats 8000000 in
set_option maxRecDepth 100000 in
theorem lockgateref15_Right.calls (k : Nat) (A0 : Option Addr) (c0 : Nat) (l0 : List (S43)) (r : Bool) (w : World) (hr0 : Kd.C k43 w A0 l0.length l0) (hc0 : l0.length ≤ c0) (h : lockgateref15_Right.f k l0 = some r) :
    Calls Tryd.prog 37 #[.slice A0 l0.length c0] w fun e w' => e = .returned (.bool r) ∧ Drawn0 w w' := by
  have HR0 := Aside0.mk hr0
  have HC0 := Aside0.mk hc0
  clear hr0 hc0
  have H : (lockgateref15_Right.l0 k l0 0) = some r := h
  clear h
  have H' := Aside0.mk H
  clear H
  go_enter Tryd.func37, Tryd.ntmps37
  go_wp2
  repeat (go_quiet (fail); try go_wp2)
  go_loopg [3] k (fun kq v3 w' => ∃ (x3_1 : Int), v3 = .int .i64 x3_1 ∧ Aside0 (lockgateref15_Right.l0 kq l0 x3_1 = some r) ∧ Aside0 (kq ≤ k) ∧ Drawn0 w w')
  case atStart => exact ⟨(0), (by first | rfl | (simp; done) | (simp [*]; done)), H', ⟨Nat.le_refl _⟩, by repeat (first | exact Drawn0.refl _ | apply Drawn0.step)⟩
  case round =>
    clear H'
    obtain ⟨x3_1, rfl, HA, HK1, ⟨m1, rfl⟩⟩ := hrel
    cases gk with
    | zero => exact absurd HA.out (by simp [lockgateref15_Right.l0])
    | succ k1 =>
      have H := HA.out
      clear HA
      simp only [lockgateref15_Right.l0] at H
      by_cases c2 : x3_1 < (l0.length : Int)
      · rw [if_pos c2] at H
        have c2b0 : decide (x3_1 < (l0.length : Int)) = true := decide_eq_true c2
        clear c2
        by_cases c3 : 0 ≤ x3_1
        · rw [if_pos c3] at H
          have c3b0 : decide (0 ≤ x3_1) = true := decide_eq_true c3
          clear c3
          replace H := Option.bind_eq_some_iff.mp H
          obtain ⟨t220, A40, H⟩ := H
          replace H : (if t220 = true then (if ((rd_T43 l0 x3_1).f1) < 0 then (some false) else (if ((rd_T43 l0 x3_1).f1) > 65535 then (some false) else (if x3_1 > 0 then (if 0 ≤ (wrap64 (x3_1 - 1)) then (if (wrap64 (x3_1 - 1)) < (l0.length : Int) then (if ((Op.bytesLess (((rd_T43 l0 (wrap64 (x3_1 - 1))).f0).toList) (((rd_T43 l0 x3_1).f0).toList)) = true) then (lockgateref15_Right.l0 k1 l0 (wrap64 (x3_1 + 1))) else (some false)) else (none)) else (none)) else (lockgateref15_Right.l0 k1 l0 (wrap64 (x3_1 + 1)))))) else (some false)) = some r := H
          have A4 := Aside0.mk A40
          clear A40
          by_cases c5 : t220 = true
          · subst c5
            have H1 : (if ((rd_T43 l0 x3_1).f1) < 0 then (some false) else (if ((rd_T43 l0 x3_1).f1) > 65535 then (some false) else (if x3_1 > 0 then (if 0 ≤ (wrap64 (x3_1 - 1)) then (if (wrap64 (x3_1 - 1)) < (l0.length : Int) then (if ((Op.bytesLess (((rd_T43 l0 (wrap64 (x3_1 - 1))).f0).toList) (((rd_T43 l0 x3_1).f0).toList)) = true) then (lockgateref15_Right.l0 k1 l0 (wrap64 (x3_1 + 1))) else (some false)) else (none)) else (none)) else (lockgateref15_Right.l0 k1 l0 (wrap64 (x3_1 + 1)))))) = some r := by rw [if_pos rfl] at H; exact H
            clear H
            have H := H1
            clear H1
            by_cases c6 : ((rd_T43 l0 x3_1).f1) < 0
            · rw [if_pos c6] at H
              have c6b0 : decide (((rd_T43 l0 x3_1).f1) < 0) = true := decide_eq_true c6
              clear c6
              obtain rfl := Option.some.inj H
              have p219 : 0 ≤ (x3_1 : Int) := of_decide_eq_true (by first | (with_reducible assumption) | assumption)
              have q219 : x3_1 < (l0.length : Int) := of_decide_eq_true (by first | (with_reducible assumption) | assumption)
              obtain ⟨ad219, e219, hx219_0, hx219_1⟩ := at_T43 HR0.out x3_1 p219 q219
              cases e219
              replace p219 := eq_true p219
              replace q219 := eq_true q219
              go_wp2_with (first | (go_at_call 16; (with_reducible refine (lockgateref15_Name.calls k1 ((rd_T43 l0 x3_1).f0) true _ A4.out).mono ?_); rintro e w' ⟨rfl, ⟨nd, rfl⟩⟩; (try first | exact ⟨rfl, _, World.drewN_drewN _ _ _⟩ | exact ⟨rfl, _, Eq.trans (World.drewN_drewN _ _ _) (congrArg (World.drewN _) (Nat.add_assoc _ _ _))⟩); have p221 : 0 ≤ (x3_1 : Int) := of_decide_eq_true (by first | (with_reducible assumption) | assumption); have q221 : x3_1 < (l0.length : Int) := of_decide_eq_true (by first | (with_reducible assumption) | assumption); obtain ⟨ad221, e221, hx221_0, hx221_1⟩ := at_T43 HR0.out x3_1 p221 q221; obtain rfl : ad219 = ad221 := (by injection e221); replace p221 := eq_true p221; replace q221 := eq_true q221))
              repeat (go_quiet (first | (go_at_call 16; (with_reducible refine (lockgateref15_Name.calls k1 ((rd_T43 l0 x3_1).f0) true _ A4.out).mono ?_); rintro e w' ⟨rfl, ⟨nd, rfl⟩⟩; (try first | exact ⟨rfl, _, World.drewN_drewN _ _ _⟩ | exact ⟨rfl, _, Eq.trans (World.drewN_drewN _ _ _) (congrArg (World.drewN _) (Nat.add_assoc _ _ _))⟩); have p221 : 0 ≤ (x3_1 : Int) := of_decide_eq_true (by first | (with_reducible assumption) | assumption); have q221 : x3_1 < (l0.length : Int) := of_decide_eq_true (by first | (with_reducible assumption) | assumption); obtain ⟨ad221, e221, hx221_0, hx221_1⟩ := at_T43 HR0.out x3_1 p221 q221; obtain rfl : ad219 = ad221 := (by injection e221); replace p221 := eq_true p221; replace q221 := eq_true q221)); try go_wp2_with (first | (go_at_call 16; (with_reducible refine (lockgateref15_Name.calls k1 ((rd_T43 l0 x3_1).f0) true _ A4.out).mono ?_); rintro e w' ⟨rfl, ⟨nd, rfl⟩⟩; (try first | exact ⟨rfl, _, World.drewN_drewN _ _ _⟩ | exact ⟨rfl, _, Eq.trans (World.drewN_drewN _ _ _) (congrArg (World.drewN _) (Nat.add_assoc _ _ _))⟩); have p221 : 0 ≤ (x3_1 : Int) := of_decide_eq_true (by first | (with_reducible assumption) | assumption); have q221 : x3_1 < (l0.length : Int) := of_decide_eq_true (by first | (with_reducible assumption) | assumption); obtain ⟨ad221, e221, hx221_0, hx221_1⟩ := at_T43 HR0.out x3_1 p221 q221; obtain rfl : ad219 = ad221 := (by injection e221); replace p221 := eq_true p221; replace q221 := eq_true q221)))
              go_ret
              exact ⟨by first | rfl | (simp; done) | (simp [*]; done), by repeat (first | exact Drawn0.refl _ | apply Drawn0.step)⟩
            · rw [if_neg c6] at H
              have c6b0 : decide (((rd_T43 l0 x3_1).f1) < 0) = false := decide_eq_false c6
              clear c6
              by_cases c7 : ((rd_T43 l0 x3_1).f1) > 65535
              · rw [if_pos c7] at H
                have c7b0 : decide (65535 < ((rd_T43 l0 x3_1).f1)) = true := decide_eq_true c7
                clear c7
                obtain rfl := Option.some.inj H
                have p219 : 0 ≤ (x3_1 : Int) := of_decide_eq_true (by first | (with_reducible assumption) | assumption)
                have q219 : x3_1 < (l0.length : Int) := of_decide_eq_true (by first | (with_reducible assumption) | assumption)
                obtain ⟨ad219, e219, hx219_0, hx219_1⟩ := at_T43 HR0.out x3_1 p219 q219
                cases e219
                replace p219 := eq_true p219
                replace q219 := eq_true q219
                go_wp2_with (first | (go_at_call 16; (with_reducible refine (lockgateref15_Name.calls k1 ((rd_T43 l0 x3_1).f0) true _ A4.out).mono ?_); rintro e w' ⟨rfl, ⟨nd, rfl⟩⟩; (try first | exact ⟨rfl, _, World.drewN_drewN _ _ _⟩ | exact ⟨rfl, _, Eq.trans (World.drewN_drewN _ _ _) (congrArg (World.drewN _) (Nat.add_assoc _ _ _))⟩); have p221 : 0 ≤ (x3_1 : Int) := of_decide_eq_true (by first | (with_reducible assumption) | assumption); have q221 : x3_1 < (l0.length : Int) := of_decide_eq_true (by first | (with_reducible assumption) | assumption); obtain ⟨ad221, e221, hx221_0, hx221_1⟩ := at_T43 HR0.out x3_1 p221 q221; obtain rfl : ad219 = ad221 := (by injection e221); replace p221 := eq_true p221; replace q221 := eq_true q221; have p222 : 0 ≤ (x3_1 : Int) := of_decide_eq_true (by first | (with_reducible assumption) | assumption); have q222 : x3_1 < (l0.length : Int) := of_decide_eq_true (by first | (with_reducible assumption) | assumption); obtain ⟨ad222, e222, hx222_0, hx222_1⟩ := at_T43 HR0.out x3_1 p222 q222; obtain rfl : ad219 = ad222 := (by injection e222); replace p222 := eq_true p222; replace q222 := eq_true q222))
                repeat (go_quiet (first | (go_at_call 16; (with_reducible refine (lockgateref15_Name.calls k1 ((rd_T43 l0 x3_1).f0) true _ A4.out).mono ?_); rintro e w' ⟨rfl, ⟨nd, rfl⟩⟩; (try first | exact ⟨rfl, _, World.drewN_drewN _ _ _⟩ | exact ⟨rfl, _, Eq.trans (World.drewN_drewN _ _ _) (congrArg (World.drewN _) (Nat.add_assoc _ _ _))⟩); have p221 : 0 ≤ (x3_1 : Int) := of_decide_eq_true (by first | (with_reducible assumption) | assumption); have q221 : x3_1 < (l0.length : Int) := of_decide_eq_true (by first | (with_reducible assumption) | assumption); obtain ⟨ad221, e221, hx221_0, hx221_1⟩ := at_T43 HR0.out x3_1 p221 q221; obtain rfl : ad219 = ad221 := (by injection e221); replace p221 := eq_true p221; replace q221 := eq_true q221; have p222 : 0 ≤ (x3_1 : Int) := of_decide_eq_true (by first | (with_reducible assumption) | assumption); have q222 : x3_1 < (l0.length : Int) := of_decide_eq_true (by first | (with_reducible assumption) | assumption); obtain ⟨ad222, e222, hx222_0, hx222_1⟩ := at_T43 HR0.out x3_1 p222 q222; obtain rfl : ad219 = ad222 := (by injection e222); replace p222 := eq_true p222; replace q222 := eq_true q222)); try go_wp2_with (first | (go_at_call 16; (with_reducible refine (lockgateref15_Name.calls k1 ((rd_T43 l0 x3_1).f0) true _ A4.out).mono ?_); rintro e w' ⟨rfl, ⟨nd, rfl⟩⟩; (try first | exact ⟨rfl, _, World.drewN_drewN _ _ _⟩ | exact ⟨rfl, _, Eq.trans (World.drewN_drewN _ _ _) (congrArg (World.drewN _) (Nat.add_assoc _ _ _))⟩); have p221 : 0 ≤ (x3_1 : Int) := of_decide_eq_true (by first | (with_reducible assumption) | assumption); have q221 : x3_1 < (l0.length : Int) := of_decide_eq_true (by first | (with_reducible assumption) | assumption); obtain ⟨ad221, e221, hx221_0, hx221_1⟩ := at_T43 HR0.out x3_1 p221 q221; obtain rfl : ad219 = ad221 := (by injection e221); replace p221 := eq_true p221; replace q221 := eq_true q221; have p222 : 0 ≤ (x3_1 : Int) := of_decide_eq_true (by first | (with_reducible assumption) | assumption); have q222 : x3_1 < (l0.length : Int) := of_decide_eq_true (by first | (with_reducible assumption) | assumption); obtain ⟨ad222, e222, hx222_0, hx222_1⟩ := at_T43 HR0.out x3_1 p222 q222; obtain rfl : ad219 = ad222 := (by injection e222); replace p222 := eq_true p222; replace q222 := eq_true q222)))
                go_ret
                exact ⟨by first | rfl | (simp; done) | (simp [*]; done), by repeat (first | exact Drawn0.refl _ | apply Drawn0.step)⟩
              · rw [if_neg c7] at H
                have c7b0 : decide (65535 < ((rd_T43 l0 x3_1).f1)) = false := decide_eq_false c7
                clear c7
                by_cases c8 : x3_1 > 0
                · rw [if_pos c8] at H
                  have c8b0 : decide (0 < x3_1) = true := decide_eq_true c8
                  clear c8
                  obtain ⟨ji9, hji9⟩ : ∃ j_ : Int, (wrap64 (x3_1 - 1)) = j_ := ⟨_, rfl⟩
                  replace H : (if 0 ≤ (ji9) then (if (ji9) < (l0.length : Int) then (if ((Op.bytesLess (((rd_T43 l0 (ji9)).f0).toList) (((rd_T43 l0 x3_1).f0).toList)) = true) then (lockgateref15_Right.l0 k1 l0 (wrap64 (x3_1 + 1))) else (some false)) else (none)) else (none)) = some r := by first | (rw [hji9] at H; exact H) | (simp only [hji9] at H ⊢; exact H)
                  (try rw [hji9] at A4)
                  have hji9w : (IntKind.i64.wrap (x3_1 - 1)) = ji9 := (i64_w _).trans hji9
                  by_cases c10 : 0 ≤ (ji9)
                  · rw [if_pos c10] at H
                    have c10b0 : decide (0 ≤ (ji9)) = true := decide_eq_true c10
                    clear c10
                    by_cases c11 : (ji9) < (l0.length : Int)
                    · rw [if_pos c11] at H
                      have c11b0 : decide ((ji9) < (l0.length : Int)) = true := decide_eq_true c11
                      clear c11
                      by_cases c12 : ((Op.bytesLess (((rd_T43 l0 (ji9)).f0).toList) (((rd_T43 l0 x3_1).f0).toList)) = true)
                      · rw [if_pos c12] at H
                        have c12b0 : (Op.bytesLess (((rd_T43 l0 (ji9)).f0).toList) (((rd_T43 l0 x3_1).f0).toList)) = true := c12
                        clear c12
                        have H' := Aside0.mk H
                        clear H
                        have p219 : 0 ≤ (x3_1 : Int) := of_decide_eq_true (by first | (with_reducible assumption) | assumption)
                        have q219 : x3_1 < (l0.length : Int) := of_decide_eq_true (by first | (with_reducible assumption) | assumption)
                        obtain ⟨ad219, e219, hx219_0, hx219_1⟩ := at_T43 HR0.out x3_1 p219 q219
                        cases e219
                        replace p219 := eq_true p219
                        replace q219 := eq_true q219
                        go_wp2_with (first | (go_at_call 16; (with_reducible refine (lockgateref15_Name.calls k1 ((rd_T43 l0 x3_1).f0) true _ A4.out).mono ?_); rintro e w' ⟨rfl, ⟨nd, rfl⟩⟩; (try first | exact ⟨rfl, _, World.drewN_drewN _ _ _⟩ | exact ⟨rfl, _, Eq.trans (World.drewN_drewN _ _ _) (congrArg (World.drewN _) (Nat.add_assoc _ _ _))⟩); have p221 : 0 ≤ (x3_1 : Int) := of_decide_eq_true (by first | (with_reducible assumption) | assumption); have q221 : x3_1 < (l0.length : Int) := of_decide_eq_true (by first | (with_reducible assumption) | assumption); obtain ⟨ad221, e221, hx221_0, hx221_1⟩ := at_T43 HR0.out x3_1 p221 q221; obtain rfl : ad219 = ad221 := (by injection e221); replace p221 := eq_true p221; replace q221 := eq_true q221; have p222 : 0 ≤ (x3_1 : Int) := of_decide_eq_true (by first | (with_reducible assumption) | assumption); have q222 : x3_1 < (l0.length : Int) := of_decide_eq_true (by first | (with_reducible assumption) | assumption); obtain ⟨ad222, e222, hx222_0, hx222_1⟩ := at_T43 HR0.out x3_1 p222 q222; obtain rfl : ad219 = ad222 := (by injection e222); replace p222 := eq_true p222; replace q222 := eq_true q222; have p223 : 0 ≤ ((ji9) : Int) := of_decide_eq_true (by first | (with_reducible assumption) | assumption); have q223 : (ji9) < (l0.length : Int) := of_decide_eq_true (by first | (with_reducible assumption) | assumption); obtain ⟨ad223, e223, hx223_0, hx223_1⟩ := at_T43 HR0.out (ji9) p223 q223; obtain rfl : ad219 = ad223 := (by injection e223); replace p223 := eq_true p223; replace q223 := eq_true q223; have p224 : 0 ≤ (x3_1 : Int) := of_decide_eq_true (by first | (with_reducible assumption) | assumption); have q224 : x3_1 < (l0.length : Int) := of_decide_eq_true (by first | (with_reducible assumption) | assumption); obtain ⟨ad224, e224, hx224_0, hx224_1⟩ := at_T43 HR0.out x3_1 p224 q224; obtain rfl : ad219 = ad224 := (by injection e224); replace p224 := eq_true p224; replace q224 := eq_true q224))
                        repeat (go_quiet (first | (go_at_call 16; (with_reducible refine (lockgateref15_Name.calls k1 ((rd_T43 l0 x3_1).f0) true _ A4.out).mono ?_); rintro e w' ⟨rfl, ⟨nd, rfl⟩⟩; (try first | exact ⟨rfl, _, World.drewN_drewN _ _ _⟩ | exact ⟨rfl, _, Eq.trans (World.drewN_drewN _ _ _) (congrArg (World.drewN _) (Nat.add_assoc _ _ _))⟩); have p221 : 0 ≤ (x3_1 : Int) := of_decide_eq_true (by first | (with_reducible assumption) | assumption); have q221 : x3_1 < (l0.length : Int) := of_decide_eq_true (by first | (with_reducible assumption) | assumption); obtain ⟨ad221, e221, hx221_0, hx221_1⟩ := at_T43 HR0.out x3_1 p221 q221; obtain rfl : ad219 = ad221 := (by injection e221); replace p221 := eq_true p221; replace q221 := eq_true q221; have p222 : 0 ≤ (x3_1 : Int) := of_decide_eq_true (by first | (with_reducible assumption) | assumption); have q222 : x3_1 < (l0.length : Int) := of_decide_eq_true (by first | (with_reducible assumption) | assumption); obtain ⟨ad222, e222, hx222_0, hx222_1⟩ := at_T43 HR0.out x3_1 p222 q222; obtain rfl : ad219 = ad222 := (by injection e222); replace p222 := eq_true p222; replace q222 := eq_true q222; have p223 : 0 ≤ ((ji9) : Int) := of_decide_eq_true (by first | (with_reducible assumption) | assumption); have q223 : (ji9) < (l0.length : Int) := of_decide_eq_true (by first | (with_reducible assumption) | assumption); obtain ⟨ad223, e223, hx223_0, hx223_1⟩ := at_T43 HR0.out (ji9) p223 q223; obtain rfl : ad219 = ad223 := (by injection e223); replace p223 := eq_true p223; replace q223 := eq_true q223; have p224 : 0 ≤ (x3_1 : Int) := of_decide_eq_true (by first | (with_reducible assumption) | assumption); have q224 : x3_1 < (l0.length : Int) := of_decide_eq_true (by first | (with_reducible assumption) | assumption); obtain ⟨ad224, e224, hx224_0, hx224_1⟩ := at_T43 HR0.out x3_1 p224 q224; obtain rfl : ad219 = ad224 := (by injection e224); replace p224 := eq_true p224; replace q224 := eq_true q224)); try go_wp2_with (first | (go_at_call 16; (with_reducible refine (lockgateref15_Name.calls k1 ((rd_T43 l0 x3_1).f0) true _ A4.out).mono ?_); rintro e w' ⟨rfl, ⟨nd, rfl⟩⟩; (try first | exact ⟨rfl, _, World.drewN_drewN _ _ _⟩ | exact ⟨rfl, _, Eq.trans (World.drewN_drewN _ _ _) (congrArg (World.drewN _) (Nat.add_assoc _ _ _))⟩); have p221 : 0 ≤ (x3_1 : Int) := of_decide_eq_true (by first | (with_reducible assumption) | assumption); have q221 : x3_1 < (l0.length : Int) := of_decide_eq_true (by first | (with_reducible assumption) | assumption); obtain ⟨ad221, e221, hx221_0, hx221_1⟩ := at_T43 HR0.out x3_1 p221 q221; obtain rfl : ad219 = ad221 := (by injection e221); replace p221 := eq_true p221; replace q221 := eq_true q221; have p222 : 0 ≤ (x3_1 : Int) := of_decide_eq_true (by first | (with_reducible assumption) | assumption); have q222 : x3_1 < (l0.length : Int) := of_decide_eq_true (by first | (with_reducible assumption) | assumption); obtain ⟨ad222, e222, hx222_0, hx222_1⟩ := at_T43 HR0.out x3_1 p222 q222; obtain rfl : ad219 = ad222 := (by injection e222); replace p222 := eq_true p222; replace q222 := eq_true q222; have p223 : 0 ≤ ((ji9) : Int) := of_decide_eq_true (by first | (with_reducible assumption) | assumption); have q223 : (ji9) < (l0.length : Int) := of_decide_eq_true (by first | (with_reducible assumption) | assumption); obtain ⟨ad223, e223, hx223_0, hx223_1⟩ := at_T43 HR0.out (ji9) p223 q223; obtain rfl : ad219 = ad223 := (by injection e223); replace p223 := eq_true p223; replace q223 := eq_true q223; have p224 : 0 ≤ (x3_1 : Int) := of_decide_eq_true (by first | (with_reducible assumption) | assumption); have q224 : x3_1 < (l0.length : Int) := of_decide_eq_true (by first | (with_reducible assumption) | assumption); obtain ⟨ad224, e224, hx224_0, hx224_1⟩ := at_T43 HR0.out x3_1 p224 q224; obtain rfl : ad219 = ad224 := (by injection e224); replace p224 := eq_true p224; replace q224 := eq_true q224)))
                        (try subst hji9)
                        go_roundg k1
                        case measure => have := HK1.out; omega
                        case rel => exact ⟨(wrap64 (x3_1 + 1)), (by first | rfl | (simp; done) | (simp [*]; done)), H', ⟨by have := HK1.out; omega⟩, by repeat (first | exact Drawn0.refl _ | apply Drawn0.step)⟩
                      · rw [if_neg c12] at H
                        have c12b0 : (Op.bytesLess (((rd_T43 l0 (ji9)).f0).toList) (((rd_T43 l0 x3_1).f0).toList)) = false := by simpa using c12
                        clear c12
                        obtain rfl := Option.some.inj H
                        have p219 : 0 ≤ (x3_1 : Int) := of_decide_eq_true (by first | (with_reducible assumption) | assumption)
                        have q219 : x3_1 < (l0.length : Int) := of_decide_eq_true (by first | (with_reducible assumption) | assumption)
                        obtain ⟨ad219, e219, hx219_0, hx219_1⟩ := at_T43 HR0.out x3_1 p219 q219
                        cases e219
                        replace p219 := eq_true p219
                        replace q219 := eq_true q219
                        go_wp2_with (first | (go_at_call 16; (with_reducible refine (lockgateref15_Name.calls k1 ((rd_T43 l0 x3_1).f0) true _ A4.out).mono ?_); rintro e w' ⟨rfl, ⟨nd, rfl⟩⟩; (try first | exact ⟨rfl, _, World.drewN_drewN _ _ _⟩ | exact ⟨rfl, _, Eq.trans (World.drewN_drewN _ _ _) (congrArg (World.drewN _) (Nat.add_assoc _ _ _))⟩); have p221 : 0 ≤ (x3_1 : Int) := of_decide_eq_true (by first | (with_reducible assumption) | assumption); have q221 : x3_1 < (l0.length : Int) := of_decide_eq_true (by first | (with_reducible assumption) | assumption); obtain ⟨ad221, e221, hx221_0, hx221_1⟩ := at_T43 HR0.out x3_1 p221 q221; obtain rfl : ad219 = ad221 := (by injection e221); replace p221 := eq_true p221; replace q221 := eq_true q221; have p222 : 0 ≤ (x3_1 : Int) := of_decide_eq_true (by first | (with_reducible assumption) | assumption); have q222 : x3_1 < (l0.length : Int) := of_decide_eq_true (by first | (with_reducible assumption) | assumption); obtain ⟨ad222, e222, hx222_0, hx222_1⟩ := at_T43 HR0.out x3_1 p222 q222; obtain rfl : ad219 = ad222 := (by injection e222); replace p222 := eq_true p222; replace q222 := eq_true q222; have p223 : 0 ≤ ((ji9) : Int) := of_decide_eq_true (by first | (with_reducible assumption) | assumption); have q223 : (ji9) < (l0.length : Int) := of_decide_eq_true (by first | (with_reducible assumption) | assumption); obtain ⟨ad223, e223, hx223_0, hx223_1⟩ := at_T43 HR0.out (ji9) p223 q223; obtain rfl : ad219 = ad223 := (by injection e223); replace p223 := eq_true p223; replace q223 := eq_true q223; have p224 : 0 ≤ (x3_1 : Int) := of_decide_eq_true (by first | (with_reducible assumption) | assumption); have q224 : x3_1 < (l0.length : Int) := of_decide_eq_true (by first | (with_reducible assumption) | assumption); obtain ⟨ad224, e224, hx224_0, hx224_1⟩ := at_T43 HR0.out x3_1 p224 q224; obtain rfl : ad219 = ad224 := (by injection e224); replace p224 := eq_true p224; replace q224 := eq_true q224))
                        repeat (go_quiet (first | (go_at_call 16; (with_reducible refine (lockgateref15_Name.calls k1 ((rd_T43 l0 x3_1).f0) true _ A4.out).mono ?_); rintro e w' ⟨rfl, ⟨nd, rfl⟩⟩; (try first | exact ⟨rfl, _, World.drewN_drewN _ _ _⟩ | exact ⟨rfl, _, Eq.trans (World.drewN_drewN _ _ _) (congrArg (World.drewN _) (Nat.add_assoc _ _ _))⟩); have p221 : 0 ≤ (x3_1 : Int) := of_decide_eq_true (by first | (with_reducible assumption) | assumption); have q221 : x3_1 < (l0.length : Int) := of_decide_eq_true (by first | (with_reducible assumption) | assumption); obtain ⟨ad221, e221, hx221_0, hx221_1⟩ := at_T43 HR0.out x3_1 p221 q221; obtain rfl : ad219 = ad221 := (by injection e221); replace p221 := eq_true p221; replace q221 := eq_true q221; have p222 : 0 ≤ (x3_1 : Int) := of_decide_eq_true (by first | (with_reducible assumption) | assumption); have q222 : x3_1 < (l0.length : Int) := of_decide_eq_true (by first | (with_reducible assumption) | assumption); obtain ⟨ad222, e222, hx222_0, hx222_1⟩ := at_T43 HR0.out x3_1 p222 q222; obtain rfl : ad219 = ad222 := (by injection e222); replace p222 := eq_true p222; replace q222 := eq_true q222; have p223 : 0 ≤ ((ji9) : Int) := of_decide_eq_true (by first | (with_reducible assumption) | assumption); have q223 : (ji9) < (l0.length : Int) := of_decide_eq_true (by first | (with_reducible assumption) | assumption); obtain ⟨ad223, e223, hx223_0, hx223_1⟩ := at_T43 HR0.out (ji9) p223 q223; obtain rfl : ad219 = ad223 := (by injection e223); replace p223 := eq_true p223; replace q223 := eq_true q223; have p224 : 0 ≤ (x3_1 : Int) := of_decide_eq_true (by first | (with_reducible assumption) | assumption); have q224 : x3_1 < (l0.length : Int) := of_decide_eq_true (by first | (with_reducible assumption) | assumption); obtain ⟨ad224, e224, hx224_0, hx224_1⟩ := at_T43 HR0.out x3_1 p224 q224; obtain rfl : ad219 = ad224 := (by injection e224); replace p224 := eq_true p224; replace q224 := eq_true q224)); try go_wp2_with (first | (go_at_call 16; (with_reducible refine (lockgateref15_Name.calls k1 ((rd_T43 l0 x3_1).f0) true _ A4.out).mono ?_); rintro e w' ⟨rfl, ⟨nd, rfl⟩⟩; (try first | exact ⟨rfl, _, World.drewN_drewN _ _ _⟩ | exact ⟨rfl, _, Eq.trans (World.drewN_drewN _ _ _) (congrArg (World.drewN _) (Nat.add_assoc _ _ _))⟩); have p221 : 0 ≤ (x3_1 : Int) := of_decide_eq_true (by first | (with_reducible assumption) | assumption); have q221 : x3_1 < (l0.length : Int) := of_decide_eq_true (by first | (with_reducible assumption) | assumption); obtain ⟨ad221, e221, hx221_0, hx221_1⟩ := at_T43 HR0.out x3_1 p221 q221; obtain rfl : ad219 = ad221 := (by injection e221); replace p221 := eq_true p221; replace q221 := eq_true q221; have p222 : 0 ≤ (x3_1 : Int) := of_decide_eq_true (by first | (with_reducible assumption) | assumption); have q222 : x3_1 < (l0.length : Int) := of_decide_eq_true (by first | (with_reducible assumption) | assumption); obtain ⟨ad222, e222, hx222_0, hx222_1⟩ := at_T43 HR0.out x3_1 p222 q222; obtain rfl : ad219 = ad222 := (by injection e222); replace p222 := eq_true p222; replace q222 := eq_true q222; have p223 : 0 ≤ ((ji9) : Int) := of_decide_eq_true (by first | (with_reducible assumption) | assumption); have q223 : (ji9) < (l0.length : Int) := of_decide_eq_true (by first | (with_reducible assumption) | assumption); obtain ⟨ad223, e223, hx223_0, hx223_1⟩ := at_T43 HR0.out (ji9) p223 q223; obtain rfl : ad219 = ad223 := (by injection e223); replace p223 := eq_true p223; replace q223 := eq_true q223; have p224 : 0 ≤ (x3_1 : Int) := of_decide_eq_true (by first | (with_reducible assumption) | assumption); have q224 : x3_1 < (l0.length : Int) := of_decide_eq_true (by first | (with_reducible assumption) | assumption); obtain ⟨ad224, e224, hx224_0, hx224_1⟩ := at_T43 HR0.out x3_1 p224 q224; obtain rfl : ad219 = ad224 := (by injection e224); replace p224 := eq_true p224; replace q224 := eq_true q224)))
                        go_ret
                        exact ⟨by first | rfl | (simp; done) | (simp only [← hji9] <;> (first | rfl | simp)) | (simp [*]; done), by repeat (first | exact Drawn0.refl _ | apply Drawn0.step)⟩
                    · rw [if_neg c11] at H
                      exact absurd H (by simp)
                  · rw [if_neg c10] at H
                    exact absurd H (by simp)
                · rw [if_neg c8] at H
                  have c8b0 : decide (0 < x3_1) = false := decide_eq_false c8
                  clear c8
                  have H' := Aside0.mk H
                  clear H
                  have p219 : 0 ≤ (x3_1 : Int) := of_decide_eq_true (by first | (with_reducible assumption) | assumption)
                  have q219 : x3_1 < (l0.length : Int) := of_decide_eq_true (by first | (with_reducible assumption) | assumption)
                  obtain ⟨ad219, e219, hx219_0, hx219_1⟩ := at_T43 HR0.out x3_1 p219 q219
                  cases e219
                  replace p219 := eq_true p219
                  replace q219 := eq_true q219
                  go_wp2_with (first | (go_at_call 16; (with_reducible refine (lockgateref15_Name.calls k1 ((rd_T43 l0 x3_1).f0) true _ A4.out).mono ?_); rintro e w' ⟨rfl, ⟨nd, rfl⟩⟩; (try first | exact ⟨rfl, _, World.drewN_drewN _ _ _⟩ | exact ⟨rfl, _, Eq.trans (World.drewN_drewN _ _ _) (congrArg (World.drewN _) (Nat.add_assoc _ _ _))⟩); have p221 : 0 ≤ (x3_1 : Int) := of_decide_eq_true (by first | (with_reducible assumption) | assumption); have q221 : x3_1 < (l0.length : Int) := of_decide_eq_true (by first | (with_reducible assumption) | assumption); obtain ⟨ad221, e221, hx221_0, hx221_1⟩ := at_T43 HR0.out x3_1 p221 q221; obtain rfl : ad219 = ad221 := (by injection e221); replace p221 := eq_true p221; replace q221 := eq_true q221; have p222 : 0 ≤ (x3_1 : Int) := of_decide_eq_true (by first | (with_reducible assumption) | assumption); have q222 : x3_1 < (l0.length : Int) := of_decide_eq_true (by first | (with_reducible assumption) | assumption); obtain ⟨ad222, e222, hx222_0, hx222_1⟩ := at_T43 HR0.out x3_1 p222 q222; obtain rfl : ad219 = ad222 := (by injection e222); replace p222 := eq_true p222; replace q222 := eq_true q222))
                  repeat (go_quiet (first | (go_at_call 16; (with_reducible refine (lockgateref15_Name.calls k1 ((rd_T43 l0 x3_1).f0) true _ A4.out).mono ?_); rintro e w' ⟨rfl, ⟨nd, rfl⟩⟩; (try first | exact ⟨rfl, _, World.drewN_drewN _ _ _⟩ | exact ⟨rfl, _, Eq.trans (World.drewN_drewN _ _ _) (congrArg (World.drewN _) (Nat.add_assoc _ _ _))⟩); have p221 : 0 ≤ (x3_1 : Int) := of_decide_eq_true (by first | (with_reducible assumption) | assumption); have q221 : x3_1 < (l0.length : Int) := of_decide_eq_true (by first | (with_reducible assumption) | assumption); obtain ⟨ad221, e221, hx221_0, hx221_1⟩ := at_T43 HR0.out x3_1 p221 q221; obtain rfl : ad219 = ad221 := (by injection e221); replace p221 := eq_true p221; replace q221 := eq_true q221; have p222 : 0 ≤ (x3_1 : Int) := of_decide_eq_true (by first | (with_reducible assumption) | assumption); have q222 : x3_1 < (l0.length : Int) := of_decide_eq_true (by first | (with_reducible assumption) | assumption); obtain ⟨ad222, e222, hx222_0, hx222_1⟩ := at_T43 HR0.out x3_1 p222 q222; obtain rfl : ad219 = ad222 := (by injection e222); replace p222 := eq_true p222; replace q222 := eq_true q222)); try go_wp2_with (first | (go_at_call 16; (with_reducible refine (lockgateref15_Name.calls k1 ((rd_T43 l0 x3_1).f0) true _ A4.out).mono ?_); rintro e w' ⟨rfl, ⟨nd, rfl⟩⟩; (try first | exact ⟨rfl, _, World.drewN_drewN _ _ _⟩ | exact ⟨rfl, _, Eq.trans (World.drewN_drewN _ _ _) (congrArg (World.drewN _) (Nat.add_assoc _ _ _))⟩); have p221 : 0 ≤ (x3_1 : Int) := of_decide_eq_true (by first | (with_reducible assumption) | assumption); have q221 : x3_1 < (l0.length : Int) := of_decide_eq_true (by first | (with_reducible assumption) | assumption); obtain ⟨ad221, e221, hx221_0, hx221_1⟩ := at_T43 HR0.out x3_1 p221 q221; obtain rfl : ad219 = ad221 := (by injection e221); replace p221 := eq_true p221; replace q221 := eq_true q221; have p222 : 0 ≤ (x3_1 : Int) := of_decide_eq_true (by first | (with_reducible assumption) | assumption); have q222 : x3_1 < (l0.length : Int) := of_decide_eq_true (by first | (with_reducible assumption) | assumption); obtain ⟨ad222, e222, hx222_0, hx222_1⟩ := at_T43 HR0.out x3_1 p222 q222; obtain rfl : ad219 = ad222 := (by injection e222); replace p222 := eq_true p222; replace q222 := eq_true q222)))
                  go_roundg k1
                  case measure => have := HK1.out; omega
                  case rel => exact ⟨(wrap64 (x3_1 + 1)), (by first | rfl | (simp; done) | (simp [*]; done)), H', ⟨by have := HK1.out; omega⟩, by repeat (first | exact Drawn0.refl _ | apply Drawn0.step)⟩
          · replace c5 := Bool.eq_false_iff.mpr c5
            subst c5
            have H1 : (some false) = some r := by rw [if_neg (show ¬ (false = true) by decide)] at H; exact H
            clear H
            have H := H1
            clear H1
            obtain rfl := Option.some.inj H
            have p219 : 0 ≤ (x3_1 : Int) := of_decide_eq_true (by first | (with_reducible assumption) | assumption)
            have q219 : x3_1 < (l0.length : Int) := of_decide_eq_true (by first | (with_reducible assumption) | assumption)
            obtain ⟨ad219, e219, hx219_0, hx219_1⟩ := at_T43 HR0.out x3_1 p219 q219
            cases e219
            replace p219 := eq_true p219
            replace q219 := eq_true q219
            go_wp2_with (first | (go_at_call 16; (with_reducible refine (lockgateref15_Name.calls k1 ((rd_T43 l0 x3_1).f0) false _ A4.out).mono ?_); rintro e w' ⟨rfl, ⟨nd, rfl⟩⟩; (try first | exact ⟨rfl, _, World.drewN_drewN _ _ _⟩ | exact ⟨rfl, _, Eq.trans (World.drewN_drewN _ _ _) (congrArg (World.drewN _) (Nat.add_assoc _ _ _))⟩)))
            repeat (go_quiet (first | (go_at_call 16; (with_reducible refine (lockgateref15_Name.calls k1 ((rd_T43 l0 x3_1).f0) false _ A4.out).mono ?_); rintro e w' ⟨rfl, ⟨nd, rfl⟩⟩; (try first | exact ⟨rfl, _, World.drewN_drewN _ _ _⟩ | exact ⟨rfl, _, Eq.trans (World.drewN_drewN _ _ _) (congrArg (World.drewN _) (Nat.add_assoc _ _ _))⟩))); try go_wp2_with (first | (go_at_call 16; (with_reducible refine (lockgateref15_Name.calls k1 ((rd_T43 l0 x3_1).f0) false _ A4.out).mono ?_); rintro e w' ⟨rfl, ⟨nd, rfl⟩⟩; (try first | exact ⟨rfl, _, World.drewN_drewN _ _ _⟩ | exact ⟨rfl, _, Eq.trans (World.drewN_drewN _ _ _) (congrArg (World.drewN _) (Nat.add_assoc _ _ _))⟩))))
            go_ret
            exact ⟨by first | rfl | (simp; done) | (simp [*]; done), by repeat (first | exact Drawn0.refl _ | apply Drawn0.step)⟩
        · rw [if_neg c3] at H
          exact absurd H (by simp)
      · rw [if_neg c2] at H
        have c2b0 : decide (x3_1 < (l0.length : Int)) = false := decide_eq_false c2
        clear c2
        obtain rfl := Option.some.inj H
        go_wp2
        repeat (go_quiet (fail); try go_wp2)
        go_ret
        exact ⟨by first | rfl | (simp; done) | (simp [*]; done), by repeat (first | exact Drawn0.refl _ | apply Drawn0.step)⟩

/-! ### lockgateref01_Num: function 39 -/
def lockgateref01_Num.l0 : Nat → Int → Int → ByteArray → Int → Option (ByteArray)
  | 0, _, _, _, _ => none
  | k + 1, x0, x1, x5, x6 => if x6 < x1 then ((some (([(Int.tmod x0 256) % 256] : List Int) : List Int)).bind fun y225 => (if (strOfNums y225).size + x5.size ≤ 9223372036854775807 then (lockgateref01_Num.l0 k (IntKind.u64.wrap (Int.tdiv x0 256)) x1 ((strOfNums y225) ++ x5) (wrap64 (x6 + 1))) else (none))) else (some x5)
def lockgateref01_Num.f (k : Nat) (a0 : Int) (a1 : Int) : Option (ByteArray) := lockgateref01_Num.l0 k a0 a1 (⟨#[]⟩ : ByteArray) 0
theorem lockgateref01_Num.mono_l : ∀ k, (∀ y0 y1 y2 y3, LeO (lockgateref01_Num.l0 k y0 y1 y2 y3) (lockgateref01_Num.l0 (k + 1) y0 y1 y2 y3))
  | 0 => fun _ _ _ _ r h => by simp [lockgateref01_Num.l0] at h
  | k + 1 => by
    have ih0 := lockgateref01_Num.mono_l k
    · intro y0 y1 y2 y3
      unfold lockgateref01_Num.l0
      repeat' first
      | (with_reducible exact ih0 _ _ _ _)
      | (with_reducible exact LeO.refl _)
      | (with_reducible exact LeO.none _)
      | (with_reducible refine LeO.ite ?_ ?_)
      | (with_reducible refine LeO.bind ?_ (fun _ => ?_))
      | exact ih0 _ _ _ _
      | exact LeO.none _
      | refine LeO.ite ?_ ?_
      | refine LeO.bind ?_ (fun _ => ?_)
theorem lockgateref01_Num.mono : ∀ a0 a1 k, LeO (lockgateref01_Num.f k a0 a1) (lockgateref01_Num.f (k + 1) a0 a1) := by
  intro a0 a1 k
  have ih0 := lockgateref01_Num.mono_l k
  unfold lockgateref01_Num.f
  repeat' first
      | (with_reducible exact ih0 _ _ _ _)
      | (with_reducible exact LeO.refl _)
      | (with_reducible exact LeO.none _)
      | (with_reducible refine LeO.ite ?_ ?_)
      | (with_reducible refine LeO.bind ?_ (fun _ => ?_))
      | exact ih0 _ _ _ _
      | exact LeO.none _
      | refine LeO.ite ?_ ?_
      | refine LeO.bind ?_ (fun _ => ?_)
set_option maxHeartbeats 8000000 in
set_option maxRecDepth 100000 in
theorem lockgateref01_Num.calls (k : Nat) (a0 : Int) (a1 : Int) (r : ByteArray) (w : World) (h : lockgateref01_Num.f k a0 a1 = some r) :
    Calls Tryd.prog 39 #[.int .u64 a0, .int .i64 a1] w fun e w' => e = .returned (.string r) ∧ Below w.heap.size w w' := by
  have HB := Aside0.mk (Below.refl w.heap.size w)
  have H : (lockgateref01_Num.l0 k a0 a1 (⟨#[]⟩ : ByteArray) 0) = some r := h
  clear h
  have H' := Aside0.mk H
  clear H
  go_enter Tryd.func39, Tryd.ntmps39
  go_wp2
  go_loopg [0, 5, 6] k (fun kq v0 v5 v6 w' => ∃ (x0_1 : Int) (x5_1 : ByteArray) (x6_1 : Int), v0 = .int .u64 x0_1 ∧ v5 = .string x5_1 ∧ v6 = .int .i64 x6_1 ∧ Aside0 (lockgateref01_Num.l0 kq x0_1 a1 x5_1 x6_1 = some r) ∧ Aside0 (kq ≤ k) ∧ Aside0 (Below w.heap.size w w'))
  case atStart => exact ⟨(a0), ((⟨#[]⟩ : ByteArray)), (0), (by first | rfl | (simp; done) | (simp [*]; done)), (by first | rfl | (simp; done) | (simp [*]; done)), (by first | rfl | (simp; done) | (simp [*]; done)), H', ⟨Nat.le_refl _⟩, ⟨by repeat (first | (with_reducible first | exact HB.out | apply below_alloc | apply pw_below_drewN | apply below_drew1) | exact HB.out)⟩⟩
  case round =>
    clear H'
    try clear p2
    obtain ⟨x0_1, x5_1, x6_1, rfl, rfl, rfl, HA, HK1, HB⟩ := hrel
    cases gk with
    | zero => exact absurd HA.out (by simp [lockgateref01_Num.l0])
    | succ k1 =>
      have H := HA.out
      clear HA
      simp only [lockgateref01_Num.l0] at H
      by_cases c3 : x6_1 < a1
      · rw [if_pos c3] at H
        have c3b0 : decide (x6_1 < a1) = true := decide_eq_true c3
        clear c3
        obtain ⟨y225, hy225⟩ : ∃ y_ : List Int, y_ = (([(Int.tmod x0_1 256) % 256] : List Int)) := ⟨_, rfl⟩
        replace H : (if (strOfNums y225).size + x5_1.size ≤ 9223372036854775807 then (lockgateref01_Num.l0 k1 (IntKind.u64.wrap (Int.tdiv x0_1 256)) a1 ((strOfNums y225) ++ x5_1) (wrap64 (x6_1 + 1))) else (none)) = some r := by first | (rw [hy225]; with_reducible exact H) | (have H2_ := (Option.bind_some _ _).symm.trans H; rw [hy225]; with_reducible exact H2_) | (have H2_ := (Option.bind_some _ _).symm.trans H; with_reducible exact H2_) | with_reducible exact H | (rw [hy225]; exact H) | exact H
        have Ny225 := Aside0.mk hy225
        clear hy225
        by_cases c4 : (strOfNums y225).size + x5_1.size ≤ 9223372036854775807
        · rw [if_pos c4] at H
          have c4b0 := eq_true c4
          have c4b1 : decide ((strOfNums y225).size + x5_1.size ≤ 9223372036854775807) = true := decide_eq_true c4
          try have c4b2 : (9223372036854775807 < (strOfNums y225).size + x5_1.size) = False := eq_false (Nat.not_lt.2 c4)
          have H' := Aside0.mk H
          clear H
          go_wp2_with (first | ((with_reducible refine gate_dst (N := 15) rfl ?_); refine Kd.R_lit (Kd.int .u8) _ 5 ?hg (N := 15) ?hd (xs := ([(Int.tmod x0_1 256) % 256] : List Int)) (inner := [.int .u8 ((Int.tmod x0_1 256) % 256)]) (ok := fun _ => True) (okp := fun _ => True) ?hr ?hp (fun _ hk => hk) trivial (Below.refl _ _) (Nat.le_refl _) (by simp) ?_; (case hd => rfl); (case hg => rfl); (case hr => first | (go_simp; done) | (go_simp; rfl)); (case hp => exact (Reps.one (show Kd.M (Kd.int .u8) _ _ _ ((Int.tmod x0_1 256) % 256) [.int .u8 ((Int.tmod x0_1 256) % 256)] from rfl) (Reps.none _ _))); intro v226 w5 ho6 hb hg_ hnew_; clear hg_ hnew_; (first | rw [← Ny225.out] at ho6 | (simp only [Int.reduceToNat] at ho6; rw [← Ny225.out] at ho6)); have n0_ := Aside0.mk (Kd.R_lower ho6 (below_size (by repeat (first | (with_reducible first | exact HB.out | apply below_alloc | apply pw_below_drewN | apply below_drew1) | exact HB.out)))); have n1_ := Aside0.mk (below_step (by repeat (first | (with_reducible first | exact HB.out | apply below_alloc | apply pw_below_drewN | apply below_drew1) | exact HB.out)) hb); clear HB; have HO227 := n0_; have HB := n1_; clear n0_ n1_; clear hb ho6; have hcv7 := own_string (P := Tryd.prog) Tryd.underlying77 Tryd.underlying5 Tryd.underlying9 (Kd.own_of_R HO227.out)))
          go_roundg k1
          case measure => have := HK1.out; omega
          case rel => exact ⟨(IntKind.u64.wrap (Int.tdiv x0_1 256)), ((strOfNums y225) ++ x5_1), (wrap64 (x6_1 + 1)), (by first | rfl | (simp; done) | (simp [*]; done)), (by first | rfl | (simp; done) | (simp [*]; done)), (by first | rfl | (simp; done) | (simp [*]; done)), H', ⟨by have := HK1.out; omega⟩, ⟨by repeat (first | (with_reducible first | exact HB.out | apply below_alloc | apply pw_below_drewN | apply below_drew1) | exact HB.out)⟩⟩
        · rw [if_neg c4] at H
          exact absurd H (by simp)
      · rw [if_neg c3] at H
        have c3b0 : decide (x6_1 < a1) = false := decide_eq_false c3
        clear c3
        obtain rfl := Option.some.inj H
        go_wp2
        go_ret
        exact ⟨by first | rfl | (simp [errW_none, errW_some] <;> rfl) | (simp [*, errW_none, errW_some] <;> rfl), by repeat (first | (with_reducible first | exact HB.out | apply below_alloc | apply pw_below_drewN | apply below_drew1) | exact HB.out)⟩

/-! ### lockgateref01_Text: function 38 -/
def lockgateref01_Text.f (k : Nat) (a0 : ByteArray) : Option (ByteArray × Int) := if (a0.size : Int) > 65535 then (some ((⟨#[]⟩ : ByteArray), 11)) else ((lockgateref01_Num.f k (IntKind.u64.wrap ((a0.size : Int))) 2).bind fun t228 => (if t228.size + a0.size ≤ 9223372036854775807 then (some (t228 ++ a0, 0)) else (none)))
theorem lockgateref01_Text.mono : ∀ a0 k, LeO (lockgateref01_Text.f k a0) (lockgateref01_Text.f (k + 1) a0) := by
  intro a0 k
  unfold lockgateref01_Text.f
  repeat' first
      | (with_reducible exact lockgateref01_Num.mono _ _ _)
      | (with_reducible exact LeO.refl _)
      | (with_reducible exact LeO.none _)
      | (with_reducible refine LeO.ite ?_ ?_)
      | (with_reducible refine LeO.bind ?_ (fun _ => ?_))
      | exact lockgateref01_Num.mono _ _ _
      | exact LeO.none _
      | refine LeO.ite ?_ ?_
      | refine LeO.bind ?_ (fun _ => ?_)
set_option maxHeartbeats 8000000 in
set_option maxRecDepth 100000 in
theorem lockgateref01_Text.calls (k : Nat) (a0 : ByteArray) (r1 : ByteArray) (r2 : Int) (w : World) (h : lockgateref01_Text.f k a0 = some (r1, r2)) :
    Calls Tryd.prog 38 #[.string a0] w fun e w' => e = .returned (.tuple #[.string r1, .int .i64 r2]) ∧ Below w.heap.size w w' := by
  have HB := Aside0.mk (Below.refl w.heap.size w)
  have H : (if (a0.size : Int) > 65535 then (some ((⟨#[]⟩ : ByteArray), 11)) else ((lockgateref01_Num.f k (IntKind.u64.wrap ((a0.size : Int))) 2).bind fun t228 => (if t228.size + a0.size ≤ 9223372036854775807 then (some (t228 ++ a0, 0)) else (none)))) = some (r1, r2) := h
  clear h
  by_cases c2 : (a0.size : Int) > 65535
  · rw [if_pos c2] at H
    have c2b0 : decide (65535 < (a0.size : Int)) = true := decide_eq_true c2
    have c2b1 : decide (65535 < a0.size) = true := decide_eq_true (by omega)
    clear c2
    simp only [Option.some.injEq, Prod.mk.injEq] at H
    obtain ⟨rfl, rfl⟩ := H
    go_enter Tryd.func38, Tryd.ntmps38
    go_wp2
    go_ret2
    exact ⟨by first | rfl | (simp [errW_none, errW_some] <;> rfl) | (simp [*, errW_none, errW_some] <;> rfl), by repeat (first | (with_reducible first | exact HB.out | apply below_alloc | apply pw_below_drewN | apply below_drew1) | exact HB.out)⟩
  · rw [if_neg c2] at H
    have c2b0 : decide (65535 < (a0.size : Int)) = false := decide_eq_false c2
    have c2b1 : decide (65535 < a0.size) = false := decide_eq_false (by omega)
    clear c2
    replace H := Option.bind_eq_some_iff.mp H
    obtain ⟨t228, A30, H⟩ := H
    replace H : (if t228.size + a0.size ≤ 9223372036854775807 then (some (t228 ++ a0, 0)) else (none)) = some (r1, r2) := H
    have A3 := Aside0.mk A30
    clear A30
    by_cases c4 : t228.size + a0.size ≤ 9223372036854775807
    · rw [if_pos c4] at H
      have c4b0 := eq_true c4
      have c4b1 : decide (t228.size + a0.size ≤ 9223372036854775807) = true := decide_eq_true c4
      try have c4b2 : (9223372036854775807 < t228.size + a0.size) = False := eq_false (Nat.not_lt.2 c4)
      simp only [Option.some.injEq, Prod.mk.injEq] at H
      obtain ⟨rfl, rfl⟩ := H
      go_enter Tryd.func38, Tryd.ntmps38
      go_wp2_with (first | ((with_reducible refine gate_callee (f := 39) rfl ?_); refine goesL_ (some 10) rfl rfl Tryd.func39 (by kernel_rfl) rfl #[.int .u64 (IntKind.u64.wrap ((a0.size : Int))), .int .i64 2] rfl (by (try simp only [List.map_toArray, List.map_cons, List.map_nil]); first | done | rfl | (simp only [List.length_drop, List.length_take]; rfl)) ?_; (with_reducible refine (lockgateref01_Num.calls k (IntKind.u64.wrap ((a0.size : Int))) 2 t228 _ A3.out).mono ?_); rintro e w5 ⟨rfl, hb⟩; refine ⟨_, rfl, ?_⟩; have n0_ := Aside0.mk (below_step (by repeat (first | (with_reducible first | exact HB.out | apply below_alloc | apply pw_below_drewN | apply below_drew1) | exact HB.out)) hb); clear HB; have HB := n0_; clear n0_; (try clear hb); (try clear hb2); (try clear hk); (try clear hi)) | ((with_reducible refine gate_callee (f := 39) rfl ?_); refine goesL_ (some 10) rfl rfl Tryd.func39 (by kernel_rfl) rfl #[.int .u64 ((a0.size : Int)), .int .i64 2] rfl (by (try simp only [List.map_toArray, List.map_cons, List.map_nil]); first | done | rfl | (simp only [List.length_drop, List.length_take]; rfl)) ?_; (have h_ := A3.out); (repeat (first | rw [IntWalk.u64_in _ ⟨by (try simp only [decide_eq_true_eq, decide_eq_false_iff_not] at *); omega, by (try simp only [decide_eq_true_eq, decide_eq_false_iff_not] at *); omega⟩] at h_)); (with_reducible refine (lockgateref01_Num.calls k ((a0.size : Int)) 2 t228 _ h_).mono ?_); clear h_; rintro e w5 ⟨rfl, hb⟩; refine ⟨_, rfl, ?_⟩; have n0_ := Aside0.mk (below_step (by repeat (first | (with_reducible first | exact HB.out | apply below_alloc | apply pw_below_drewN | apply below_drew1) | exact HB.out)) hb); clear HB; have HB := n0_; clear n0_; (try clear hb); (try clear hb2); (try clear hk); (try clear hi)))
      go_ret2
      exact ⟨by first | rfl | (simp [errW_none, errW_some] <;> rfl) | (simp [*, errW_none, errW_some] <;> rfl), by repeat (first | (with_reducible first | exact HB.out | apply below_alloc | apply pw_below_drewN | apply below_drew1) | exact HB.out)⟩
    · rw [if_neg c4] at H
      exact absurd H (by simp)

/-! ### lockgateref15_Bytes: function 22 -/
def lockgateref15_Bytes.l0 : Nat → List (S43) → ByteArray → Int → Option (ByteArray × Int)
  | 0, _, _, _ => none
  | k + 1, x0, x5, x6 => if x6 < (x0.length : Int) then (if 0 ≤ x6 then ((lockgateref01_Text.f k ((rd_T43 x0 x6).f0)).bind fun bt231 => (if x5.size + bt231.1.size ≤ 9223372036854775807 then ((lockgateref01_Num.f k (IntKind.u64.wrap ((rd_T43 x0 x6).f1)) 4).bind fun t234 => (if (x5 ++ bt231.1).size + t234.size ≤ 9223372036854775807 then (lockgateref15_Bytes.l0 k x0 ((x5 ++ bt231.1) ++ t234) (wrap64 (x6 + 1))) else (none))) else (none))) else (none)) else (some (x5, 0))
def lockgateref15_Bytes.f (k : Nat) (l0 : List (S43)) : Option (ByteArray × Int) := (lockgateref15_Right.f k l0).bind fun t229 => (if t229 = true then (lockgateref15_Bytes.l0 k l0 (⟨#[]⟩ : ByteArray) 0) else (some ((⟨#[]⟩ : ByteArray), 1)))
theorem lockgateref15_Bytes.mono_l : ∀ k, (∀ y0 y1 y2, LeO (lockgateref15_Bytes.l0 k y0 y1 y2) (lockgateref15_Bytes.l0 (k + 1) y0 y1 y2))
  | 0 => fun _ _ _ r h => by simp [lockgateref15_Bytes.l0] at h
  | k + 1 => by
    have ih0 := lockgateref15_Bytes.mono_l k
    · intro y0 y1 y2
      unfold lockgateref15_Bytes.l0
      repeat' first
      | (with_reducible exact ih0 _ _ _)
      | (with_reducible exact lockgateref01_Num.mono _ _ _)
      | (with_reducible exact lockgateref01_Text.mono _ _)
      | (with_reducible exact lockgateref15_Right.mono _ _)
      | (with_reducible exact LeO.refl _)
      | (with_reducible exact LeO.none _)
      | (with_reducible refine LeO.ite ?_ ?_)
      | (with_reducible refine LeO.bind ?_ (fun _ => ?_))
      | exact ih0 _ _ _
      | exact lockgateref01_Num.mono _ _ _
      | exact lockgateref01_Text.mono _ _
      | exact lockgateref15_Right.mono _ _
      | exact LeO.none _
      | refine LeO.ite ?_ ?_
      | refine LeO.bind ?_ (fun _ => ?_)
theorem lockgateref15_Bytes.mono : ∀ a0 k, LeO (lockgateref15_Bytes.f k a0) (lockgateref15_Bytes.f (k + 1) a0) := by
  intro a0 k
  have ih0 := lockgateref15_Bytes.mono_l k
  unfold lockgateref15_Bytes.f
  repeat' first
      | (with_reducible exact ih0 _ _ _)
      | (with_reducible exact lockgateref01_Num.mono _ _ _)
      | (with_reducible exact lockgateref01_Text.mono _ _)
      | (with_reducible exact lockgateref15_Right.mono _ _)
      | (with_reducible exact LeO.refl _)
      | (with_reducible exact LeO.none _)
      | (with_reducible refine LeO.ite ?_ ?_)
      | (with_reducible refine LeO.bind ?_ (fun _ => ?_))
      | exact ih0 _ _ _
      | exact lockgateref01_Num.mono _ _ _
      | exact lockgateref01_Text.mono _ _
      | exact lockgateref15_Right.mono _ _
      | exact LeO.none _
      | refine LeO.ite ?_ ?_
      | refine LeO.bind ?_ (fun _ => ?_)
set_option maxHeartbeats 8000000 in
set_option maxRecDepth 100000 in
theorem lockgateref15_Bytes.calls (k : Nat) (A0 : Option Addr) (c0 : Nat) (l0 : List (S43)) (r1 : ByteArray) (r2 : Int) (w : World) (hr0 : Kd.C k43 w A0 l0.length l0) (hc0 : l0.length ≤ c0) (h : lockgateref15_Bytes.f k l0 = some (r1, r2)) :
    Calls Tryd.prog 22 #[.slice A0 l0.length c0] w fun e w' => e = .returned (.tuple #[.string r1, .int .i64 r2]) ∧ Below w.heap.size w w' := by
  have HR0 := Aside0.mk hr0
  have HC0 := Aside0.mk hc0
  clear hr0 hc0
  have HB := Aside0.mk (Below.refl w.heap.size w)
  have H : ((lockgateref15_Right.f k l0).bind fun t229 => (if t229 = true then (lockgateref15_Bytes.l0 k l0 (⟨#[]⟩ : ByteArray) 0) else (some ((⟨#[]⟩ : ByteArray), 1)))) = some (r1, r2) := h
  clear h
  replace H := Option.bind_eq_some_iff.mp H
  obtain ⟨t229, A20, H⟩ := H
  replace H : (if t229 = true then (lockgateref15_Bytes.l0 k l0 (⟨#[]⟩ : ByteArray) 0) else (some ((⟨#[]⟩ : ByteArray), 1))) = some (r1, r2) := H
  have A2 := Aside0.mk A20
  clear A20
  by_cases c3 : t229 = true
  · subst c3
    have H1 : (lockgateref15_Bytes.l0 k l0 (⟨#[]⟩ : ByteArray) 0) = some (r1, r2) := by rw [if_pos rfl] at H; exact H
    clear H
    have H := H1
    clear H1
    have H' := Aside0.mk H
    clear H
    go_enter Tryd.func22, Tryd.ntmps22
    go_wp2_with (first | ((with_reducible refine gate_callee (f := 37) rfl ?_); refine goesL_ (some 10) rfl rfl Tryd.func37 (by kernel_rfl) rfl #[.slice A0 l0.length c0] rfl (by (try simp only [List.map_toArray, List.map_cons, List.map_nil]); first | done | rfl | (simp only [List.length_drop, List.length_take]; rfl)) ?_; (with_reducible refine (lockgateref15_Right.calls k _ _ l0 true _ ?side1 ?side2 A2.out).mono ?_); (case side1 => repeat (first | exact HR0.out | (with_reducible refine Kd.C_alloc ?_ _) | (with_reducible refine Kd.C_drewN ?_ _) | (with_reducible refine Kd.C_drew ?_))); (case side2 => exact HC0.out); rintro e w' ⟨rfl, ⟨nd, rfl⟩⟩; refine ⟨_, rfl, ?_⟩))
    go_loopg [5, 6] k (fun kq v5 v6 w' => ∃ (x5_1 : ByteArray) (x6_1 : Int), v5 = .string x5_1 ∧ v6 = .int .i64 x6_1 ∧ Aside0 (lockgateref15_Bytes.l0 kq l0 x5_1 x6_1 = some (r1, r2)) ∧ Aside0 (kq ≤ k) ∧ Aside0 (Below w.heap.size w w'))
    case atStart => exact ⟨((⟨#[]⟩ : ByteArray)), (0), (by first | rfl | (simp; done) | (simp [*]; done)), (by first | rfl | (simp; done) | (simp [*]; done)), H', ⟨Nat.le_refl _⟩, ⟨by repeat (first | (with_reducible first | exact HB.out | apply below_alloc | apply pw_below_drewN | apply below_drew1) | exact HB.out)⟩⟩
    case round =>
      clear H'
      try clear c2
      try clear p2
      try clear c3
      obtain ⟨x5_1, x6_1, rfl, rfl, HA, HK1, HB⟩ := hrel
      cases gk with
      | zero => exact absurd HA.out (by simp [lockgateref15_Bytes.l0])
      | succ k1 =>
        have H := HA.out
        clear HA
        simp only [lockgateref15_Bytes.l0] at H
        by_cases c4 : x6_1 < (l0.length : Int)
        · rw [if_pos c4] at H
          have c4b0 : decide (x6_1 < (l0.length : Int)) = true := decide_eq_true c4
          clear c4
          by_cases c5 : 0 ≤ x6_1
          · rw [if_pos c5] at H
            have c5b0 : decide (0 ≤ x6_1) = true := decide_eq_true c5
            clear c5
            replace H := Option.bind_eq_some_iff.mp H
            obtain ⟨⟨t231, t232⟩, A60, H⟩ := H
            replace H : (if x5_1.size + t231.size ≤ 9223372036854775807 then ((lockgateref01_Num.f k1 (IntKind.u64.wrap ((rd_T43 l0 x6_1).f1)) 4).bind fun t234 => (if (x5_1 ++ t231).size + t234.size ≤ 9223372036854775807 then (lockgateref15_Bytes.l0 k1 l0 ((x5_1 ++ t231) ++ t234) (wrap64 (x6_1 + 1))) else (none))) else (none)) = some (r1, r2) := H
            have A6 := Aside0.mk A60
            clear A60
            by_cases c7 : x5_1.size + t231.size ≤ 9223372036854775807
            · rw [if_pos c7] at H
              have c7b0 := eq_true c7
              have c7b1 : decide (x5_1.size + t231.size ≤ 9223372036854775807) = true := decide_eq_true c7
              try have c7b2 : (9223372036854775807 < x5_1.size + t231.size) = False := eq_false (Nat.not_lt.2 c7)
              replace H := Option.bind_eq_some_iff.mp H
              obtain ⟨t234, A80, H⟩ := H
              replace H : (if (x5_1 ++ t231).size + t234.size ≤ 9223372036854775807 then (lockgateref15_Bytes.l0 k1 l0 ((x5_1 ++ t231) ++ t234) (wrap64 (x6_1 + 1))) else (none)) = some (r1, r2) := H
              have A8 := Aside0.mk A80
              clear A80
              by_cases c9 : (x5_1 ++ t231).size + t234.size ≤ 9223372036854775807
              · rw [if_pos c9] at H
                have c9b0 := eq_true c9
                have c9b1 : decide ((x5_1 ++ t231).size + t234.size ≤ 9223372036854775807) = true := decide_eq_true c9
                try have c9b2 : (9223372036854775807 < (x5_1 ++ t231).size + t234.size) = False := eq_false (Nat.not_lt.2 c9)
                try have c9b4 : (9223372036854775807 < x5_1.size + t231.size + t234.size) = False := eq_false (by rw [← ByteArray.size_append]; exact Nat.not_lt.2 c9)
                have H' := Aside0.mk H
                clear H
                have p230 : 0 ≤ (x6_1 : Int) := of_decide_eq_true (by first | (with_reducible assumption) | assumption)
                have q230 : x6_1 < (l0.length : Int) := of_decide_eq_true (by first | (with_reducible assumption) | assumption)
                obtain ⟨ad230, e230, hx230_0, hx230_1⟩ := at_T43 HR0.out x6_1 p230 q230
                cases e230
                replace hx230_0 := (HB.out.cell (World.block_lt_of_cell? w _ hx230_0)).trans hx230_0
                replace hx230_1 := (HB.out.cell (World.block_lt_of_cell? w _ hx230_1)).trans hx230_1
                replace p230 := eq_true p230
                replace q230 := eq_true q230
                go_wp2_with (first | ((with_reducible refine gate_callee (f := 38) rfl ?_); refine goesL_ (some 25) rfl rfl Tryd.func38 (by kernel_rfl) rfl #[.string ((rd_T43 l0 x6_1).f0)] rfl (by (try simp only [List.map_toArray, List.map_cons, List.map_nil]); first | done | rfl | (simp only [List.length_drop, List.length_take]; rfl)) ?_; (with_reducible refine (lockgateref01_Text.calls k1 ((rd_T43 l0 x6_1).f0) t231 t232 _ A6.out).mono ?_); rintro e w10 ⟨rfl, hb⟩; refine ⟨_, rfl, ?_⟩; have n0_ := Aside0.mk (below_step (by repeat (first | (with_reducible first | exact HB.out | apply below_alloc | apply pw_below_drewN | apply below_drew1) | exact HB.out)) hb); clear HB; have HB := n0_; clear n0_; (try clear hb); (try clear hb2); (try clear hk); (try clear hi); have p233 : 0 ≤ (x6_1 : Int) := of_decide_eq_true (by first | (with_reducible assumption) | assumption); have q233 : x6_1 < (l0.length : Int) := of_decide_eq_true (by first | (with_reducible assumption) | assumption); obtain ⟨ad233, e233, hx233_0, hx233_1⟩ := at_T43 HR0.out x6_1 p233 q233; obtain rfl : ad230 = ad233 := (by injection e233); replace hx233_0 := (HB.out.cell (World.block_lt_of_cell? w _ hx233_0)).trans hx233_0; replace hx233_1 := (HB.out.cell (World.block_lt_of_cell? w _ hx233_1)).trans hx233_1; replace p233 := eq_true p233; replace q233 := eq_true q233) | ((with_reducible refine gate_callee (f := 39) rfl ?_); refine goesL_ (some 37) rfl rfl Tryd.func39 (by kernel_rfl) rfl #[.int .u64 (IntKind.u64.wrap ((rd_T43 l0 x6_1).f1)), .int .i64 4] rfl (by (try simp only [List.map_toArray, List.map_cons, List.map_nil]); first | done | rfl | (simp only [List.length_drop, List.length_take]; rfl)) ?_; (with_reducible refine (lockgateref01_Num.calls k1 (IntKind.u64.wrap ((rd_T43 l0 x6_1).f1)) 4 t234 _ A8.out).mono ?_); rintro e w11 ⟨rfl, hb⟩; refine ⟨_, rfl, ?_⟩; have n0_ := Aside0.mk (below_step (by repeat (first | (with_reducible first | exact HB.out | apply below_alloc | apply pw_below_drewN | apply below_drew1) | exact HB.out)) hb); clear HB; have HB := n0_; clear n0_; (try clear hb); (try clear hb2); (try clear hk); (try clear hi)) | ((with_reducible refine gate_callee (f := 39) rfl ?_); refine goesL_ (some 37) rfl rfl Tryd.func39 (by kernel_rfl) rfl #[.int .u64 ((rd_T43 l0 x6_1).f1), .int .i64 4] rfl (by (try simp only [List.map_toArray, List.map_cons, List.map_nil]); first | done | rfl | (simp only [List.length_drop, List.length_take]; rfl)) ?_; (have h_ := A8.out); (repeat (first | rw [IntWalk.u64_in _ ⟨by (try simp only [decide_eq_true_eq, decide_eq_false_iff_not] at *); omega, by (try simp only [decide_eq_true_eq, decide_eq_false_iff_not] at *); omega⟩] at h_)); (with_reducible refine (lockgateref01_Num.calls k1 ((rd_T43 l0 x6_1).f1) 4 t234 _ h_).mono ?_); clear h_; rintro e w11 ⟨rfl, hb⟩; refine ⟨_, rfl, ?_⟩; have n0_ := Aside0.mk (below_step (by repeat (first | (with_reducible first | exact HB.out | apply below_alloc | apply pw_below_drewN | apply below_drew1) | exact HB.out)) hb); clear HB; have HB := n0_; clear n0_; (try clear hb); (try clear hb2); (try clear hk); (try clear hi)))
                go_roundg k1
                case measure => have := HK1.out; omega
                case rel => exact ⟨((x5_1 ++ t231) ++ t234), (wrap64 (x6_1 + 1)), (by first | rfl | (simp; done) | (simp [*]; done)), (by first | rfl | (simp; done) | (simp [*]; done)), H', ⟨by have := HK1.out; omega⟩, ⟨by repeat (first | (with_reducible first | exact HB.out | apply below_alloc | apply pw_below_drewN | apply below_drew1) | exact HB.out)⟩⟩
              · rw [if_neg c9] at H
                exact absurd H (by simp)
            · rw [if_neg c7] at H
              exact absurd H (by simp)
          · rw [if_neg c5] at H
            exact absurd H (by simp)
        · rw [if_neg c4] at H
          have c4b0 : decide (x6_1 < (l0.length : Int)) = false := decide_eq_false c4
          clear c4
          simp only [Option.some.injEq, Prod.mk.injEq] at H
          obtain ⟨rfl, rfl⟩ := H
          go_wp2
          go_ret2
          exact ⟨by first | rfl | (simp [errW_none, errW_some] <;> rfl) | (simp [*, errW_none, errW_some] <;> rfl), by repeat (first | (with_reducible first | exact HB.out | apply below_alloc | apply pw_below_drewN | apply below_drew1) | exact HB.out)⟩
  · replace c3 := Bool.eq_false_iff.mpr c3
    subst c3
    have H1 : (some ((⟨#[]⟩ : ByteArray), 1)) = some (r1, r2) := by rw [if_neg (show ¬ (false = true) by decide)] at H; exact H
    clear H
    have H := H1
    clear H1
    simp only [Option.some.injEq, Prod.mk.injEq] at H
    obtain ⟨rfl, rfl⟩ := H
    go_enter Tryd.func22, Tryd.ntmps22
    go_wp2_with (first | ((with_reducible refine gate_callee (f := 37) rfl ?_); refine goesL_ (some 10) rfl rfl Tryd.func37 (by kernel_rfl) rfl #[.slice A0 l0.length c0] rfl (by (try simp only [List.map_toArray, List.map_cons, List.map_nil]); first | done | rfl | (simp only [List.length_drop, List.length_take]; rfl)) ?_; (with_reducible refine (lockgateref15_Right.calls k _ _ l0 false _ ?side1 ?side2 A2.out).mono ?_); (case side1 => repeat (first | exact HR0.out | (with_reducible refine Kd.C_alloc ?_ _) | (with_reducible refine Kd.C_drewN ?_ _) | (with_reducible refine Kd.C_drew ?_))); (case side2 => exact HC0.out); rintro e w' ⟨rfl, ⟨nd, rfl⟩⟩; refine ⟨_, rfl, ?_⟩))
    go_ret2
    exact ⟨by first | rfl | (simp [errW_none, errW_some] <;> rfl) | (simp [*, errW_none, errW_some] <;> rfl), by repeat (first | (with_reducible first | exact HB.out | apply below_alloc | apply pw_below_drewN | apply below_drew1) | exact HB.out)⟩

/-- A state of type 79 at block g of W; what its slices lead to came in by w0. -/
def IsS79 (w0 W : World) (g : Nat) (f0 : ByteArray) (f1 : Bool) : Prop := W.heap[g]? = some (.cells #[.string f0, .bool f1] 79 (0, 0)) ∧ w0.heap.size ≤ g
theorem IsS79.grown {w0 W : World} {g : Nat} {f0 : ByteArray} {f1 : Bool} {W1 : World} {row : Option Nat} (h : IsS79 w0 W g f0 f1) (hw : W.grownBy W1 row) (hne : some g ≠ row) : IsS79 w0 W1 g f0 f1 := by
  obtain ⟨hb, hg⟩ := h
  exact ⟨blk_grown hb hw hne, hg⟩
theorem IsS79.own_neN {w0 W : World} {g : Nat} {f0 : ByteArray} {f1 : Bool} {α : Type} {d : Kd α} {e : Nat} {base : Nat} {ok : Nat → Prop} {v : Value} {xs : List α} (h : IsS79 w0 W g f0 f1) (ho : Kd.N d e W base ok v xs) (ht : e ≠ 79) : some g ≠ v.ownBlock := by
  obtain ⟨hb, hg⟩ := h
  exact Kd.N_ne ho hb ht
theorem IsS79.fresh {w0 W : World} {g : Nat} {f0 : ByteArray} {f1 : Bool} (h : IsS79 w0 W g f0 f1) : ∀ k, W.heap.size ≤ k → k ≠ g := by
  obtain ⟨hb, hg⟩ := h
  exact Kd.freshB hb
theorem IsS79.kept {w0 W : World} {g : Nat} {f0 : ByteArray} {f1 : Bool} {W1 : World} {S : Nat → Prop} (h : IsS79 w0 W g f0 f1) (hk : Kept W W1 S) (hne : ¬ S g) : IsS79 w0 W1 g f0 f1 := by
  obtain ⟨hb, hg⟩ := h
  exact ⟨blk_kept hb hk hne, hg⟩
theorem IsS79.below {w0 W : World} {g : Nat} {f0 : ByteArray} {f1 : Bool} {W1 : World} (h : IsS79 w0 W g f0 f1) (hw : Below W.heap.size W W1) : IsS79 w0 W1 g f0 f1 := h.grown (grown_of_below hw none) (by simp)
theorem IsS79.alloc {w0 W : World} {g : Nat} {f0 : ByteArray} {f1 : Bool} (h : IsS79 w0 W g f0 f1) (o : Obj) : IsS79 w0 (W.alloc o) g f0 f1 := h.below (below_alloc (Below.refl _ _) o)
theorem IsS79.drewN {w0 W : World} {g : Nat} {f0 : ByteArray} {f1 : Bool} (h : IsS79 w0 W g f0 f1) (m : Nat) : IsS79 w0 (W.drewN m) g f0 f1 := h
theorem IsS79.drew {w0 W : World} {g : Nat} {f0 : ByteArray} {f1 : Bool} (h : IsS79 w0 W g f0 f1) : IsS79 w0 W.drew g f0 f1 := h
theorem IsS79.at_ {w0 W : World} {g : Nat} {f0 : ByteArray} {f1 : Bool} {w' : World} {m : Nat} (hq : W.drewN m = w') (h : IsS79 w0 W g f0 f1) : IsS79 w0 w' g f0 f1 := by subst hq; exact IsS79.drewN h m
theorem IsS79.apart {w0 W : World} {g : Nat} {f0 : ByteArray} {f1 : Bool} {α : Type} {d : Kd α} {e : Nat} {base : Nat} {ok : Nat → Prop} {v : Value} {xs : List α} (h : IsS79 w0 W g f0 f1) (ho : d.R e W base ok v xs) (ht : ∀ q, q ∈ e :: d.E → q ≠ 79) : d.R e W base (fun k => ok k ∧ k ≠ g) v xs := by
  obtain ⟨hb, hg⟩ := h
  exact Kd.R_types ho hb ht
theorem IsS79.own_ne {w0 W : World} {g : Nat} {f0 : ByteArray} {f1 : Bool} {α : Type} {d : Kd α} {e : Nat} {base : Nat} {ok : Nat → Prop} {v : Value} {xs : List α} (h : IsS79 w0 W g f0 f1) (ho : d.R e W base ok v xs) (ht : e ≠ 79) : some g ≠ v.ownBlock := by
  obtain ⟨hb, hg⟩ := h
  exact Kd.R_ne ho hb ht
theorem IsS79.apartQ {w0 W : World} {g : Nat} {f0 : ByteArray} {f1 : Bool} {α : Type} {d : Kd α} {e : Nat} {base : Nat} {ok : Nat → Prop} {v : Value} {xs : List α} (h : IsS79 w0 W g f0 f1) (ho : d.Q e W base ok v xs) (ht : ∀ q, q ∈ e :: d.E → q ≠ 79) : d.Q e W base (fun k => ok k ∧ k ≠ g) v xs := by
  obtain ⟨hb, hg⟩ := h
  exact Kd.Q_types ho hb ht
theorem IsS79.own_neQ {w0 W : World} {g : Nat} {f0 : ByteArray} {f1 : Bool} {α : Type} {d : Kd α} {e : Nat} {base : Nat} {ok : Nat → Prop} {v : Value} {xs : List α} (h : IsS79 w0 W g f0 f1) (ho : d.Q e W base ok v xs) (ht : e ≠ 79) : some g ≠ v.ownBlock := by
  obtain ⟨hb, hg⟩ := h
  exact Kd.Q_ne ho hb ht
theorem IsS79.apartS {w0 W : World} {g : Nat} {f0 : ByteArray} {f1 : Bool} {α : Type} {d : Kd α} {e : Nat} {base : Nat} {ok : Nat → Prop} {v : Value} {xs : List α} (h : IsS79 w0 W g f0 f1) (ho : d.S e W base ok v xs) (ht : ∀ q, q ∈ e :: d.E → q ≠ 79) : d.S e W base (fun k => ok k ∧ k ≠ g) v xs := by
  obtain ⟨hb, hg⟩ := h
  exact Kd.S_types ho hb ht
theorem IsS79.own_neS {w0 W : World} {g : Nat} {f0 : ByteArray} {f1 : Bool} {α : Type} {d : Kd α} {e : Nat} {base : Nat} {ok : Nat → Prop} {v : Value} {xs : List α} (h : IsS79 w0 W g f0 f1) (ho : d.S e W base ok v xs) (ht : e ≠ 79) : some g ≠ v.ownBlock := by
  obtain ⟨hb, hg⟩ := h
  exact Kd.S_ne ho hb ht
theorem IsS79.lt {w0 W : World} {g : Nat} {f0 : ByteArray} {f1 : Bool} (h : IsS79 w0 W g f0 f1) : g < W.heap.size := by
  obtain ⟨hb, hg⟩ := h
  exact blk_lt hb
theorem IsS79.ge {w0 W : World} {g : Nat} {f0 : ByteArray} {f1 : Bool} (h : IsS79 w0 W g f0 f1) : w0.heap.size ≤ g := by
  obtain ⟨hb, hg⟩ := h
  exact hg
theorem IsS79.ne_blk {w0 W : World} {g : Nat} {f0 : ByteArray} {f1 : Bool} {a : Nat} {cs : Array Value} {t : TypeId} {fr : Nat × Nat} (h : IsS79 w0 W g f0 f1) (hb2 : W.heap[a]? = some (.cells cs t fr)) (ht : t ≠ 79) : g ≠ a := by
  obtain ⟨hb, hg⟩ := h
  rintro rfl
  rw [hb] at hb2
  injection hb2 with hb2
  injection hb2 with _ ht2
  exact ht ht2.symm
theorem IsS79.far {w0 W : World} {g : Nat} {f0 : ByteArray} {f1 : Bool} {p : Addr} (h : IsS79 w0 W g f0 f1) (hne : g ≠ p.block) (u : Value) : IsS79 w0 (W.setCell p u) g f0 f1 := by
  obtain ⟨hb, hg⟩ := h
  exact ⟨blk_far hb hne u, hg⟩
theorem cellS79_0 {W : World} {g : Nat} {f0 : ByteArray} {f1 : Bool} (h : W.heap[g]? = some (.cells #[.string f0, .bool f1] 79 (0, 0))) : W.cell? ⟨g, 0, none⟩ = some (.string f0) := (blk_cell h 0).trans rfl
theorem IsS79.set_0 {w0 W : World} {g : Nat} {f0 : ByteArray} {f1 : Bool} (h : IsS79 w0 W g f0 f1) (x : ByteArray) : IsS79 w0 (W.setCell ⟨g, 0, none⟩ (.string x)) g x f1 := by
  obtain ⟨hb, hg⟩ := h
  exact ⟨by simpa using blk_set hb 0 (.string x), hg⟩
theorem cellS79_1 {W : World} {g : Nat} {f0 : ByteArray} {f1 : Bool} (h : W.heap[g]? = some (.cells #[.string f0, .bool f1] 79 (0, 0))) : W.cell? ⟨g, 1, none⟩ = some (.bool f1) := (blk_cell h 1).trans rfl
theorem IsS79.set_1 {w0 W : World} {g : Nat} {f0 : ByteArray} {f1 : Bool} (h : IsS79 w0 W g f0 f1) (x : Bool) : IsS79 w0 (W.setCell ⟨g, 1, none⟩ (.bool x)) g f0 x := by
  obtain ⟨hb, hg⟩ := h
  exact ⟨by simpa using blk_set hb 1 (.bool x), hg⟩
theorem IsS79.new (w0 W : World) (f0 : ByteArray) (f1 : Bool) (hB : Below w0.heap.size w0 W) : IsS79 w0 (W.alloc (.cells #[.string f0, .bool f1] 79)) W.heap.size f0 f1 := ⟨by simpa using heap_alloc_new W _, hB.size⟩

/-! ### pack_Read: function 40 -/
def pack_Read.f (a0 : ByteArray) : Option (ByteArray × Bool) := some (a0, false)
set_option maxHeartbeats 8000000 in
set_option maxRecDepth 100000 in
theorem pack_Read.calls (a0 : ByteArray) (r1 : ByteArray) (r2 : Bool) (w0 w : World) (hB : Below w0.heap.size w0 w) (h : pack_Read.f a0 = some (r1, r2)) :
    Calls Tryd.prog 40 #[.string a0] w fun e w' => ∃ g_ : Nat, e = .returned (.pointer (some ⟨g_, 0, none⟩)) ∧ IsS79 w0 w' g_ r1 r2 ∧ Below w0.heap.size w0 w' ∧ Below w.heap.size w w' := by
  have hu79 := Tryd.underlying79
  have HBW := Aside0.mk (Below.refl w.heap.size w)
  have HW0 := Aside0.mk hB.size
  have HB := Aside0.mk hB
  clear hB
  have H : (some (a0, false)) = some (r1, r2) := h
  clear h
  simp only [Option.some.injEq, Prod.mk.injEq] at H
  obtain ⟨rfl, rfl⟩ := H
  go_enter Tryd.func40, Tryd.ntmps40
  go_wp2_with (first | ((with_reducible refine gate_dst (N := 5) rfl ?_); refine box_event ?hg (N := 5) ?hd (cs := #[.string a0, .bool false]) (t := 79) ?hr ?_; (case hd => rfl); (case hg => rfl); (case hr => first | (go_simp; done) | (go_simp; rfl)); intro gb235 hg w2 hbox hb; have n0_ := Aside0.mk (below_step HBW.out hb); have n1_ := Aside0.mk (below_step (by repeat (first | (with_reducible first | exact HB.out | apply below_alloc | apply pw_below_drewN | apply below_drew1) | exact HB.out)) hb); have n2_ := Aside0.mk (hbox); have n3_ := Aside0.mk ((by rw [hg]; exact (below_size (by repeat (first | (with_reducible first | exact HBW.out | apply below_alloc | apply pw_below_drewN | apply below_drew1) | exact HBW.out))) : w.heap.size ≤ gb235)); have n4_ := Aside0.mk ((Nat.le_trans HW0.out (by rw [hg]; exact (below_size (by repeat (first | (with_reducible first | exact HBW.out | apply below_alloc | apply pw_below_drewN | apply below_drew1) | exact HBW.out))) : w.heap.size ≤ gb235) : w0.heap.size ≤ gb235)); clear HBW; clear HB; have HBW := n0_; have HB := n1_; have BK235 := n2_; have GW235 := n3_; have GE235 := n4_; clear n0_ n1_ n2_ n3_ n4_; clear hb hbox hg))
  go_ret
  exact ⟨_, rfl, (show IsS79 w0 _ gb235 a0 false from ⟨by (with_reducible repeat (first | refine blk_drewN ?_ _ | refine blk_drew ?_ | refine blk_alloc ?_ _)); exact BK235.out, GE235.out⟩), by repeat (first | (with_reducible first | exact HB.out | apply below_alloc | apply pw_below_drewN | apply below_drew1 | refine below_set ?_ GE235.out) | exact HB.out), by repeat (first | (with_reducible first | exact HBW.out | apply below_alloc | apply pw_below_drewN | apply below_drew1 | refine below_set ?_ GW235.out) | exact HBW.out)⟩

/-! ### pack_Reader_Left: function 41 -/
def pack_Reader_Left.f (s0_0 : ByteArray) (s0_1 : Bool) : Option (Int × ByteArray × Bool) := if s0_1 = true then (some (0, s0_0, s0_1)) else (some ((s0_0.size : Int), s0_0, s0_1))
set_option maxHeartbeats 8000000 in
set_option maxRecDepth 100000 in
theorem pack_Reader_Left.calls (g : Nat) (s0_0 : ByteArray) (s0_1 : Bool) (r1 : Int) (r2 : ByteArray) (r3 : Bool) (w0 w : World) (hI : IsS79 w0 w g s0_0 s0_1) (hB : Below w0.heap.size w0 w) (h : pack_Reader_Left.f s0_0 s0_1 = some (r1, r2, r3)) :
    Calls Tryd.prog 41 #[.pointer (some ⟨g, 0, none⟩)] w fun e w' => e = .returned (.int .i64 r1) ∧ IsS79 w0 w' g r2 r3 ∧ Below w0.heap.size w0 w' ∧ KeepBut w w' g none := by
  have HI0 := Aside0.mk hI
  have HK := Aside0.mk (KeepBut.refl w g none)
  have HL := Aside0.mk hB.size
  clear hI
  have HW0 := Aside0.mk hB.size
  have HB := Aside0.mk hB
  clear hB
  have H : (if s0_1 = true then (some (0, s0_0, s0_1)) else (some ((s0_0.size : Int), s0_0, s0_1))) = some (r1, r2, r3) := h
  clear h
  by_cases c2 : s0_1 = true
  · subst c2
    have H1 : (some (0, s0_0, true)) = some (r1, r2, r3) := by rw [if_pos rfl] at H; exact H
    clear H
    have H := H1
    clear H1
    simp only [Option.some.injEq, Prod.mk.injEq] at H
    obtain ⟨rfl, rfl, rfl⟩ := H
    obtain ⟨HGz3, hgz3⟩ := HI0.out
    have hcz3_0 := cellS79_0 HGz3
    have hcz3_1 := cellS79_1 HGz3
    have hfz3_0 := blk_frozen HGz3 0
    have hfz3_1 := blk_frozen HGz3 1
    clear HGz3 hgz3
    go_enter Tryd.func41, Tryd.ntmps41
    go_wp2
    go_ret
    exact ⟨by first | rfl | (simp [errW_none, errW_some] <;> rfl) | (simp [*, errW_none, errW_some] <;> rfl), by repeat (first | (with_reducible first | exact HI0.out | apply IsS79.alloc | apply IsS79.drewN | apply IsS79.drew | apply IsS79.set_0 | apply IsS79.set_1) | exact HI0.out), by repeat (first | (with_reducible first | exact HB.out | apply below_alloc | apply pw_below_drewN | apply below_drew1 | refine below_set ?_ (IsS79.ge HI0.out)) | exact HB.out), by repeat (first | (with_reducible first | exact HK.out | apply KeepBut.set_ | apply keep_drewN | apply keep_drew | apply keep_alloc) | exact HK.out)⟩
  · replace c2 := Bool.eq_false_iff.mpr c2
    subst c2
    have H1 : (some ((s0_0.size : Int), s0_0, false)) = some (r1, r2, r3) := by rw [if_neg (show ¬ (false = true) by decide)] at H; exact H
    clear H
    have H := H1
    clear H1
    simp only [Option.some.injEq, Prod.mk.injEq] at H
    obtain ⟨rfl, rfl, rfl⟩ := H
    obtain ⟨HGz4, hgz4⟩ := HI0.out
    have hcz4_0 := cellS79_0 HGz4
    have hcz4_1 := cellS79_1 HGz4
    have hfz4_0 := blk_frozen HGz4 0
    have hfz4_1 := blk_frozen HGz4 1
    clear HGz4 hgz4
    go_enter Tryd.func41, Tryd.ntmps41
    go_wp2
    go_ret
    exact ⟨by first | rfl | (simp [errW_none, errW_some] <;> rfl) | (simp [*, errW_none, errW_some] <;> rfl), by repeat (first | (with_reducible first | exact HI0.out | apply IsS79.alloc | apply IsS79.drewN | apply IsS79.drew | apply IsS79.set_0 | apply IsS79.set_1) | exact HI0.out), by repeat (first | (with_reducible first | exact HB.out | apply below_alloc | apply pw_below_drewN | apply below_drew1 | refine below_set ?_ (IsS79.ge HI0.out)) | exact HB.out), by repeat (first | (with_reducible first | exact HK.out | apply KeepBut.set_ | apply keep_drewN | apply keep_drew | apply keep_alloc) | exact HK.out)⟩

/-! ### pack_Reader_take: function 60 -/
def pack_Reader_take.f (s0_0 : ByteArray) (s0_1 : Bool) (a1 : Int) : Option (ByteArray × Bool × ByteArray × Bool) := if s0_1 = true then (some ((⟨#[]⟩ : ByteArray), false, s0_0, true)) else (if a1 < 0 then (some ((⟨#[]⟩ : ByteArray), false, s0_0, true)) else (if a1 > (s0_0.size : Int) then (some ((⟨#[]⟩ : ByteArray), false, s0_0, decide (a1 > (s0_0.size : Int)))) else (if 0 ≤ a1 then (if a1 ≤ (s0_0.size : Int) then (some (s0_0.extract 0 (a1 : Int).toNat, true, s0_0.extract (a1 : Int).toNat s0_0.size, decide (a1 > (s0_0.size : Int)))) else (none)) else (none))))
set_option maxHeartbeats 8000000 in
set_option maxRecDepth 100000 in
theorem pack_Reader_take.calls (g : Nat) (s0_0 : ByteArray) (s0_1 : Bool) (a1 : Int) (r1 : ByteArray) (r2 : Bool) (r3 : ByteArray) (r4 : Bool) (w0 w : World) (hI : IsS79 w0 w g s0_0 s0_1) (hB : Below w0.heap.size w0 w) (h : pack_Reader_take.f s0_0 s0_1 a1 = some (r1, r2, r3, r4)) :
    Calls Tryd.prog 60 #[.pointer (some ⟨g, 0, none⟩), .int .i64 a1] w fun e w' => e = .returned (.tuple #[.string r1, .bool r2]) ∧ IsS79 w0 w' g r3 r4 ∧ Below w0.heap.size w0 w' ∧ KeepBut w w' g none := by
  have HI0 := Aside0.mk hI
  have HK := Aside0.mk (KeepBut.refl w g none)
  have HL := Aside0.mk hB.size
  clear hI
  have HW0 := Aside0.mk hB.size
  have HB := Aside0.mk hB
  clear hB
  have H : (if s0_1 = true then (some ((⟨#[]⟩ : ByteArray), false, s0_0, true)) else (if a1 < 0 then (some ((⟨#[]⟩ : ByteArray), false, s0_0, true)) else (if a1 > (s0_0.size : Int) then (some ((⟨#[]⟩ : ByteArray), false, s0_0, decide (a1 > (s0_0.size : Int)))) else (if 0 ≤ a1 then (if a1 ≤ (s0_0.size : Int) then (some (s0_0.extract 0 (a1 : Int).toNat, true, s0_0.extract (a1 : Int).toNat s0_0.size, decide (a1 > (s0_0.size : Int)))) else (none)) else (none))))) = some (r1, r2, r3, r4) := h
  clear h
  by_cases c3 : s0_1 = true
  · subst c3
    have H1 : (some ((⟨#[]⟩ : ByteArray), false, s0_0, true)) = some (r1, r2, r3, r4) := by rw [if_pos rfl] at H; exact H
    clear H
    have H := H1
    clear H1
    simp only [Option.some.injEq, Prod.mk.injEq] at H
    obtain ⟨rfl, rfl, rfl, rfl⟩ := H
    obtain ⟨HGz4, hgz4⟩ := HI0.out
    have hcz4_0 := cellS79_0 HGz4
    have hcz4_1 := cellS79_1 HGz4
    have hfz4_0 := blk_frozen HGz4 0
    have hfz4_1 := blk_frozen HGz4 1
    clear HGz4 hgz4
    go_enter Tryd.func60, Tryd.ntmps60
    go_wp2
    go_ret2
    (try simp only [gt_iff_lt, ge_iff_le, c5b0]); (try simp only [gt_iff_lt, ge_iff_le, c7b0])
    exact ⟨by first | rfl | (simp [errW_none, errW_some] <;> rfl) | (simp [*, errW_none, errW_some] <;> rfl), by repeat (first | (with_reducible first | exact HI0.out | apply IsS79.alloc | apply IsS79.drewN | apply IsS79.drew | apply IsS79.set_0 | apply IsS79.set_1) | exact HI0.out), by repeat (first | (with_reducible first | exact HB.out | apply below_alloc | apply pw_below_drewN | apply below_drew1 | refine below_set ?_ (IsS79.ge HI0.out)) | exact HB.out), by repeat (first | (with_reducible first | exact HK.out | apply KeepBut.set_ | apply keep_drewN | apply keep_drew | apply keep_alloc) | exact HK.out)⟩
  · replace c3 := Bool.eq_false_iff.mpr c3
    subst c3
    have H1 : (if a1 < 0 then (some ((⟨#[]⟩ : ByteArray), false, s0_0, true)) else (if a1 > (s0_0.size : Int) then (some ((⟨#[]⟩ : ByteArray), false, s0_0, decide (a1 > (s0_0.size : Int)))) else (if 0 ≤ a1 then (if a1 ≤ (s0_0.size : Int) then (some (s0_0.extract 0 (a1 : Int).toNat, true, s0_0.extract (a1 : Int).toNat s0_0.size, decide (a1 > (s0_0.size : Int)))) else (none)) else (none)))) = some (r1, r2, r3, r4) := by rw [if_neg (show ¬ (false = true) by decide)] at H; exact H
    clear H
    have H := H1
    clear H1
    by_cases c5 : a1 < 0
    · rw [if_pos c5] at H
      have c5b0 : decide (a1 < 0) = true := decide_eq_true c5
      clear c5
      simp only [Option.some.injEq, Prod.mk.injEq] at H
      obtain ⟨rfl, rfl, rfl, rfl⟩ := H
      obtain ⟨HGz6, hgz6⟩ := HI0.out
      have hcz6_0 := cellS79_0 HGz6
      have hcz6_1 := cellS79_1 HGz6
      have hfz6_0 := blk_frozen HGz6 0
      have hfz6_1 := blk_frozen HGz6 1
      clear HGz6 hgz6
      go_enter Tryd.func60, Tryd.ntmps60
      go_wp2
      go_ret2
      (try simp only [gt_iff_lt, ge_iff_le, c5b0]); (try simp only [gt_iff_lt, ge_iff_le, c7b0])
      exact ⟨by first | rfl | (simp [errW_none, errW_some] <;> rfl) | (simp [*, errW_none, errW_some] <;> rfl), by repeat (first | (with_reducible first | exact HI0.out | apply IsS79.alloc | apply IsS79.drewN | apply IsS79.drew | apply IsS79.set_0 | apply IsS79.set_1) | exact HI0.out), by repeat (first | (with_reducible first | exact HB.out | apply below_alloc | apply pw_below_drewN | apply below_drew1 | refine below_set ?_ (IsS79.ge HI0.out)) | exact HB.out), by repeat (first | (with_reducible first | exact HK.out | apply KeepBut.set_ | apply keep_drewN | apply keep_drew | apply keep_alloc) | exact HK.out)⟩
    · rw [if_neg c5] at H
      have c5b0 : decide (a1 < 0) = false := decide_eq_false c5
      clear c5
      by_cases c7 : a1 > (s0_0.size : Int)
      · rw [if_pos c7] at H
        have c7b0 : decide ((s0_0.size : Int) < a1) = true := decide_eq_true c7
        clear c7
        simp only [Option.some.injEq, Prod.mk.injEq] at H
        obtain ⟨rfl, rfl, rfl, rfl⟩ := H
        obtain ⟨HGz8, hgz8⟩ := HI0.out
        have hcz8_0 := cellS79_0 HGz8
        have hcz8_1 := cellS79_1 HGz8
        have hfz8_0 := blk_frozen HGz8 0
        have hfz8_1 := blk_frozen HGz8 1
        clear HGz8 hgz8
        go_enter Tryd.func60, Tryd.ntmps60
        go_wp2
        go_ret2
        (try simp only [gt_iff_lt, ge_iff_le, c5b0]); (try simp only [gt_iff_lt, ge_iff_le, c7b0])
        exact ⟨by first | rfl | (simp [errW_none, errW_some] <;> rfl) | (simp [*, errW_none, errW_some] <;> rfl), by repeat (first | (with_reducible first | exact HI0.out | apply IsS79.alloc | apply IsS79.drewN | apply IsS79.drew | apply IsS79.set_0 | apply IsS79.set_1) | exact HI0.out), by repeat (first | (with_reducible first | exact HB.out | apply below_alloc | apply pw_below_drewN | apply below_drew1 | refine below_set ?_ (IsS79.ge HI0.out)) | exact HB.out), by repeat (first | (with_reducible first | exact HK.out | apply KeepBut.set_ | apply keep_drewN | apply keep_drew | apply keep_alloc) | exact HK.out)⟩
      · rw [if_neg c7] at H
        have c7b0 : decide ((s0_0.size : Int) < a1) = false := decide_eq_false c7
        clear c7
        by_cases c9 : 0 ≤ a1
        · rw [if_pos c9] at H
          have c9b0 := eq_true c9
          have c9b1 : decide (0 ≤ a1) = true := decide_eq_true c9
          clear c9
          by_cases c10 : a1 ≤ (s0_0.size : Int)
          · rw [if_pos c10] at H
            have c10b0 := eq_true c10
            have c10b1 : decide (a1 ≤ (s0_0.size : Int)) = true := decide_eq_true c10
            clear c10
            have c11b0 := eq_true (of_decide_eq_true (by first | (with_reducible assumption) | assumption) : 0 ≤ a1)
            have c12b0 := eq_true (of_decide_eq_true (by first | (with_reducible assumption) | assumption) : a1 ≤ (s0_0.size : Int))
            simp only [Option.some.injEq, Prod.mk.injEq] at H
            obtain ⟨rfl, rfl, rfl, rfl⟩ := H
            obtain ⟨HGz13, hgz13⟩ := HI0.out
            have hcz13_0 := cellS79_0 HGz13
            have hcz13_1 := cellS79_1 HGz13
            have hfz13_0 := blk_frozen HGz13 0
            have hfz13_1 := blk_frozen HGz13 1
            clear HGz13 hgz13
            go_enter Tryd.func60, Tryd.ntmps60
            go_wp2
            go_ret2
            (try simp only [gt_iff_lt, ge_iff_le, c5b0]); (try simp only [gt_iff_lt, ge_iff_le, c7b0])
            exact ⟨by first | rfl | (simp [errW_none, errW_some] <;> rfl) | (simp [*, errW_none, errW_some] <;> rfl), by repeat (first | (with_reducible first | exact HI0.out | apply IsS79.alloc | apply IsS79.drewN | apply IsS79.drew | apply IsS79.set_0 | apply IsS79.set_1) | exact HI0.out), by repeat (first | (with_reducible first | exact HB.out | apply below_alloc | apply pw_below_drewN | apply below_drew1 | refine below_set ?_ (IsS79.ge HI0.out)) | exact HB.out), by repeat (first | (with_reducible first | exact HK.out | apply KeepBut.set_ | apply keep_drewN | apply keep_drew | apply keep_alloc) | exact HK.out)⟩
          · rw [if_neg c10] at H
            exact absurd H (by simp)
        · rw [if_neg c9] at H
          exact absurd H (by simp)

/-! ### pack_Reader_number: function 62: by hand -/
/-- The number of bytes, as the loop makes it. -/
def pack_Reader_number.step (n b : Int) : Int := Go.bits .or .u64 (IntKind.u64.wrap (n * 256)) b
def pack_Reader_number.of (s : ByteArray) : Int := (bytesOf s).foldl pack_Reader_number.step 0
def pack_Reader_number.f (s0_0 : ByteArray) (s0_1 : Bool) (a1 : Int) : Option (Int × ByteArray × Bool) :=
  if s0_0.size ≤ 9223372036854775807 then (pack_Reader_take.f s0_0 s0_1 a1).bind fun r => some (pack_Reader_number.of r.1, r.2.2.1, r.2.2.2) else none
theorem pack_Reader_number.wrap_byte (b : UInt8) : IntKind.u64.wrap ((b.toNat : Nat) : Int) = (b.toNat : Int) := by
  have := b.toNat_lt
  unfold IntKind.wrap
  simp only [IntKind.signed, IntKind.bits, Bool.false_and, Bool.false_eq_true, if_false]
  omega
theorem pack_Reader_number.take_size (s : ByteArray) (b : Bool) (a : Int) (r1 : ByteArray) (r2 : Bool) (r3 : ByteArray) (r4 : Bool) (h : pack_Reader_take.f s b a = some (r1, r2, r3, r4)) : r1.size ≤ s.size := by
  unfold pack_Reader_take.f at h
  repeat' split at h
  all_goals first | (simp at h; obtain ⟨rfl, _⟩ := h; first | (rw [ByteArray.size_extract]; omega) | (show 0 ≤ _; omega)) | cases h
theorem pack_Reader_number.of_take (s : ByteArray) (i : Nat) (hi : i < s.size) : ((bytesOf s).take (i + 1)).foldl pack_Reader_number.step 0 = Go.bits .or .u64 (IntKind.u64.wrap (((bytesOf s).take i).foldl pack_Reader_number.step 0 * 256)) (bt s i) := by
  have hl : i < (bytesOf s).length := by rw [bytesOf_length]; exact hi
  rw [List.take_succ_eq_append_getElem hl, List.foldl_append]
  simp only [List.foldl_cons, List.foldl_nil, pack_Reader_number.step]
  congr 1
  have e : (bytesOf s)[i] = (bytesOf s).getD i 0 := by rw [List.getD_eq_getElem?_getD, List.getElem?_eq_getElem hl]; rfl
  rw [e]
  unfold bt
  rw [dif_pos (by omega)]
  simp only [bytesOf, List.getD_eq_getElem?_getD, List.getElem?_map]
  rw [List.getElem?_eq_getElem (by rw [Array.length_toList]; exact hi)]
  rfl
set_option maxHeartbeats 1000000 in
theorem pack_Reader_number.calls (g : Nat) (s0_0 : ByteArray) (s0_1 : Bool) (a1 : Int) (r1 : Int) (r2 : ByteArray) (r3 : Bool) (w0 w : World) (hI : IsS79 w0 w g s0_0 s0_1) (hB : Below w0.heap.size w0 w) (h : pack_Reader_number.f s0_0 s0_1 a1 = some (r1, r2, r3)) :
    Calls Tryd.prog 62 #[.pointer (some ⟨g, 0, none⟩), .int .i64 a1] w fun e w' => e = .returned (.int .u64 r1) ∧ IsS79 w0 w' g r2 r3 ∧ Below w0.heap.size w0 w' ∧ KeepBut w w' g none := by
  unfold pack_Reader_number.f at h
  by_cases hs : s0_0.size ≤ 9223372036854775807
  case neg => rw [if_neg hs] at h; cases h
  rw [if_pos hs] at h
  obtain ⟨⟨t, ok, l, bad⟩, ht, h⟩ := Option.bind_eq_some_iff.mp h
  simp only [Option.some.injEq, Prod.mk.injEq] at h
  obtain ⟨rfl, rfl, rfl⟩ := h
  have hts := pack_Reader_number.take_size _ _ _ _ _ _ _ ht
  have hC := Aside0.mk (pack_Reader_take.calls g s0_0 s0_1 a1 t ok l bad w0 w hI hB ht)
  clear ht hI hB
  go_enter Tryd.func62, Tryd.ntmps62
  go_wp2_with fail
  refine hC.out.mono ?_
  rintro e w' ⟨rfl, hI', hB', hK'⟩
  have hI1 := Aside0.mk hI'
  have hB1 := Aside0.mk hB'
  have hK1 := Aside0.mk hK'
  clear hI' hB' hK' hC
  go_wp2
  go_loop [8, 9, 20] (fun v8 _ v20 => ∃ i : Nat, i ≤ t.size ∧ v8 = .int .u64 (((bytesOf t).take i).foldl pack_Reader_number.step 0) ∧ v20 = .int .i64 i) (fun _ _ v20 => t.size - (intOf v20).toNat)
  case atStart => exact ⟨0, Nat.zero_le _, rfl, rfl⟩
  case round =>
    obtain ⟨i, hi, rfl, rfl⟩ := hrel
    by_cases hlt : i < t.size
    · have HS := Aside0.mk (pack_Reader_number.of_take t i hlt)
      have hb : bt t i = ((t[i]'hlt).toNat : Int) := by unfold bt; rw [dif_pos (by omega)]; rfl
      rw [hb] at HS
      clear hb
      go_wp2
      go_round
      case rel => exact ⟨i + 1, by omega, by rw [HS.out, pack_Reader_number.wrap_byte], by go_num⟩
      case measure => simp [intOf]; omega
    · obtain rfl : i = t.size := by omega
      go_wp2
      go_ret
      exact ⟨by rw [List.take_of_length_le (by rw [bytesOf_length]; omega)]; rfl, hI1.out, hB1.out, hK1.out⟩


/-! ### pack_Reader_Two: function 61 -/
def pack_Reader_Two.f (s0_0 : ByteArray) (s0_1 : Bool) : Option (Int × ByteArray × Bool) := (pack_Reader_number.f s0_0 s0_1 2).bind fun bt236 => (some (wrap64 (bt236.1), bt236.2.1, bt236.2.2))
set_option maxHeartbeats 8000000 in
set_option maxRecDepth 100000 in
theorem pack_Reader_Two.calls (g : Nat) (s0_0 : ByteArray) (s0_1 : Bool) (r1 : Int) (r2 : ByteArray) (r3 : Bool) (w0 w : World) (hI : IsS79 w0 w g s0_0 s0_1) (hB : Below w0.heap.size w0 w) (h : pack_Reader_Two.f s0_0 s0_1 = some (r1, r2, r3)) :
    Calls Tryd.prog 61 #[.pointer (some ⟨g, 0, none⟩)] w fun e w' => e = .returned (.int .i64 r1) ∧ IsS79 w0 w' g r2 r3 ∧ Below w0.heap.size w0 w' ∧ KeepBut w w' g none := by
  have HI0 := Aside0.mk hI
  have HK := Aside0.mk (KeepBut.refl w g none)
  have HL := Aside0.mk hB.size
  clear hI
  have HW0 := Aside0.mk hB.size
  have HB := Aside0.mk hB
  clear hB
  have H : ((pack_Reader_number.f s0_0 s0_1 2).bind fun bt236 => (some (wrap64 (bt236.1), bt236.2.1, bt236.2.2))) = some (r1, r2, r3) := h
  clear h
  replace H := Option.bind_eq_some_iff.mp H
  obtain ⟨⟨t236, t237, t238⟩, A20, H⟩ := H
  replace H : (some (wrap64 (t236), t237, t238)) = some (r1, r2, r3) := H
  have A2 := Aside0.mk A20
  clear A20
  simp only [Option.some.injEq, Prod.mk.injEq] at H
  obtain ⟨rfl, rfl, rfl⟩ := H
  go_enter Tryd.func61, Tryd.ntmps61
  go_wp2_with (first | ((with_reducible refine gate_callee (f := 62) rfl ?_); refine goesL_ (some 4) rfl rfl Tryd.func62 (by kernel_rfl) rfl #[.pointer (some ⟨g, 0, none⟩), .int .i64 2] rfl (by (try simp only [List.map_toArray, List.map_cons, List.map_nil]); first | done | rfl | (simp only [List.length_drop, List.length_take]; rfl)) ?_; (with_reducible refine (pack_Reader_number.calls g s0_0 s0_1 2 t236 t237 t238 w0 _ ?side1 ?side2 A2.out).mono ?_); (case side1 => repeat (first | (with_reducible first | exact HI0.out | apply IsS79.alloc | apply IsS79.drewN | apply IsS79.drew | apply IsS79.set_0 | apply IsS79.set_1) | exact HI0.out)); (case side2 => repeat (first | (with_reducible first | exact HB.out | apply below_alloc | apply pw_below_drewN | apply below_drew1 | refine below_set ?_ (IsS79.ge HI0.out)) | exact HB.out)); rintro e w3 ⟨rfl, hi, hb, hk⟩; refine ⟨_, rfl, ?_⟩; have n0_ := Aside0.mk (KeepBut.trans (by repeat (first | (with_reducible first | exact HK.out | apply KeepBut.set_ | apply keep_drewN | apply keep_drew | apply keep_alloc) | exact HK.out)) hk (.inl rfl)); have n1_ := Aside0.mk (hb); have n2_ := Aside0.mk (hi); clear HK; clear HB; clear HI0; have HK := n0_; have HB := n1_; have HI0 := n2_; clear n0_ n1_ n2_; (try clear hb); (try clear hb2); (try clear hk); (try clear hi)))
  go_ret
  exact ⟨by first | rfl | (simp [errW_none, errW_some] <;> rfl) | (simp [*, errW_none, errW_some] <;> rfl), by repeat (first | (with_reducible first | exact HI0.out | apply IsS79.alloc | apply IsS79.drewN | apply IsS79.drew | apply IsS79.set_0 | apply IsS79.set_1) | exact HI0.out), by repeat (first | (with_reducible first | exact HB.out | apply below_alloc | apply pw_below_drewN | apply below_drew1 | refine below_set ?_ (IsS79.ge HI0.out)) | exact HB.out), by repeat (first | (with_reducible first | exact HK.out | apply KeepBut.set_ | apply keep_drewN | apply keep_drew | apply keep_alloc) | exact HK.out)⟩

/-! ### pack_Reader_Text: function 42 -/
def pack_Reader_Text.f (s0_0 : ByteArray) (s0_1 : Bool) : Option (ByteArray × ByteArray × Bool) := (pack_Reader_Two.f s0_0 s0_1).bind fun bt239 => ((pack_Reader_take.f bt239.2.1 bt239.2.2 bt239.1).bind fun bt242 => (some (bt242.1, bt242.2.2.1, bt242.2.2.2)))
set_option maxHeartbeats 8000000 in
set_option maxRecDepth 100000 in
theorem pack_Reader_Text.calls (g : Nat) (s0_0 : ByteArray) (s0_1 : Bool) (r1 : ByteArray) (r2 : ByteArray) (r3 : Bool) (w0 w : World) (hI : IsS79 w0 w g s0_0 s0_1) (hB : Below w0.heap.size w0 w) (h : pack_Reader_Text.f s0_0 s0_1 = some (r1, r2, r3)) :
    Calls Tryd.prog 42 #[.pointer (some ⟨g, 0, none⟩)] w fun e w' => e = .returned (.string r1) ∧ IsS79 w0 w' g r2 r3 ∧ Below w0.heap.size w0 w' ∧ KeepBut w w' g none := by
  have HI0 := Aside0.mk hI
  have HK := Aside0.mk (KeepBut.refl w g none)
  have HL := Aside0.mk hB.size
  clear hI
  have HW0 := Aside0.mk hB.size
  have HB := Aside0.mk hB
  clear hB
  have H : ((pack_Reader_Two.f s0_0 s0_1).bind fun bt239 => ((pack_Reader_take.f bt239.2.1 bt239.2.2 bt239.1).bind fun bt242 => (some (bt242.1, bt242.2.2.1, bt242.2.2.2)))) = some (r1, r2, r3) := h
  clear h
  replace H := Option.bind_eq_some_iff.mp H
  obtain ⟨⟨t239, t240, t241⟩, A20, H⟩ := H
  replace H : ((pack_Reader_take.f t240 t241 t239).bind fun bt242 => (some (bt242.1, bt242.2.2.1, bt242.2.2.2))) = some (r1, r2, r3) := H
  have A2 := Aside0.mk A20
  clear A20
  replace H := Option.bind_eq_some_iff.mp H
  obtain ⟨⟨t242, t243, t244, t245⟩, A30, H⟩ := H
  replace H : (some (t242, t244, t245)) = some (r1, r2, r3) := H
  have A3 := Aside0.mk A30
  clear A30
  simp only [Option.some.injEq, Prod.mk.injEq] at H
  obtain ⟨rfl, rfl, rfl⟩ := H
  go_enter Tryd.func42, Tryd.ntmps42
  go_wp2_with (first | ((with_reducible refine gate_callee (f := 61) rfl ?_); refine goesL_ (some 8) rfl rfl Tryd.func61 (by kernel_rfl) rfl #[.pointer (some ⟨g, 0, none⟩)] rfl (by (try simp only [List.map_toArray, List.map_cons, List.map_nil]); first | done | rfl | (simp only [List.length_drop, List.length_take]; rfl)) ?_; (with_reducible refine (pack_Reader_Two.calls g s0_0 s0_1 t239 t240 t241 w0 _ ?side1 ?side2 A2.out).mono ?_); (case side1 => repeat (first | (with_reducible first | exact HI0.out | apply IsS79.alloc | apply IsS79.drewN | apply IsS79.drew | apply IsS79.set_0 | apply IsS79.set_1) | exact HI0.out)); (case side2 => repeat (first | (with_reducible first | exact HB.out | apply below_alloc | apply pw_below_drewN | apply below_drew1 | refine below_set ?_ (IsS79.ge HI0.out)) | exact HB.out)); rintro e w4 ⟨rfl, hi, hb, hk⟩; refine ⟨_, rfl, ?_⟩; have n0_ := Aside0.mk (KeepBut.trans (by repeat (first | (with_reducible first | exact HK.out | apply KeepBut.set_ | apply keep_drewN | apply keep_drew | apply keep_alloc) | exact HK.out)) hk (.inl rfl)); have n1_ := Aside0.mk (hb); have n2_ := Aside0.mk (hi); clear HK; clear HB; clear HI0; have HK := n0_; have HB := n1_; have HI0 := n2_; clear n0_ n1_ n2_; (try clear hb); (try clear hb2); (try clear hk); (try clear hi)) | ((with_reducible refine gate_callee (f := 60) rfl ?_); refine goesL_ (some 9) rfl rfl Tryd.func60 (by kernel_rfl) rfl #[.pointer (some ⟨g, 0, none⟩), .int .i64 t239] rfl (by (try simp only [List.map_toArray, List.map_cons, List.map_nil]); first | done | rfl | (simp only [List.length_drop, List.length_take]; rfl)) ?_; (with_reducible refine (pack_Reader_take.calls g t240 t241 t239 t242 t243 t244 t245 w0 _ ?side1 ?side2 A3.out).mono ?_); (case side1 => repeat (first | (with_reducible first | exact HI0.out | apply IsS79.alloc | apply IsS79.drewN | apply IsS79.drew | apply IsS79.set_0 | apply IsS79.set_1) | exact HI0.out)); (case side2 => repeat (first | (with_reducible first | exact HB.out | apply below_alloc | apply pw_below_drewN | apply below_drew1 | refine below_set ?_ (IsS79.ge HI0.out)) | exact HB.out)); rintro e w5 ⟨rfl, hi, hb, hk⟩; refine ⟨_, rfl, ?_⟩; have n0_ := Aside0.mk (KeepBut.trans (by repeat (first | (with_reducible first | exact HK.out | apply KeepBut.set_ | apply keep_drewN | apply keep_drew | apply keep_alloc) | exact HK.out)) hk (.inl rfl)); have n1_ := Aside0.mk (hb); have n2_ := Aside0.mk (hi); clear HK; clear HB; clear HI0; have HK := n0_; have HB := n1_; have HI0 := n2_; clear n0_ n1_ n2_; (try clear hb); (try clear hb2); (try clear hk); (try clear hi)))
  go_ret
  exact ⟨by first | rfl | (simp [errW_none, errW_some] <;> rfl) | (simp [*, errW_none, errW_some] <;> rfl), by repeat (first | (with_reducible first | exact HI0.out | apply IsS79.alloc | apply IsS79.drewN | apply IsS79.drew | apply IsS79.set_0 | apply IsS79.set_1) | exact HI0.out), by repeat (first | (with_reducible first | exact HB.out | apply below_alloc | apply pw_below_drewN | apply below_drew1 | refine below_set ?_ (IsS79.ge HI0.out)) | exact HB.out), by repeat (first | (with_reducible first | exact HK.out | apply KeepBut.set_ | apply keep_drewN | apply keep_drew | apply keep_alloc) | exact HK.out)⟩

end Go.Proofs.YtgmbmkjdfmoanaaDoor.Q
